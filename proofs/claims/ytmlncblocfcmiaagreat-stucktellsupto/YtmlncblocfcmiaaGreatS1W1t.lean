/- a part of a proof of StuckTells -/
import Derived.Test.YtmlncblocfcmiaaGreatS1Mt
import Derived.Test.YtmlncblocfcmiaaGreatProg
set_option linter.all false
namespace Go.Proofs.YtmlncblocfcmiaaGreat
open Go.RowKit
set_option maxRecDepth 10000
open Tryz
abbrev K0 : aA := ⟨zS, zS⟩
abbrev K1 : ByteArray := ⟨#[120]⟩
abbrev K2 : ByteArray := ⟨#[99, 108, 105]⟩
abbrev K3 : ByteArray := ⟨#[121]⟩
abbrev K4 : ByteArray := ⟨#[111, 119, 110]⟩
abbrev K5 : ByteArray := ⟨#[122]⟩
abbrev K6 : cM := ⟨0⟩
abbrev K7 : aA := ⟨K1, K3⟩
abbrev K9 : aA := ⟨K1, K5⟩
abbrev Ky : aB := ⟨0, K0, zS, K0, K0, zS⟩
abbrev xM : aB := ⟨1, K7, K2, K0, K0, zS⟩
abbrev E4 : aB := ⟨1, K9, K4, K0, K0, zS⟩
abbrev C1 (a b : Int) (d g : ByteArray) (h : Option Addr) (i j : Nat) : List Value := [(.int .i64 a), (.int .i64 b), (.string d), (.string g), (.slice h i j)]
abbrev C2 (y : ByteArray) (z : Option Addr) (A D : Nat) (E : Option Addr) (F G : Nat) (I : ByteArray) (J : Option Addr) (L a : Nat) (b : Option Addr) (d g : Nat) (h i : Int) (j k : ByteArray) (l : Option Addr) (m n : Nat) (p q r s t u : Int) (v : Option Addr) (w x : Nat) : List Value := [(.string y), (.slice z A D), (.slice E F G), (.string I), (.slice J L a), (.slice b d g), (.int .i64 h), (.int .i64 i), (.string j), (.string k), (.slice l m n), (.int .i64 p), (.int .i64 q), (.int .i64 r), (.int .i64 s), (.int .i64 t), (.int .i64 u), (.slice v w x)]
abbrev C3 (m : Int) (n p q r s t u v : ByteArray) (w : Option Addr) (a b : Nat) (d g : Int) (h i : ByteArray) (j : Option Addr) (k l : Nat) : List Value := [(.int .i64 m), (.string n), (.string p), (.string q), (.string r), (.string s), (.string t), (.string u), (.string v), (.slice w a b), (.int .i64 d), (.int .i64 g), (.string h), (.string i), (.slice j k l)]
abbrev C4 : List Value := [(.int .i64 0), (.int .i64 0), (.string zS), (.string zS), (.slice none 0 0)]
abbrev C5 (a : ByteArray) (b : Option Addr) (d g : Nat) (h : Option Addr) (i j : Nat) : List Value := [(.string a), (.slice b d g), (.slice h i j)]
abbrev C6 (d : Int) (g h i j k l m n : ByteArray) (p : Option Addr) (a b : Nat) : List Value := [(.int .i64 d), (.string g), (.string h), (.string i), (.string j), (.string k), (.string l), (.string m), (.string n), (.slice p a b)]
abbrev C7 (d g : ByteArray) (h i : Int) (j k : ByteArray) (l : Option Addr) (m n : Nat) (p : Option Addr) (a b : Nat) : List Value := [(.string d), (.string g), (.int .i64 h), (.int .i64 i), (.string j), (.string k), (.slice l m n), (.slice p a b)]
abbrev C8 (h : Int) (i j k l m n p q : ByteArray) (r : Option Addr) (a b : Nat) (d g : ByteArray) : List Value := [(.int .i64 h), (.string i), (.string j), (.string k), (.string l), (.string m), (.string n), (.string p), (.string q), (.slice r a b), (.int .i64 1), (.int .i64 0), (.string d), (.string g), (.slice none 0 0)]
abbrev C9 : List Value := [(.int .i64 0), (.string (K0.aC)), (.string (K0.aJ)), (.string zS), (.string (K0.aC)), (.string (K0.aJ)), (.string (K0.aC)), (.string (K0.aJ)), (.string zS), (.slice none 0 0), (.int .i64 0), (.int .i64 0), (.string zS), (.string zS), (.slice none 0 0)]
abbrev BA (a : Int) : List Value := [(.int .i64 a), (.int .i64 0), (.string zS), (.string zS), (.slice none 0 0)]
abbrev vJ : List Value := [(.int .i64 2), (.int .i64 0), (.string zS), (.string zS), (.slice none 0 0)]
abbrev Lr (a : Option Addr) (b d : Nat) (g : Option Addr) (h i : Nat) : List Value := [(.string K4), (.slice a b d), (.slice none 0 0), (.string K2), (.slice g h i), (.slice none 0 0), (.int .i64 0), (.int .i64 0), (.string zS), (.string zS), (.slice none 0 0), (.int .i64 0), (.int .i64 0), (.int .i64 0), (.int .i64 0), (.int .i64 0), (.int .i64 0), (.slice none 0 0)]
abbrev Mw (a : Int) (b : Option Addr) (d g : Nat) : List Value := [(.int .i64 a), (.int .i64 0), (.string zS), (.string zS), (.slice b d g)]
abbrev Mz (a : Int) (b : Option Addr) (d g : Nat) : List Value := [(.int .i64 4), (.int .i64 a), (.string zS), (.string zS), (.slice b d g)]
abbrev zP : List Value := [(.int .i64 3), (.int .i64 0), (.string zS), (.string zS), (.slice none 0 0)]
theorem cE : Tryz.prog.follows .mixedOrders = true := by rfl
theorem mc : Tryz.prog.info? 5 = some Tryz.t5 ∧ Tryz.t5.zero = some (.int .u8 0) ∧ Tryz.t5.size = 1 ∧ Tryz.t5.bytes = 1 := ⟨by kernel_rfl, by kernel_rfl, by kernel_rfl, by kernel_rfl⟩
theorem vy : Tryz.prog.info? 9 = some Tryz.t9 ∧ Tryz.t9.zero = some (.string ⟨#[]⟩) ∧ Tryz.t9.size = 1 ∧ Tryz.t9.bytes = 16 := ⟨by kernel_rfl, by kernel_rfl, by kernel_rfl, by kernel_rfl⟩
theorem oX : Tryz.prog.info? 28 = some Tryz.t28 ∧ Tryz.t28.zero = some (.agg #[(.string ⟨#[]⟩), (.string ⟨#[]⟩)]) ∧ Tryz.t28.size = 2 ∧ Tryz.t28.bytes = 32 := ⟨by kernel_rfl, by kernel_rfl, by kernel_rfl, by kernel_rfl⟩
theorem oS : Tryz.prog.info? 38 = some Tryz.t38 ∧ Tryz.t38.zero = some (.agg #[(.string ⟨#[]⟩), (.string ⟨#[]⟩), (.string ⟨#[]⟩)]) ∧ Tryz.t38.size = 3 ∧ Tryz.t38.bytes = 48 := ⟨by kernel_rfl, by kernel_rfl, by kernel_rfl, by kernel_rfl⟩
theorem eJ : Tryz.prog.info? 53 = some Tryz.t53 ∧ Tryz.t53.zero = some (.agg #[(.int .i64 0), (.string ⟨#[]⟩), (.string ⟨#[]⟩), (.string ⟨#[]⟩), (.string ⟨#[]⟩), (.string ⟨#[]⟩), (.string ⟨#[]⟩), (.string ⟨#[]⟩), (.string ⟨#[]⟩)]) ∧ Tryz.t53.size = 9 ∧ Tryz.t53.bytes = 136 := ⟨by kernel_rfl, by kernel_rfl, by kernel_rfl, by kernel_rfl⟩
theorem dI : Tryz.prog.info? 113 = some Tryz.t113 ∧ Tryz.t113.zero = some (.agg #[(.int .i64 0), (.int .i64 0), (.string ⟨#[]⟩), (.string ⟨#[]⟩), (.slice none 0 0)]) ∧ Tryz.t113.size = 5 ∧ Tryz.t113.bytes = 72 := ⟨by kernel_rfl, by kernel_rfl, by kernel_rfl, by kernel_rfl⟩
theorem zx : Tryz.prog.info? 138 = some Tryz.t138 ∧ Tryz.t138.zero = some (.agg #[(.int .i64 0), (.string ⟨#[]⟩), (.string ⟨#[]⟩), (.string ⟨#[]⟩), (.string ⟨#[]⟩), (.string ⟨#[]⟩), (.string ⟨#[]⟩), (.string ⟨#[]⟩), (.string ⟨#[]⟩), (.slice none 0 0), (.int .i64 0), (.int .i64 0), (.string ⟨#[]⟩), (.string ⟨#[]⟩), (.slice none 0 0)]) ∧ Tryz.t138.size = 15 ∧ Tryz.t138.bytes = 232 := ⟨by kernel_rfl, by kernel_rfl, by kernel_rfl, by kernel_rfl⟩
theorem zu : Tryz.prog.info? 263 = some Tryz.t263 ∧ Tryz.t263.zero = some (.agg #[(.string ⟨#[]⟩), (.string ⟨#[]⟩), (.int .i64 0), (.int .i64 0), (.string ⟨#[]⟩), (.string ⟨#[]⟩), (.slice none 0 0), (.slice none 0 0)]) ∧ Tryz.t263.size = 8 ∧ Tryz.t263.bytes = 128 := ⟨by kernel_rfl, by kernel_rfl, by kernel_rfl, by kernel_rfl⟩
theorem iH : dY Tryz.prog 28 0 0 := cV underlying28 rfl sizeOf9 (by decide) rfl
theorem nG : dY Tryz.prog 28 1 1 := cV underlying28 rfl sizeOf9 (by decide) rfl
theorem Ic : (Tryz.prog.fieldsOf 28).toList = (match Tryz.prog.underlying 28 with | some (.struct fs) => fs.toList | _ => []) := by rw [underlying28]; simp [Program.fieldsOf, underlying28]
theorem jc (d : Nat) (x y : aA) (W : World) : (Op.equalIn (d + 2) 28 (.agg (aM x).toArray) (.agg (aM y).toArray)).run Tryz.prog W = .ok (bB x y) W := by
  rw [run_equalIn_struct W (d + 1) 28 _ _ (by kernel_rfl) Tryz.stoodInHeld28, Ic, underlying28]
  exact (kJ (by decide) (mi isAgg9 rfl) (mi isAgg9 rfl) (Jt underlying9 _ _ _ _) (kJ (by decide) (mi isAgg9 rfl) (mi isAgg9 rfl) (Jt underlying9 _ _ _ _) (yc _ _ _)))
theorem B3 : ∀ fs, Tryz.prog.underlying 28 = some (.struct fs) → ∀ w, (fs.mapM (fun (f : Field) => do pure (f.offset, ← sizeOf f.type)) : Sem (Array (Nat × Nat))).run Tryz.prog w = .ok #[(0, 1), (1, 1)] w := by
  intro fs h w
  rw [underlying28] at h
  cases h
  kernel_rfl
theorem jQ : dY Tryz.prog 53 0 0 := cV underlying53 rfl sizeOf3 (by decide) rfl
theorem jT : dY Tryz.prog 53 1 1 := cV underlying53 rfl sizeOf28 (by decide) rfl
theorem qc : dY Tryz.prog 53 2 3 := cV underlying53 rfl sizeOf9 (by decide) rfl
theorem gh : dY Tryz.prog 53 3 4 := cV underlying53 rfl sizeOf28 (by decide) rfl
theorem lP : dY Tryz.prog 53 4 6 := cV underlying53 rfl sizeOf28 (by decide) rfl
theorem nL : dY Tryz.prog 53 5 8 := cV underlying53 rfl sizeOf9 (by decide) rfl
theorem ID : (Tryz.prog.fieldsOf 53).toList = (match Tryz.prog.underlying 53 with | some (.struct fs) => fs.toList | _ => []) := by rw [underlying53]; simp [Program.fieldsOf, underlying53]
theorem oN (d : Nat) (x y : aB) (W : World) : (Op.equalIn (d + 3) 53 (.agg (aG x).toArray) (.agg (aG y).toArray)).run Tryz.prog W = .ok (bT x y) W := by
  rw [run_equalIn_struct W (d + 2) 53 _ _ (by kernel_rfl) Tryz.stoodInHeld53, ID, underlying53]
  exact (kJ (by decide) (mi isAgg3 rfl) (mi isAgg3 rfl) (M6 underlying3 _ _ _ _) (kJ (by decide) (sV isAgg28 sizeOf28 rfl) (sV isAgg28 sizeOf28 rfl) (jc _ x.Head y.Head W) (kJ (by decide) (mi isAgg9 rfl) (mi isAgg9 rfl) (Jt underlying9 _ _ _ _) (kJ (by decide) (sV isAgg28 sizeOf28 rfl) (sV isAgg28 sizeOf28 rfl) (jc _ x.B y.B W) (kJ (by decide) (sV isAgg28 sizeOf28 rfl) (sV isAgg28 sizeOf28 rfl) (jc _ x.C y.C W) (kJ (by decide) (mi isAgg9 rfl) (mi isAgg9 rfl) (Jt underlying9 _ _ _ _) (yc _ _ _)))))))
theorem IW : ∀ fs, Tryz.prog.underlying 53 = some (.struct fs) → ∀ w, (fs.mapM (fun (f : Field) => do pure (f.offset, ← sizeOf f.type)) : Sem (Array (Nat × Nat))).run Tryz.prog w = .ok #[(0, 1), (1, 2), (3, 1), (4, 2), (6, 2), (8, 1)] w := by
  intro fs h w
  rw [underlying53] at h
  cases h
  kernel_rfl
theorem sI : dY Tryz.prog 38 0 0 := cV underlying38 rfl sizeOf28 (by decide) rfl
theorem qN : dY Tryz.prog 38 1 2 := cV underlying38 rfl sizeOf9 (by decide) rfl
theorem Ir : ∀ fs, Tryz.prog.underlying 38 = some (.struct fs) → ∀ w, (fs.mapM (fun (f : Field) => do pure (f.offset, ← sizeOf f.type)) : Sem (Array (Nat × Nat))).run Tryz.prog w = .ok #[(0, 2), (2, 1)] w := by
  intro fs h w
  rw [underlying38] at h
  cases h
  kernel_rfl
theorem Fz : dY Tryz.prog 376 0 0 := cV underlying376 rfl sizeOf57 (by decide) rfl
theorem Mb : ∀ fs, Tryz.prog.underlying 376 = some (.struct fs) → ∀ w, (fs.mapM (fun (f : Field) => do pure (f.offset, ← sizeOf f.type)) : Sem (Array (Nat × Nat))).run Tryz.prog w = .ok #[(0, 1)] w := by
  intro fs h w
  rw [underlying376] at h
  cases h
  kernel_rfl
theorem Cu : dY Tryz.prog 415 0 0 := cV underlying415 rfl sizeOf4 (by decide) rfl
theorem LU : ∀ fs, Tryz.prog.underlying 415 = some (.struct fs) → ∀ w, (fs.mapM (fun (f : Field) => do pure (f.offset, ← sizeOf f.type)) : Sem (Array (Nat × Nat))).run Tryz.prog w = .ok #[(0, 1)] w := by
  intro fs h w
  rw [underlying415] at h
  cases h
  kernel_rfl
theorem Kd : dY Tryz.prog 196 0 0 := cV underlying196 rfl sizeOf9 (by decide) rfl
theorem J7 : dY Tryz.prog 196 1 1 := cV underlying196 rfl sizeOf54 (by decide) rfl
theorem qW : dY Tryz.prog 56 0 0 := cV underlying56 rfl sizeOf53 (by decide) rfl
theorem Lc : dY Tryz.prog 56 1 9 := cV underlying56 rfl sizeOf54 (by decide) rfl
theorem MW : ∀ fs, Tryz.prog.underlying 56 = some (.struct fs) → ∀ w, (fs.mapM (fun (f : Field) => do pure (f.offset, ← sizeOf f.type)) : Sem (Array (Nat × Nat))).run Tryz.prog w = .ok #[(0, 9), (9, 1)] w := by
  intro fs h w
  rw [underlying56] at h
  cases h
  kernel_rfl
theorem ve : dY Tryz.prog 92 0 0 := cV underlying92 rfl sizeOf54 (by decide) rfl
theorem LB : ∀ fs, Tryz.prog.underlying 92 = some (.struct fs) → ∀ w, (fs.mapM (fun (f : Field) => do pure (f.offset, ← sizeOf f.type)) : Sem (Array (Nat × Nat))).run Tryz.prog w = .ok #[(0, 1)] w := by
  intro fs h w
  rw [underlying92] at h
  cases h
  kernel_rfl
theorem fq : dY Tryz.prog 113 0 0 := cV underlying113 rfl sizeOf3 (by decide) rfl
theorem jm : dY Tryz.prog 113 1 1 := cV underlying113 rfl sizeOf3 (by decide) rfl
theorem kU : dY Tryz.prog 113 2 2 := cV underlying113 rfl sizeOf28 (by decide) rfl
theorem fu : dY Tryz.prog 113 3 4 := cV underlying113 rfl sizeOf111 (by decide) rfl
theorem jZ : ∀ fs, Tryz.prog.underlying 113 = some (.struct fs) → ∀ w, (fs.mapM (fun (f : Field) => do pure (f.offset, ← sizeOf f.type)) : Sem (Array (Nat × Nat))).run Tryz.prog w = .ok #[(0, 1), (1, 1), (2, 2), (4, 1)] w := by
  intro fs h w
  rw [underlying113] at h
  cases h
  kernel_rfl
theorem po : dY Tryz.prog 138 0 0 := cV underlying138 rfl sizeOf56 (by decide) rfl
theorem wJ : dY Tryz.prog 138 1 10 := cV underlying138 rfl sizeOf113 (by decide) rfl
theorem Jm : ∀ fs, Tryz.prog.underlying 138 = some (.struct fs) → ∀ w, (fs.mapM (fun (f : Field) => do pure (f.offset, ← sizeOf f.type)) : Sem (Array (Nat × Nat))).run Tryz.prog w = .ok #[(0, 10), (10, 5)] w := by
  intro fs h w
  rw [underlying138] at h
  cases h
  kernel_rfl
theorem F2 : dY Tryz.prog 263 0 0 := cV underlying263 rfl sizeOf28 (by decide) rfl
theorem Cd : dY Tryz.prog 263 1 2 := cV underlying263 rfl sizeOf113 (by decide) rfl
theorem Cw : dY Tryz.prog 263 2 7 := cV underlying263 rfl sizeOf22 (by decide) rfl
theorem qi : dY Tryz.prog 110 0 0 := cV underlying110 rfl sizeOf9 (by decide) rfl
theorem kD : dY Tryz.prog 110 1 1 := cV underlying110 rfl sizeOf107 (by decide) rfl
theorem Cq : dY Tryz.prog 110 2 2 := cV underlying110 rfl sizeOf108 (by decide) rfl
theorem Bk : ∀ fs, Tryz.prog.underlying 110 = some (.struct fs) → ∀ w, (fs.mapM (fun (f : Field) => do pure (f.offset, ← sizeOf f.type)) : Sem (Array (Nat × Nat))).run Tryz.prog w = .ok #[(0, 1), (1, 1), (2, 1)] w := by
  intro fs h w
  rw [underlying110] at h
  cases h
  kernel_rfl
theorem pu : dY Tryz.prog 116 0 0 := cV underlying116 rfl sizeOf110 (by decide) rfl
theorem pq : dY Tryz.prog 116 1 3 := cV underlying116 rfl sizeOf110 (by decide) rfl
theorem JH : dY Tryz.prog 116 2 6 := cV underlying116 rfl sizeOf113 (by decide) rfl
theorem JI : dY Tryz.prog 116 8 17 := cV underlying116 rfl sizeOf49 (by decide) rfl
theorem Gh : ∀ fs, Tryz.prog.underlying 116 = some (.struct fs) → ∀ w, (fs.mapM (fun (f : Field) => do pure (f.offset, ← sizeOf f.type)) : Sem (Array (Nat × Nat))).run Tryz.prog w = .ok #[(0, 3), (3, 3), (6, 5), (11, 1), (12, 2), (14, 1), (15, 1), (16, 1), (17, 1)] w := by
  intro fs h w
  rw [underlying116] at h
  cases h
  kernel_rfl
theorem qw : dY Tryz.prog 294 0 0 := cV underlying294 rfl sizeOf290 (by decide) rfl
theorem CC : dY Tryz.prog 294 1 1 := cV underlying294 rfl sizeOf22 (by decide) rfl
theorem FB : dY Tryz.prog 294 2 2 := cV underlying294 rfl sizeOf291 (by decide) rfl
theorem Cm : dY Tryz.prog 294 3 3 := cV underlying294 rfl sizeOf292 (by decide) rfl
theorem uJ : dY Tryz.prog 294 4 4 := cV underlying294 rfl sizeOf68 (by decide) rfl
theorem zl : dY Tryz.prog 294 5 5 := cV underlying294 rfl sizeOf3 (by decide) rfl
theorem Mf : ∀ fs, Tryz.prog.underlying 294 = some (.struct fs) → ∀ w, (fs.mapM (fun (f : Field) => do pure (f.offset, ← sizeOf f.type)) : Sem (Array (Nat × Nat))).run Tryz.prog w = .ok #[(0, 1), (1, 1), (2, 1), (3, 1), (4, 1), (5, 1)] w := by
  intro fs h w
  rw [underlying294] at h
  cases h
  kernel_rfl
def jV : jq Key := fun μ ys x => ∃ (v0 : Value), ys = [.string x.cH, v0] ∧ Sl (Pl (dM .u8)) 1 μ v0 x.Key
theorem jV.out {μ : bW} {ys : List Value} {x : Key} (h : jV μ ys x) : ∃ (v0 : Value), ys = [.string x.cH, v0] ∧ Sl (Pl (dM .u8)) 1 μ v0 x.Key := h
theorem jV.mk {μ : bW} {ys : List Value} {x : Key} (h : ∃ (v0 : Value), ys = [.string x.cH, v0] ∧ Sl (Pl (dM .u8)) 1 μ v0 x.Key) : jV μ ys x := h
theorem px : Deep jV 2 where
  mono := by rintro _ _ _ _ b ⟨v0, rfl, a⟩; exact ⟨v0, rfl, a.mono (Pl.mono _) b⟩
  len := by rintro _ _ _ ⟨v0, rfl, a⟩; rfl
  one := by
    rintro _ _ _ ⟨v0, rfl, a⟩
    intro u hu; simp only [List.mem_cons, List.not_mem_nil, or_false] at hu; rcases hu with rfl | rfl
    · rfl
    · exact a.uB
def mR : jq Signed := fun μ ys x => ∃ (v0 : Value), ys = [.int .i64 x.aB.Kind, .string x.aB.Head.aC, .string x.aB.Head.aJ, .string x.aB.cH, .string x.aB.B.aC, .string x.aB.B.aJ, .string x.aB.C.aC, .string x.aB.C.aJ, .string x.aB.cO, v0] ∧ Sl (Pl (dM .u8)) 1 μ v0 x.Tag
theorem mR.out {μ : bW} {ys : List Value} {x : Signed} (h : mR μ ys x) : ∃ (v0 : Value), ys = [.int .i64 x.aB.Kind, .string x.aB.Head.aC, .string x.aB.Head.aJ, .string x.aB.cH, .string x.aB.B.aC, .string x.aB.B.aJ, .string x.aB.C.aC, .string x.aB.C.aJ, .string x.aB.cO, v0] ∧ Sl (Pl (dM .u8)) 1 μ v0 x.Tag := h
theorem mR.mk {μ : bW} {ys : List Value} {x : Signed} (h : ∃ (v0 : Value), ys = [.int .i64 x.aB.Kind, .string x.aB.Head.aC, .string x.aB.Head.aJ, .string x.aB.cH, .string x.aB.B.aC, .string x.aB.B.aJ, .string x.aB.C.aC, .string x.aB.C.aJ, .string x.aB.cO, v0] ∧ Sl (Pl (dM .u8)) 1 μ v0 x.Tag) : mR μ ys x := h
theorem uI : Deep mR 10 where
  mono := by rintro _ _ _ _ b ⟨v0, rfl, a⟩; exact ⟨v0, rfl, a.mono (Pl.mono _) b⟩
  len := by rintro _ _ _ ⟨v0, rfl, a⟩; rfl
  one := by
    rintro _ _ _ ⟨v0, rfl, a⟩
    intro u hu; simp only [List.mem_cons, List.not_mem_nil, or_false] at hu; rcases hu with rfl | rfl | rfl | rfl | rfl | rfl | rfl | rfl | rfl | rfl
    · rfl
    · rfl
    · rfl
    · rfl
    · rfl
    · rfl
    · rfl
    · rfl
    · rfl
    · exact a.uB
def qY : Nat → jq Formula
  | 0 => fun _ _ _ => False
  | n + 1 => fun μ ys x => ∃ (v0 : Value), ys = [.int .i64 x.Op, .int .i64 x.K, .string x.aA.aC, .string x.aA.aJ, v0] ∧ Sl (qY n) 5 μ v0 x.Kids
def aD : jq Formula := fun μ ys x => ∃ n, qY n μ ys x
theorem yw : ∀ n, DP (qY n)
  | 0 => fun _ _ _ _ _ h => h
  | n + 1 => by rintro _ _ _ _ b ⟨v0, rfl, a⟩; exact ⟨v0, rfl, a.mono (yw n) b⟩
theorem BR : ∀ n m (μ : bW) (ys : List Value) (x : Formula), n ≤ m → qY n μ ys x → qY m μ ys x
  | 0, _, _, _, _, _, h => h.elim
  | n + 1, 0, _, _, _, a, _ => absurd a (by omega)
  | n + 1, m + 1, μ, ys, x, a, h => by
    obtain ⟨v0, rfl, b⟩ := h
    exact ⟨v0, rfl, b.imp fun ys x h => BR n m μ ys x (by omega) h⟩
theorem aD.out {μ : bW} {ys : List Value} {x : Formula} (h : aD μ ys x) : ∃ (v0 : Value), ys = [.int .i64 x.Op, .int .i64 x.K, .string x.aA.aC, .string x.aA.aJ, v0] ∧ Sl aD 5 μ v0 x.Kids := by
  obtain ⟨n, h⟩ := h
  cases n with
  | zero => exact h.elim
  | succ n =>
    obtain ⟨v0, rfl, a⟩ := h
    exact ⟨v0, rfl, a.imp fun ys x h => ⟨n, h⟩⟩
theorem aD.mk {μ : bW} {ys : List Value} {x : Formula} (h : ∃ (v0 : Value), ys = [.int .i64 x.Op, .int .i64 x.K, .string x.aA.aC, .string x.aA.aJ, v0] ∧ Sl aD 5 μ v0 x.Kids) : aD μ ys x := by
  obtain ⟨v0, rfl, d⟩ := h
  obtain ⟨n, i⟩ := d.L6 (fun _ _ h => h) (fun a b ys x g h => BR a b _ ys x g h)
  exact ⟨n + 1, v0, rfl, i⟩
theorem aN : Deep aD 5 where
  mono := fun _ _ _ _ b ⟨n, h⟩ => ⟨n, yw n _ _ _ _ b h⟩
  len := by rintro _ _ _ h; obtain ⟨v0, rfl, a⟩ := h.out; rfl
  one := by
    rintro _ _ _ h
    obtain ⟨v0, rfl, a⟩ := h.out
    intro u hu; simp only [List.mem_cons, List.not_mem_nil, or_false] at hu; rcases hu with rfl | rfl | rfl | rfl | rfl
    · rfl
    · rfl
    · rfl
    · rfl
    · exact a.uB
def bN : jq cI := fun μ ys x => ∃ (v0 : Value) (v1 : Value), ys = [.int .i64 x.Signed.aB.Kind, .string x.Signed.aB.Head.aC, .string x.Signed.aB.Head.aJ, .string x.Signed.aB.cH, .string x.Signed.aB.B.aC, .string x.Signed.aB.B.aJ, .string x.Signed.aB.C.aC, .string x.Signed.aB.C.aJ, .string x.Signed.aB.cO, v0, .int .i64 x.aI.Op, .int .i64 x.aI.K, .string x.aI.aA.aC, .string x.aI.aA.aJ, v1] ∧ Sl (Pl (dM .u8)) 1 μ v0 x.Signed.Tag ∧ Sl aD 5 μ v1 x.aI.Kids
theorem bN.out {μ : bW} {ys : List Value} {x : cI} (h : bN μ ys x) : ∃ (v0 : Value) (v1 : Value), ys = [.int .i64 x.Signed.aB.Kind, .string x.Signed.aB.Head.aC, .string x.Signed.aB.Head.aJ, .string x.Signed.aB.cH, .string x.Signed.aB.B.aC, .string x.Signed.aB.B.aJ, .string x.Signed.aB.C.aC, .string x.Signed.aB.C.aJ, .string x.Signed.aB.cO, v0, .int .i64 x.aI.Op, .int .i64 x.aI.K, .string x.aI.aA.aC, .string x.aI.aA.aJ, v1] ∧ Sl (Pl (dM .u8)) 1 μ v0 x.Signed.Tag ∧ Sl aD 5 μ v1 x.aI.Kids := h
theorem bN.mk {μ : bW} {ys : List Value} {x : cI} (h : ∃ (v0 : Value) (v1 : Value), ys = [.int .i64 x.Signed.aB.Kind, .string x.Signed.aB.Head.aC, .string x.Signed.aB.Head.aJ, .string x.Signed.aB.cH, .string x.Signed.aB.B.aC, .string x.Signed.aB.B.aJ, .string x.Signed.aB.C.aC, .string x.Signed.aB.C.aJ, .string x.Signed.aB.cO, v0, .int .i64 x.aI.Op, .int .i64 x.aI.K, .string x.aI.aA.aC, .string x.aI.aA.aJ, v1] ∧ Sl (Pl (dM .u8)) 1 μ v0 x.Signed.Tag ∧ Sl aD 5 μ v1 x.aI.Kids) : bN μ ys x := h
theorem bM : Deep bN 15 where
  mono := by rintro _ _ _ _ b ⟨v0, v1, rfl, a, h1⟩; exact ⟨v0, v1, rfl, a.mono (Pl.mono _) b, h1.mono aN.mono b⟩
  len := by rintro _ _ _ ⟨v0, v1, rfl, a, h1⟩; rfl
  one := by
    rintro _ _ _ ⟨v0, v1, rfl, a, h1⟩
    intro u hu; simp only [List.mem_cons, List.not_mem_nil, or_false] at hu; rcases hu with rfl | rfl | rfl | rfl | rfl | rfl | rfl | rfl | rfl | rfl | rfl | rfl | rfl | rfl | rfl
    · rfl
    · rfl
    · rfl
    · rfl
    · rfl
    · rfl
    · rfl
    · rfl
    · rfl
    · exact a.uB
    · rfl
    · rfl
    · rfl
    · rfl
    · exact h1.uB
def dF : jq gL := fun μ ys x => ∃ (v0 : Value) (v1 : Value), ys = [.string x.aA.aC, .string x.aA.aJ, .int .i64 x.aI.Op, .int .i64 x.aI.K, .string x.aI.aA.aC, .string x.aI.aA.aJ, v0, v1] ∧ Sl aD 5 μ v0 x.aI.Kids ∧ Sl (Pl aG) 9 μ v1 x.eS
theorem dF.out {μ : bW} {ys : List Value} {x : gL} (h : dF μ ys x) : ∃ (v0 : Value) (v1 : Value), ys = [.string x.aA.aC, .string x.aA.aJ, .int .i64 x.aI.Op, .int .i64 x.aI.K, .string x.aI.aA.aC, .string x.aI.aA.aJ, v0, v1] ∧ Sl aD 5 μ v0 x.aI.Kids ∧ Sl (Pl aG) 9 μ v1 x.eS := h
theorem dF.mk {μ : bW} {ys : List Value} {x : gL} (h : ∃ (v0 : Value) (v1 : Value), ys = [.string x.aA.aC, .string x.aA.aJ, .int .i64 x.aI.Op, .int .i64 x.aI.K, .string x.aI.aA.aC, .string x.aI.aA.aJ, v0, v1] ∧ Sl aD 5 μ v0 x.aI.Kids ∧ Sl (Pl aG) 9 μ v1 x.eS) : dF μ ys x := h
theorem ev : Deep dF 8 where
  mono := by rintro _ _ _ _ b ⟨v0, v1, rfl, a, h1⟩; exact ⟨v0, v1, rfl, a.mono aN.mono b, h1.mono (Pl.mono _) b⟩
  len := by rintro _ _ _ ⟨v0, v1, rfl, a, h1⟩; rfl
  one := by
    rintro _ _ _ ⟨v0, v1, rfl, a, h1⟩
    intro u hu; simp only [List.mem_cons, List.not_mem_nil, or_false] at hu; rcases hu with rfl | rfl | rfl | rfl | rfl | rfl | rfl | rfl
    · rfl
    · rfl
    · rfl
    · rfl
    · rfl
    · rfl
    · exact a.uB
    · exact h1.uB
theorem BK : ja Tryz.prog 9 Value.string dA := ja.string underlying9
theorem uf : ja Tryz.prog 28 (fun (x : aA) => (.agg (aM x).toArray)) bB :=
  ja.struct underlying28 (fun d x y W => jc (d + 8) x y W) (fun b k W => BT underlying28 rfl (List.forall_mem_cons.2 ⟨fun _ => ⟨.string k.aC, mi isAgg9 rfl, so underlying9 _ _ _ _⟩, (List.forall_mem_cons.2 ⟨fun _ => ⟨.string k.aJ, mi isAgg9 rfl, so underlying9 _ _ _ _⟩, (fun _ h => by cases h)⟩)⟩))
    (fun k x h => (bD.1 h).symm) (fun k => by simp [Instr.sameBits, aM, yo, eA])
theorem nc (a : aB) (c : aA) (r : List cI) (w : World) {I : bW} (K : gj I [] w) (hm : gU a c = some r) :
    dR true Tryz.prog 172 [(.agg (aG a).toArray), (.agg (aM c).toArray)] w I [] (fun v J M => ∃ H, v = H ∧ J = [] ∧ Sl bN 15 M H (r)) := by
  refine nm K 12 func172 rfl (fun b => sg (VE (bX b rfl (fun W2 p b => VE (bX b rfl (fun W4 q b => Wa (ln (aW ?_))))))))
  replace b := b.drew
  have d := b.has.aF (Kb (Kb Sn))
  refine cT d cE (XH 0 rfl d (fun _ n => aH rfl (aK n (Mt Mh) (aG a) rfl isAgg53 sizeOf53)) (XH 3 rfl d (fun _ n => aH rfl (aK n Mh (aM c) rfl isAgg28 sizeOf28)) (X 4 rfl d (dJ (v := (.agg #[(.int .i64 1), (.int .i64 0), (.string c.aC), (.string c.aJ), (.slice none 0 0)])) (gK rfl rfl) (cN zeroValue113 underlying113 (jZ _ underlying113) kr)) (bS hm fun g y hm => XE 1 rfl (Ff (enc := (dM .u8)) (z := 0) b (fun _ => rfl) dc underlying54 mc.1 mc.2.1 mc.2.2.1 mc.2.2.2 rfl rfl rfl y (fun Q U N b u => ?_))))))
  have d := b.has.aF (Dr (Kb (Kb Sn)))
  refine ⟨d, ?_⟩
  obtain ⟨i, j, rfl⟩ := u.form
  let a0 := (C8 a.Kind a.Head.aC a.Head.aJ a.cH a.B.aC a.B.aJ a.C.aC a.C.aJ a.cO i g.length j c.aC c.aJ)
  refine X 2 rfl d (dJ (v := (.agg (C6 a.Kind a.Head.aC a.Head.aJ a.cH a.B.aC a.B.aJ a.C.aC a.C.aJ a.cO i g.length j).toArray)) (gK rfl rfl) (cN zeroValue56 underlying56 (MW _ underlying56) kr)) (X 5 rfl d (dJ (v := (.agg a0.toArray)) (gK rfl rfl) (cN zeroValue138 underlying138 (Jm _ underlying138) kr)) ?_)
  obtain ⟨Y, b, k, h, D⟩ := ST.I3 b u (fun _ => rfl)
  refine XE 6 rfl (bJ (cs := a0.toArray) b (dZ rfl) (ew underlying107 sizeOf138 zeroValue138) (fun T t b => ?_))
  have d := b.has.na k (Db (Kb (Kb Sn)))
  refine ⟨d, (X 7 rfl d (fW rfl) (dG kr (aR ?_)))⟩
  replace b := b.aF (Kb (Db (Db St)))
  refine bH ?_
  obtain rfl := sj hm
  refine dH (v := (.slice (some ⟨t, 0, none⟩) 1 1)) rfl rfl ?_
  obtain ⟨Z, b, x, m, G⟩ := ST.ms (B := [(t, Ol a0 138)]) bM b (cL.lit bM (l := [(⟨(⟨a, g⟩ : Signed), (⟨1, 0, c, []⟩ : Formula)⟩ : cI)]) (.cons (ys := C8 a.Kind a.Head.aC a.Head.aJ a.cH a.B.aC a.B.aJ a.C.aC a.C.aJ a.cO i g.length j c.aC c.aJ) (bN.mk ⟨(.slice i g.length j), (.slice none 0 0), rfl, D, (Sl.nil _ _ _)⟩) .nil) rfl nb rfl)
  exact ⟨_, _, _, rfl, (b.ej Sn), (k.trans x), (h.trans m), (ST.cJ b (eE.mem Sn)), (.slice (some ⟨t, 0, none⟩) 1 1), rfl, rfl, G⟩
theorem py (g : Value) (i r : List aB) (w : World) (a : Sl (Pl aG) 9 (hp w) g i) (hm : iz i = some r) :
    dP true Tryz.prog 228 [g] w 53 aG 9 r := by
  unfold iz at hm
  refine ng 8 func228 rfl (fun b => sg (Wa (lS (Wm ?_))))
  obtain ⟨y, B, rfl⟩ := a.form
  refine V (tO underlying22 rfl rfl) (ln ?_)
  rcases y with _ | z
  · have u := a.isNil
    replace hm : some [] = some r := by rw [u] at hm; simpa [eT, maxLen] using hm
    refine qh (rfl) (sg (Wa (lt (bU ?_))))
    obtain rfl := sj hm
    exact dH (v := (.slice none 0 0)) rfl rfl ⟨_, [], rfl, b.gb (fun p d => by cases d) (by simp), bG.nil _ _ _⟩
  · refine lI (rfl) (kg (VE (bJ (cs := #[]) b ju (th [] underlying22 sizeOf53 zeroValue53 dc rfl (by simp) rfl rfl) (fun G k b => Wm (bS hm fun H t hm => VE (ga (enc := aG) (v := (.slice (some ⟨k, 0, none⟩) 0 0)) (vs := (.slice (some z) i.length B)) (R := [(k, Ob #[] 53)]) b bI dc fC underlying22 eJ.1 eJ.2.1 rfl eJ.2.2.1 eJ.2.2.2 rfl rfl (bG.lit (l := []) (enc := aG) rfl dc rfl rfl) (a.mono (Pl.mono _) b.aP) t (fun D x j b c => Wa (lt ?_))))))))
    obtain rfl := sj hm
    exact dH (v := x) rfl rfl ⟨_, j, rfl, b.gb (fun p d => (Ml d)) c.nd, c⟩
theorem vt (g : Value) (t : List aB) (j : Value) (B : aB → Option Bool) (r : Int) (w : World) (c : Sl (Pl aG) 9 (hp w) g t) (D : ue Tryz.prog j (hp w) (fun (x : aB) => [(.agg (aG x).toArray)]) (fun (r : Bool) => (.bool r)) B) (hm : nx t B = some r) :
    bF false Tryz.prog 260 [g, j] w (.int .i64 r) := by
  refine cG 19 func260 rfl (fun b => sg (Wa (lS (Wm (V (cU underlying22 rfl c) (Wm (ln (cK (fun i E W => ∃ k, (E 8 = .int .i64 (i : Nat) ∧ E 7 = .int .i64 (t.length : Nat)) ∧ ST false cA w W (hp w) k ∧ E 0 = g ∧ E 1 = j ∧ ic B (t.drop i) i = some r) t.length c.len ⟨_, ⟨rfl, rfl⟩, (b.aF St), rfl, rfl, hm⟩ dc dc dc (fun _ _ _ h => by obtain ⟨_, l, _⟩ := h; exact l) ?_ ?_))))))))
  · rintro Q E W H ⟨k, ⟨d, m⟩, b, u, y, a⟩
    obtain ⟨z, T, M, K, N⟩ := cC H
    rw [M] at a
    refine bg (Wh d (Wa (lr (Wh y (Wh u (Wm (VQ (fJ (enc := aG) (i := (Q : Int)) (x0 := z) underlying22 sizeOf53 rfl rfl c (Int.natCast_nonneg _) K) (fun Y I => V (aH rfl (bE b.has I isAgg53 sizeOf53)) (bS a fun Z J a => ?_)))))))))
    refine VE (Il z b D (bO.refl _) rfl (nK rfl) J (fun U b => ln (CI a rfl (fun G a => ?_) (fun G a => ?_))))
    · refine sg (Wm (Wa (lt (eF (bU (eF (bU ?_)))))))
      obtain rfl := sj a
      exact rP b
    exact cZ (bY (aR ⟨d, _, ⟨rfl, m⟩, (b.aF St), u, y, (by rw [N]; exact a)⟩))
  rintro E W ⟨k, ⟨d, m⟩, b, u, y, a⟩
  rw [List.drop_length] at a
  exact aR (sg (Wa (lt (rQ a b))))
theorem nq (j : Value) (a0 : List aB) (t : LO) (H : Value) (f1 : aB → Option Bool) (r : List aB) (w : World) {μ0 : bW} (h0 : gj μ0 (t ++ []) w) (T : bG 53 aG 9 j a0 t) (a4 : ue Tryz.prog H μ0 (fun (x : aB) => [(.agg (aG x).toArray)]) (fun (r : Bool) => (.bool r)) f1) (hm : gI a0 f1 = some r) :
    dV false Tryz.prog 143 [j, H] w (t ++ []) (fun v L1 W' => ∃ q S2, v = q ∧ L1 = (S2 ++ []) ∧ bG 53 aG 9 q r S2) := by
  refine uY h0 42 func143 rfl (fun d => sg (Wa (lr (Wm (Wm (bS hm fun n d3 hm => VE (Eg d call260 ((vt j a0 H f1 _ _ (T.sl bI (fun b o h => d.at_ (Ml h))) (a4.mono d.aP) d3)) (fun W3 d => Wa (ln ?_)))))))))
  refine aW (sg (Wm (Wi rfl (ln (CI hm rfl (fun d2 hm => ?_) (fun d2 hm => ?_))))))
  · refine sg (Wm (Wa (lt (bU ?_))))
    obtain rfl := sj hm
    exact dH (v := j) rfl rfl ⟨_, _, rfl, (d.ej (Kr Sn)), j, t, rfl, rfl, T⟩
  refine kS (Wm (Wi rfl (Wa (ln (dN (fB (fun m E W => ∃ U I B D a2, ST false (keys (t ++ [])) w W μ0 (I ++ a2) ∧ E 0 = j ∧ E 1 = H ∧ E 5 = (.int .i64 B) ∧ E 6 = (.int .i64 D) ∧ bG 53 aG 9 j U I ∧ gd f1 m U B D = some r) bL ⟨a0, t, n, ((IntKind.i64.wrap (n + 1))), _, (d.aF St), rfl, rfl, rfl, rfl, T, hm⟩ ?_))))))
  rintro m E W ⟨U, I, B, D, a2, d, y, Q, G, K, g, a⟩
  cases m with
  | zero => rw [gd] at a; cases a
  | succ c8 =>
    refine aW (sg (Wh K (Wh y (V (fi underlying22 rfl g) (Wi rfl (ln (CI a rfl (fun A a => ?_) (fun A a => ?_))))))))
    · refine kn (aW (CJ a (fun Y E W => ∃ J a3, ST false (keys (t ++ [])) w W μ0 (J ++ a3) ∧ E 0 = j ∧ E 1 = H ∧ E 5 = (.int .i64 Y.2) ∧ E 6 = (.int .i64 D) ∧ bG 53 aG 9 j Y.1 J) (fun Y c => ?_) ?_))
      · refine bg (Wh y (Wh K (bS c fun k M c => VQ (iZ (i := D) (x0 := k) underlying22 sizeOf53 rfl rfl g (bV M) (bQ M)) (fun e4 O => V (aH rfl (oJ d.has (fun p h => (Ml h)) g bI O (bQ M) isAgg53 sizeOf53)) (VE (bR d zeroValue53 (fun d7 e2 d => VO (aX (.agg (aG k).toArray) ((aG k).toArray) d rfl rfl sizeOf53 (fC k) nb rfl (fun d8 d => lr (Wh Q ?_))))))))))
        refine VA d Mh (aG k) isAgg53 sizeOf53 (bS c fun e6 R c => VE (Il k d a4 (bO.refl _) rfl (nK rfl) R (fun d9 d => V (gn rfl) (ln (CI c rfl (fun F c => ?_) (fun F c => ?_))))))
        · refine sg (Wh y (Wh G (VA d Mh (aG k) isAgg53 sizeOf53 (bS c fun d0 N c => VQ (iZ (i := B) (x0 := d0) underlying22 sizeOf53 rfl rfl g (bV N) (bQ N)) (fun e5 P => ?_)))))
          replace d := d.perm (Nr (Qb Qz) Nz)
          refine VO (wV (u := (.agg (aG k).toArray)) (x1 := k)  d g bI fC rfl rfl rfl P (bQ N) sizeOf53 (fun e0 c1 d s => ln ?_))
          replace d := d.aF (Kr (Db St))
          refine aU (Wh G (Wi rfl (Wa (bK (bY (aR ?_))))))
          obtain rfl := sj c
          exact ⟨c1, _, (d.aF St), y, Q, rfl, K, s⟩
        refine cZ (bY (aR ?_))
        obtain rfl := sj c
        exact ⟨I, _, (d.aF (Db St)), y, Q, G, K, g⟩
      rintro ⟨c7, c9⟩ E W ⟨J, a3, d, c3, c4, c5, c6, b6⟩ L
      exact aU (Wh c6 (Wi rfl (Wa (ln ⟨c8, Nat.lt_succ_self _, c7, J, c9, ((IntKind.i64.wrap (D + 1))), _, (d.aF St), c3, c4, c5, rfl, b6, L⟩))))
    refine fI (fD (fD (kz (aR (sg (Wh y (Wh G (bS a fun _ Z a => VQ (tu (i := B) underlying22 sizeOf53 rfl rfl g (oM Z) (oL Z)) (fun e7 b7 => VO (wy (z := Ky)  d g bI fC underlying22 zeroValue53 b7 rfl rfl (fun e1 c2 d a9 => lr (Wh y ?_))))))))))))
    refine Wh G (bS a fun _ l a => VQ (xZ (i := B) underlying22 sizeOf53 rfl rfl a9 bI (oM l) (oL l)) (fun a5 b9 => Wa (lt ?_)))
    obtain rfl := sj a
    exact dH (v := a5) rfl rfl ⟨_, _, rfl, (d.ej (Kr Sn)), a5, c2, rfl, rfl, b9⟩
theorem KR (w : World) (s : ByteArray) (c : Int) : (callFunc 395 [Value.string s, .int .u8 c].toArray).run Tryz.prog w = .ok (.value (.int .i64 (qn s c))) w := B7 func395 (by kernel_rfl) (by kernel_rfl) (by kernel_rfl) (by kernel_rfl) s c w
theorem rC (a : ByteArray) (c r : Int) (w : World) (hm : gW a c = some r) :
    bF true Tryz.prog 341 [(.string a), (.int .u8 c)] w (.int .i64 r) := by
  exact cG 8 func341 rfl (fun b => sg (Wa (lr (Wm (Wm (VE (F9 (args := [(.string a), (.int .u8 c)]) (v := .int .i64 (qn a c)) rfl (by exact pC rfl rfl) (KR _ a c) (Wa (lt (rQ hm b))))))))))
theorem sL (a : ByteArray) (c r : Int) (w : World) (hm : kQ a c = some r) :
    bF true Tryz.prog 266 [(.string a), (.int .u8 c)] w (.int .i64 r) := by
  refine cG 8 func266 rfl (fun b => sg (Wa (lr (Wm (Wm (bS hm fun j g hm => VE (Eg b call341 ((rC a c _ _  g)) (fun i b => Wa (ln ?_)))))))))
  exact bH (rQ hm b)
theorem E8 (I : ByteArray) (r : Bool) (w : World) (hm : vX I = some r) :
    bF true Tryz.prog 267 [(.string I)] w (.bool r) := by
  refine cG 16 func267 rfl (fun b => sg (Wa (lS (Wm (bS hm fun H J hm => VE (Di b underlying9 underlying54 underlying5 rfl J (fun W3 N T b M n j Y => V (cU underlying54 rfl j) (Wm (bK ?_)))))))))
  refine aR (cK (fun i E W => ∃ c, (E 8 = .int .i64 (i : Nat) ∧ E 7 = .int .i64 (H.length : Nat)) ∧ ST true cA w W T c ∧ E 6 = N ∧ ot (H.drop i) = some r) H.length j.len ⟨_, ⟨rfl, rfl⟩, (b.aF St), rfl, hm⟩ dc dc dc (fun _ _ _ h => by obtain ⟨_, l, _⟩ := h; exact l) ?_ ?_)
  · rintro K E W u ⟨c, ⟨d, m⟩, b, g, a⟩
    obtain ⟨k, Q, D, B, G⟩ := cC u
    rw [D] at a
    refine bg (VQ (fJ (enc := (dM .u8)) (i := (K : Int)) (x0 := k) underlying54 sizeOf5 g d j (Int.natCast_nonneg _) B) (fun Z x => V (aH rfl (mC b.has (y := (.int .u8 k)) x isAgg5)) (Wa (lr (Wm (bS a fun p z a => VE (Eg b call266 ((sL ((⟨#[97, 98, 99, 100, 101, 102, 103, 104, 105, 106, 107, 108, 109, 110, 111, 112, 113, 114, 115, 116, 117, 118, 119, 120, 121, 122, 48, 49, 50, 51, 52, 53, 54, 55, 56, 57, 45]⟩ : ByteArray)) k _ _  z)) (fun U b => Wi rfl (bK ?_)))))))))
    refine aR (CI a rfl (fun t a => ?_) (fun t a => ?_))
    · refine sg (Wa (lt (eF (bU (eF (bU ?_))))))
      obtain rfl := sj a
      exact rP b
    exact cZ (bY (aR ⟨d, _, ⟨rfl, m⟩, (b.aF St), g, (by rw [G]; exact a)⟩))
  rintro E W ⟨c, ⟨d, m⟩, b, g, a⟩
  rw [List.drop_length] at a
  exact aR (sg (Wa (lt (rQ a b))))
theorem pZ (z : ByteArray) (r : Bool) (w : World) (hm : lU z = some r) :
    bF true Tryz.prog 152 [(.string z)] w (.bool r) := by
  refine cG 21 func152 rfl (fun b => sg (Wa (lr (Wm (V (gV underlying9 rfl) (Wi rfl (Wm (LJ hm (fun K E W => ∃ Y, ST true cA w W (hp w) Y ∧ E 0 = (.string z) ∧ E 2 = (.bool false) ∧ E 10 = (.bool K)) 4 ?_ (fun K t y => ?_)))))))))
  · rintro x2 E W ⟨Y, b, M, d, l⟩ a5
    refine Wh l (LJ a5 (fun J E W => ∃ D, ST true cA w W (hp w) D ∧ E 0 = (.string z) ∧ E 2 = (.bool false) ∧ E 16 = (.bool J)) 5 ?_ (fun J a x => ?_))
    · rintro s E W ⟨D, b, h, H, a2⟩ N
      refine Wh a2 (LJ N (fun I E W => ∃ G, ST true cA w W (hp w) G ∧ E 2 = (.bool false) ∧ E 20 = (.bool I)) 3 ?_ (fun I j u => ?_))
      · rintro v E W ⟨G, b, a9, a3⟩ Q
        exact Wg a3 (lt (rQ Q b))
      refine bC j (fun g j => ?_) (fun g j => ?_)
      · refine ug g (aQ h) (bS j fun p T j => kf g (Eg b call267 ((E8 z _ _  T)) (fun m b => V (aY (cB g) rfl) ?_)))
        obtain rfl := sj j
        exact u _ _ ⟨_, (b.aF St), H, rfl⟩
      refine un g (un g (V (aZ (cB g) rfl) ?_))
      obtain rfl := sj j
      exact u _ _ ⟨_, (b.aF St), H, rfl⟩
    refine bC a (fun c a => ?_) (fun c a => ?_)
    · refine ug c (aQ M) (bS a fun Z B a => ug c (uy (i := 0) underlying9 rfl rfl (tH B) (xr B)) (bS a fun q U a => kf c (Eg b call266 ((sL ((⟨#[97, 98, 99, 100, 101, 102, 103, 104, 105, 106, 107, 108, 109, 110, 111, 112, 113, 114, 115, 116, 117, 118, 119, 120, 121, 122]⟩ : ByteArray)) ((Z.toNat : Int)) _ _  U)) (fun n b => ug c (cF rfl rfl rfl) (V (aY (cB c) rfl) ?_)))))
      obtain rfl := sj a
      exact x _ _ ⟨_, (b.aF St), M, d, rfl⟩
    refine un c (un c (un c (un c (V (aZ (cB c) rfl) ?_))))
    obtain rfl := sj a
    exact x _ _ ⟨_, (b.aF St), M, d, rfl⟩
  refine bC t (fun k t => ?_) (fun k t => ?_)
  · refine ug k (aQ rfl) (ug k (gV underlying9 rfl) (ug k (cF rfl rfl rfl) (V (aY (cB k) rfl) ?_)))
    obtain rfl := sj t
    exact y _ _ ⟨_, (b.aF St), rfl, rfl, rfl⟩
  refine un k (un k (un k (V (aZ (cB k) rfl) ?_)))
  obtain rfl := sj t
  exact y _ _ ⟨_, (b.aF St), rfl, rfl, rfl⟩
theorem nf (i : aA) (r : Bool) (w : World) (hm : jo i = some r) :
    bF true Tryz.prog 254 [(.agg (aM i).toArray)] w (.bool r) := by
  refine cG 11 func254 rfl (fun b => sg (VE (bX b rfl (fun H J b => Wa (lr (Wf iH (VB b Mh rfl rfl isAgg9 (bS hm fun K y hm => VE (Eg b call152 ((pZ i.aC _ _  y)) (fun I b => Wm (LJ hm (fun k E W => ∃ j, ST true cA w W (hp w) j ∧ E 2 = (.bool false) ∧ E 10 = (.bool k)) 4 ?_ (fun k a g => ?_))))))))))))
  · rintro G E W ⟨j, b, B, x⟩ t
    exact Wg x (lt (rQ t b))
  refine bC a (fun c a => ?_) (fun c a => ?_)
  · refine ug c (aO nG rfl) (ug c (aH rfl (bA b.has Mh rfl isAgg9)) (bS a fun D u a => kf c (Eg b call152 ((pZ i.aJ _ _  u)) (fun z b => V (aY (cB c) rfl) ?_))))
    obtain rfl := sj a
    exact g _ _ ⟨_, (b.aF (Db St)), rfl, rfl⟩
  refine un c (un c (un c (V (aZ (cB c) rfl) ?_)))
  obtain rfl := sj a
  exact g _ _ ⟨_, (b.aF (Db St)), rfl, rfl⟩
theorem LG (w : World) (a b : ByteArray) : (callFunc 380 [Value.string a, .string b].toArray).run Tryz.prog w = .ok (.value (.int .i64 (iM a b))) w := Ip func380 (by kernel_rfl) (by kernel_rfl) (by kernel_rfl) (by kernel_rfl) a b w
theorem rr (a c : ByteArray) (r : Int) (w : World) (hm : fZ a c = some r) :
    bF true Tryz.prog 330 [(.string a), (.string c)] w (.int .i64 r) := by
  exact cG 8 func330 rfl (fun b => sg (Wa (lr (Wm (Wm (VE (F9 (args := [(.string a), (.string c)]) (v := .int .i64 (iM a c)) rfl (by exact pC rfl rfl) (LG _ a c) (Wa (lt (rQ hm b))))))))))
theorem ur (a c : ByteArray) (r : Int) (w : World) (hm : jd a c = some r) :
    bF true Tryz.prog 239 [(.string a), (.string c)] w (.int .i64 r) := by
  refine cG 8 func239 rfl (fun b => sg (Wa (lr (Wm (Wm (bS hm fun j g hm => VE (Eg b call330 ((rr a c _ _  g)) (fun i b => Wa (ln ?_)))))))))
  exact bH (rQ hm b)
theorem Ec (g : Value) (t : List Int) (r : Int) (w : World) (c : Sl (Pl (dM .i64)) 1 (hp w) g t) (hm : oq t = some r) :
    bF true Tryz.prog 238 [g] w (.int .i64 r) := by
  refine cG 18 func238 rfl (fun b => sg (Wa (lr (Wa (lS (Wm ?_))))))
  refine V (cU underlying256 rfl c) (Wm (ln (cK (fun i E W => ∃ k, (E 8 = .int .i64 (i : Nat) ∧ E 7 = .int .i64 (t.length : Nat)) ∧ ST true cA w W (hp w) k ∧ E 3 = (.int .i64 0) ∧ E 6 = g ∧ me (t.drop i) = some r) t.length c.len ⟨_, ⟨rfl, rfl⟩, (b.aF St), rfl, rfl, hm⟩ dc dc dc (fun _ _ _ h => by obtain ⟨_, l, _⟩ := h; exact l) ?_ ?_)))
  · rintro J E W B ⟨k, ⟨d, m⟩, b, j, u, a⟩
    obtain ⟨x, K, H, G, I⟩ := cC B
    rw [H] at a
    refine bg (VQ (fJ (enc := (dM .i64)) (i := (J : Int)) (x0 := x) underlying256 sizeOf3 u d c (Int.natCast_nonneg _) G) (fun M D => V (aH rfl (mC b.has (y := (.int .i64 x)) D isAgg3)) (Wa (lr (Wm (Wh j (Wi rfl (ln ?_))))))))
    refine CI a rfl (fun z a => ?_) (fun z a => ?_)
    · refine sg (Wm (Wa (lt (eF (bU (eF (bU ?_)))))))
      obtain rfl := sj a
      exact rP b
    exact cZ (bY (aR ⟨d, _, ⟨rfl, m⟩, (b.aF St), j, u, (by rw [I]; exact a)⟩))
  rintro E W ⟨k, ⟨d, m⟩, b, j, u, a⟩
  rw [List.drop_length] at a
  exact aR (sg (Wh j (Wa (lt (rQ a b)))))
theorem Cf (g i : aA) (r : Int) (w : World) (hm : ll g i = some r) :
    bF true Tryz.prog 123 [(.agg (aM g).toArray), (.agg (aM i).toArray)] w (.int .i64 r) := by
  refine cG 17 func123 rfl (fun b => sg (VE (bX b rfl (fun G I b => VE (bX b rfl (fun H J b => Wa (ln (aW ?_))))))))
  replace b := b.drew
  have d := b.has.aF (Kb (Kb Sn))
  refine cT d cE (X 0 rfl d (aO iH rfl) (XH 1 rfl d (fun _ h => aH rfl (bA h (Mt Mh) rfl isAgg9)) (X 2 rfl d (aO iH rfl) (XH 3 rfl d (fun _ h => aH rfl (bA h Mh rfl isAgg9)) (X 5 rfl d (aO nG rfl) (XH 6 rfl d (fun _ h => aH rfl (bA h (Mt Mh) rfl isAgg9)) (X 7 rfl d (aO nG rfl) (XH 8 rfl d (fun _ h => aH rfl (bA h Mh rfl isAgg9)) (bS hm fun a j hm => XE 4 rfl (Eg b call239 ((ur g.aC i.aC _ _  j)) (fun x b => ?_)))))))))))
  have d := b.has.aF (Kb (Kb Sn))
  refine ⟨d, (bS hm fun c k hm => XE 9 rfl (Eg b call239 ((ur g.aJ i.aJ _ _  k)) (fun y b => ?_)))⟩
  have d := b.has.aF (Kb (Kb Sn))
  refine ⟨d, (XE 10 rfl (bJ (cs := #[(.int .i64 a), (.int .i64 c)]) b (gK rfl rfl) (ew underlying256 sizeOf3 zeroValue3) (fun z u b => ?_)))⟩
  have d := b.has.aF (Db (Kb (Kb Sn)))
  refine ⟨d, (bS hm fun D t hm => XE 11 rfl (Eg b call238 ((Ec (.slice (some ⟨u, 0, none⟩) 2 2) ([a, c]) _ _ (Sl.lit (enc := (dM .i64)) (l := [a, c]) (fun _ => rfl) rfl nb rfl (b.at_ Mh)) t)) (fun B b => ?_)))⟩
  have d := b.has.aF (Db (Kb (Kb Sn)))
  refine ⟨d, (X 12 rfl d (fW rfl) (dG kr (aR ?_)))⟩
  exact bH (rQ hm b)
set_option maxHeartbeats 1000000 in
theorem rS (a : aB) (r : Bool) (w : World) (hm : nn a = some r) :
    bF true Tryz.prog 137 [(.agg (aG a).toArray)] w (.bool r) := by
  let m9 := ((⟨a.Kind, a.Head, zS, a.B, a.C, zS⟩ : aB))
  let j2 := ((⟨a.Kind, a.Head, zS, a.B, K0, a.cO⟩ : aB))
  let j1 : Value := (.agg (aM a.B).toArray)
  let g6 := ((aG ((⟨a.Kind, a.Head, zS, a.B, K0, zS⟩ : aB))).toArray)
  let p := ((⟨a.Kind, a.Head, zS, K0, K0, zS⟩ : aB))
  refine cG 98 func137 rfl (fun b => sg (VE (bX b rfl (fun W2 N b => Wa (lr (Wf jQ (VB b Mh rfl rfl isAgg3 (Wf jT (VA b Mh (aM a.Head) isAgg28 sizeOf28 (V (dJ (v := (.agg (aG p).toArray)) (gK rfl rfl) (cN zeroValue53 underlying53 (IW _ underlying53) kr)) (VE (bR b zeroValue53 (fun W4 B b => ?_)))))))))))))
  refine VO (aX (.agg (aG p).toArray) ((aG p).toArray) b rfl rfl sizeOf53 (fC p) nb rfl (fun W5 b => lr (Wf jT (VA b (Mt Mh) (aM a.Head) isAgg28 sizeOf28 (bS hm fun n j4 hm => VE (Eg b call254 ((nf a.Head _ _  j4)) (fun W8 b => Wa (ln (aW (MA hm (fun A E W => ∃ R, ST true cA w W (hp w) ((B, Ol (aG A.2) 53) :: ((N, Ol (aG a) 53) :: R)) ∧ E 1 = (.pointer (some ⟨N, 0, none⟩)) ∧ E 3 = (.pointer (some ⟨B, 0, none⟩)) ∧ E 4 = (.bool A.1)) (fun A g Z => ?_) ?_))))))))))
  · let g5 := ((aG m9).toArray : Array Value)
    let b8 := ((aG j2).toArray : Array Value)
    let m : Value := (.pointer (some ⟨B, 0, none⟩))
    let l : Value := (.pointer (some ⟨N, 0, none⟩))
    let a0 := ((aG a).toArray : Array Value)
    refine sg (Wf jQ (VB b (Mt Mh) rfl rfl isAgg3 (ln (bg (Wi rfl (Wa (ln (CI g rfl (fun e5 g => ?_) (fun e5 g => ?_)))))))))
    · replace b := b.drew
      have d := b.has.aF (Db (Kb Sn))
      refine cT d cE (X 0 rfl d (aO qc rfl) (XH 1 rfl d (fun _ h => aH rfl (bA h Mh rfl isAgg9)) (X 2 rfl d (aQ rfl) (X 3 rfl d (aQ rfl) (X 8 rfl d (aO qc rfl) (PJ g (fun d6 E W => ∃ b9, ST true cA w W (hp w) ((B, Ol (aG p) 53) :: ((N, Obj.cells a0 53 (0, 0)) :: b9)) ∧ E 1 = l ∧ E 3 = m ∧ E 4 = (.bool n) ∧ E 18 = (.string a.cH) ∧ E 24 = (.bool d6) ∧ E 25 = (.pointer (some ⟨B, 3, none⟩))) (bm 11 511) 2 ?_ (fun d6 D a2 => ?_)))))))
      · rintro m1 E W ⟨b9, b, h2, h3, k8, h4, h5, h6⟩ f1
        refine XO 9 rfl (aX (.string a.cH) ((aG ((⟨a.Kind, a.Head, a.cH, K0, K0, zS⟩ : aB))).toArray) b h6 h4 sizeOf9 (Gt a.cH) nb rfl (fun j5 b => ?_))
        have d := b.has.aF (Db (Kb Sn))
        refine ⟨d, (X 10 rfl d (fW h5) (dG kr (bY (aR ?_))))⟩
        obtain rfl := sj f1
        exact ⟨_, rfl, _, (b.aF St), h2, h3, rfl⟩
      refine bC D (fun k D => ?_) (fun k D => ?_)
      · refine Xg 4 rfl rfl (cB k) d (aO qc rfl) (ou 5 rfl rfl (cB k) d (fun _ h => aH rfl (bA h Mh rfl isAgg9)) (bS D fun l2 f9 D => zZ 6 rfl rfl (cB k) (Eg b call152 ((pZ a.cH _ _  f9)) (fun j6 b => ?_))))
        have d := b.has.aF (Db (Kb Sn))
        refine ⟨d, (X 7 rfl d (aY (cB k) rfl) ?_)⟩
        obtain rfl := sj D
        refine fO kr (a2 _ _ ⟨_, (b.aF St), rfl, rfl, rfl, rfl, rfl, rfl⟩)
      refine Xn 4 rfl rfl (cB k) d (Xn 5 rfl rfl (cB k) d (Xn 6 rfl rfl (cB k) d (X 7 rfl d (aZ (cB k) rfl) ?_)))
      obtain rfl := sj D
      refine fO kr (a2 _ _ ⟨_, (b.aF St), rfl, rfl, rfl, rfl, rfl, rfl⟩)
    refine sg (Wi rfl (Wa (ln (CI g rfl (fun e6 g => ?_) (fun e6 g => ?_)))))
    · replace b := b.drew
      have d := b.has.aF (Db (Kb Sn))
      refine cT d cE (X 0 rfl d (aO gh rfl) (XH 1 rfl d (fun _ h => aH rfl (aK h Mh (aM a.B) rfl isAgg28 sizeOf28)) (X 2 rfl d (aQ rfl) (X 3 rfl d (aQ rfl) (X 8 rfl d (aO gh rfl) (PJ g (fun d7 E W => ∃ c0, ST true cA w W (hp w) ((B, Ol (aG p) 53) :: ((N, Obj.cells a0 53 (0, 0)) :: c0)) ∧ E 1 = l ∧ E 3 = m ∧ E 4 = (.bool n) ∧ E 29 = j1 ∧ E 35 = (.bool d7) ∧ E 36 = (.pointer (some ⟨B, 4, none⟩))) (bm 11 511) 2 ?_ (fun d7 G a3 => ?_)))))))
      · rintro m2 E W ⟨c0, b, h7, h8, k9, h9, i0, i1⟩ f2
        refine XO 9 rfl (aX j1 g6 b i1 h9 sizeOf28 (pp a.B) nb rfl (fun j7 b => ?_))
        have d := b.has.aF (Db (Kb Sn))
        refine ⟨d, (X 10 rfl d (fW i0) (dG kr (bY (aR ?_))))⟩
        obtain rfl := sj f2
        exact ⟨_, rfl, _, (b.aF St), h7, h8, rfl⟩
      refine bC G (fun t G => ?_) (fun t G => ?_)
      · refine Xg 4 rfl rfl (cB t) d (aO gh rfl) (ou 5 rfl rfl (cB t) d (fun _ h => aH rfl (aK h Mh (aM a.B) rfl isAgg28 sizeOf28)) (bS G fun l3 g0 G => zZ 6 rfl rfl (cB t) (Eg b call254 ((nf a.B _ _  g0)) (fun j8 b => ?_))))
        have d := b.has.aF (Db (Kb Sn))
        refine ⟨d, (X 7 rfl d (aY (cB t) rfl) ?_)⟩
        obtain rfl := sj G
        refine fO kr (a3 _ _ ⟨_, (b.aF St), rfl, rfl, rfl, rfl, rfl, rfl⟩)
      refine Xn 4 rfl rfl (cB t) d (Xn 5 rfl rfl (cB t) d (Xn 6 rfl rfl (cB t) d (X 7 rfl d (aZ (cB t) rfl) ?_)))
      obtain rfl := sj G
      refine fO kr (a3 _ _ ⟨_, (b.aF St), rfl, rfl, rfl, rfl, rfl, rfl⟩)
    refine sg (Wi rfl (Wa (ln (CI g rfl (fun e7 g => ?_) (fun e7 g => ?_)))))
    · refine aW ?_
      replace b := b.drew
      have d := b.has.aF (Db (Kb Sn))
      refine cT d cE (X 0 rfl d (aO gh rfl) (XH 1 rfl d (fun _ h => aH rfl (aK h Mh (aM a.B) rfl isAgg28 sizeOf28)) (X 2 rfl d (aO nL rfl) (XH 3 rfl d (fun _ h => aH rfl (bA h Mh rfl isAgg9)) (X 4 rfl d (aO gh rfl) (XO 5 rfl (aX j1 g6 b rfl rfl sizeOf28 (pp a.B) nb rfl (fun j9 b => ?_))))))))
      have d := b.has.aF (Db (Kb Sn))
      refine ⟨d, (X 6 rfl d (aO nL rfl) (XO 7 rfl (aX (.string a.cO) ((aG j2).toArray) b rfl rfl sizeOf9 (Gt a.cO) nb rfl (fun k0 b => ?_))))⟩
      have d := b.has.aF (Db (Kb Sn))
      refine ⟨d, (dG kr (aR (aU (Wm (Wm (LJ g (fun e0 E W => ∃ c1, ST true cA w W (hp w) ((B, Obj.cells b8 53 (0, 0)) :: ((N, Obj.cells a0 53 (0, 0)) :: c1)) ∧ E 1 = l ∧ E 3 = m ∧ E 4 = (.bool n) ∧ E 50 = (.bool e0)) 4 ?_ (fun e0 I L => ?_)))))))⟩
      · rintro m3 E W ⟨c1, b, U, c7, c8, i2⟩ f3
        refine Wh i2 (LJ f3 (fun d9 E W => ∃ c2, ST true cA w W (hp w) ((B, Obj.cells b8 53 (0, 0)) :: ((N, Obj.cells a0 53 (0, 0)) :: c2)) ∧ E 1 = l ∧ E 3 = m ∧ E 4 = (.bool n) ∧ E 59 = (.bool d9)) 8 ?_ (fun d9 T a5 => ?_))
        · rintro m4 E W ⟨c2, b, q, c9, d0, i3⟩ f4
          refine Wh i3 (LJ f4 (fun d8 E W => ∃ c3, ST true cA w W (hp w) ((B, Obj.cells b8 53 (0, 0)) :: ((N, Obj.cells a0 53 (0, 0)) :: c3)) ∧ E 1 = l ∧ E 3 = m ∧ E 4 = (.bool n) ∧ E 64 = (.bool d8)) 4 ?_ (fun d8 H a4 => ?_))
          · rintro m5 E W ⟨c3, b, i4, i5, l0, i6⟩ f5
            refine Wg i6 (bK (bY (aR ?_)))
            obtain rfl := sj f5
            exact ⟨_, rfl, _, (b.aF St), i4, i5, rfl⟩
          refine bC H (fun x H => ?_) (fun x H => ?_)
          · refine ug x (aO nL q) (ug x (aH rfl (bA b.has (Mt Mh) rfl isAgg9)) (bS H fun l4 g1 H => kf x (Eg b call152 ((pZ a.cO _ _  g1)) (fun k1 b => V (aY (cB x) rfl) ?_))))
            obtain rfl := sj H
            exact a4 _ _ ⟨_, (b.aF St), q, c9, d0, rfl⟩
          refine un x (un x (un x (V (aZ (cB x) rfl) ?_)))
          obtain rfl := sj H
          exact a4 _ _ ⟨_, (b.aF St), q, c9, d0, rfl⟩
        refine bC T (fun c T => ?_) (fun c T => ?_)
        · refine ug c (aO gh U) (ug c (aO iH rfl) (ug c (aH rfl (bA b.has (Mt Mh) rfl isAgg9)) (ug c (aO jT U) (ug c (aO iH rfl) (ug c (aH rfl (bA b.has (Mt Mh) rfl isAgg9)) (ug c (kM rfl rfl rfl) (V (aY (cB c) rfl) ?_)))))))
          obtain rfl := sj T
          exact a5 _ _ ⟨_, (b.aF St), U, c7, c8, rfl⟩
        refine un c (un c (un c (un c (un c (un c (un c (V (aZ (cB c) rfl) ?_)))))))
        obtain rfl := sj T
        exact a5 _ _ ⟨_, (b.aF St), U, c7, c8, rfl⟩
      refine bC I (fun u I => ?_) (fun u I => ?_)
      · refine ug u (aO gh rfl) (ug u (aH rfl (aK b.has (Mt Mh) (aM a.B) rfl isAgg28 sizeOf28)) (bS I fun l5 g2 I => kf u (Eg b call254 ((nf a.B _ _  g2)) (fun k2 b => V (aY (cB u) rfl) ?_))))
        obtain rfl := sj I
        exact L _ _ ⟨_, (b.aF St), rfl, rfl, rfl, rfl⟩
      refine un u (un u (un u (V (aZ (cB u) rfl) ?_)))
      obtain rfl := sj I
      exact L _ _ ⟨_, (b.aF St), rfl, rfl, rfl, rfl⟩
    refine sg (Wi rfl (Wa (ln (CI g rfl (fun e8 g => ?_) (fun e8 g => ?_)))))
    · refine aW ?_
      replace b := b.drew
      have d := b.has.aF (Db (Kb Sn))
      refine cT d cE (X 0 rfl d (aO gh rfl) (XH 1 rfl d (fun _ h => aH rfl (aK h Mh (aM a.B) rfl isAgg28 sizeOf28)) (X 2 rfl d (aO lP rfl) (XH 3 rfl d (fun _ h => aH rfl (aK h Mh (aM a.C) rfl isAgg28 sizeOf28)) (X 4 rfl d (aO gh rfl) (XO 5 rfl (aX j1 g6 b rfl rfl sizeOf28 (pp a.B) nb rfl (fun k3 b => ?_))))))))
      have d := b.has.aF (Db (Kb Sn))
      refine ⟨d, (X 6 rfl d (aO lP rfl) (XO 7 rfl (aX (.agg (aM a.C).toArray) ((aG m9).toArray) b rfl rfl sizeOf28 (pp a.C) nb rfl (fun k4 b => ?_))))⟩
      have d := b.has.aF (Db (Kb Sn))
      refine ⟨d, (dG kr (aR (aU (Wm (Wm (LJ g (fun e3 E W => ∃ c4, ST true cA w W (hp w) ((B, Obj.cells g5 53 (0, 0)) :: ((N, Obj.cells a0 53 (0, 0)) :: c4)) ∧ E 1 = l ∧ E 3 = m ∧ E 4 = (.bool n) ∧ E 78 = (.bool e3)) 4 ?_ (fun e3 M a9 => ?_)))))))⟩
      · rintro m6 E W ⟨c4, b, s, d1, d2, i7⟩ f6
        refine Wh i7 (LJ f6 (fun e2 E W => ∃ c5, ST true cA w W (hp w) ((B, Obj.cells g5 53 (0, 0)) :: ((N, Obj.cells a0 53 (0, 0)) :: c5)) ∧ E 1 = l ∧ E 3 = m ∧ E 4 = (.bool n) ∧ E 83 = (.bool e2)) 4 ?_ (fun e2 K P => ?_))
        · rintro m7 E W ⟨c5, b, Y, d3, d4, i8⟩ f7
          refine Wh i8 (LJ f7 (fun e1 E W => ∃ c6, ST true cA w W (hp w) ((B, Obj.cells g5 53 (0, 0)) :: ((N, Obj.cells a0 53 (0, 0)) :: c6)) ∧ E 1 = l ∧ E 3 = m ∧ E 4 = (.bool n) ∧ E 91 = (.bool e1)) 7 ?_ (fun e1 J O => ?_))
          · rintro m8 E W ⟨c6, b, i9, j0, l1, j3⟩ f8
            refine Wg j3 (bK (bY (aR ?_)))
            obtain rfl := sj f8
            exact ⟨_, rfl, _, (b.aF St), i9, j0, rfl⟩
          refine bC J (fun i J => ?_) (fun i J => ?_)
          · refine ug i (aO gh Y) (ug i (aH rfl (aK b.has (Mt Mh) (aM a.B) rfl isAgg28 sizeOf28)) (ug i (aO lP Y) (ug i (aH rfl (aK b.has (Mt Mh) (aM a.C) rfl isAgg28 sizeOf28)) (bS J fun l6 g3 J => kf i (Eg b call123 ((Cf a.B a.C _ _  g3)) (fun k5 b => ug i (cF rfl rfl rfl) (V (aY (cB i) rfl) ?_)))))))
            obtain rfl := sj J
            exact O _ _ ⟨_, (b.aF St), Y, d3, d4, rfl⟩
          refine un i (un i (un i (un i (un i (un i (V (aZ (cB i) rfl) ?_))))))
          obtain rfl := sj J
          exact O _ _ ⟨_, (b.aF St), Y, d3, d4, rfl⟩
        refine bC K (fun z K => ?_) (fun z K => ?_)
        · refine ug z (aO lP s) (ug z (aH rfl (aK b.has (Mt Mh) (aM a.C) rfl isAgg28 sizeOf28)) (bS K fun l7 g4 K => kf z (Eg b call254 ((nf a.C _ _  g4)) (fun k6 b => V (aY (cB z) rfl) ?_))))
          obtain rfl := sj K
          exact P _ _ ⟨_, (b.aF St), s, d1, d2, rfl⟩
        refine un z (un z (un z (V (aZ (cB z) rfl) ?_)))
        obtain rfl := sj K
        exact P _ _ ⟨_, (b.aF St), s, d1, d2, rfl⟩
      refine bC M (fun y M => ?_) (fun y M => ?_)
      · refine ug y (aO gh rfl) (ug y (aH rfl (aK b.has (Mt Mh) (aM a.B) rfl isAgg28 sizeOf28)) (bS M fun l8 g7 M => kf y (Eg b call254 ((nf a.B _ _  g7)) (fun k7 b => V (aY (cB y) rfl) ?_))))
        obtain rfl := sj M
        exact a9 _ _ ⟨_, (b.aF St), rfl, rfl, rfl, rfl⟩
      refine un y (un y (un y (V (aZ (cB y) rfl) ?_)))
      obtain rfl := sj M
      exact a9 _ _ ⟨_, (b.aF St), rfl, rfl, rfl, rfl⟩
    refine sg (Wa (ln ?_))
    replace b := b.aF (Db (Db St))
    refine bH (eF (bU ?_))
    obtain rfl := sj g
    replace Z : some false = some r := Z
    obtain rfl := sj Z
    exact rP b
  rintro ⟨l9, e4⟩ E W ⟨R, b, g8, g9, h0⟩ e9
  refine sg (Wh h0 (Wm (LJ e9 (fun d5 E W => ∃ b7, ST true cA w W (hp w) b7 ∧ E 97 = (.bool d5)) 4 ?_ (fun d5 Q F => ?_))))
  · rintro m0 E W ⟨b7, b, h1⟩ f0
    exact Wg h1 (lt (rQ f0 b))
  refine bC Q (fun j Q => ?_) (fun j Q => ?_)
  · refine ug j (aH g9 (aK b.has Mh (aG e4) rfl isAgg53 sizeOf53)) (ug j (aH g8 (aK b.has (Mt Mh) (aG a) rfl isAgg53 sizeOf53)) (ug j (oa rfl rfl (fS eqGuardType53) (kC (oN _ e4 a))) (V (aY (cB j) rfl) ?_)))
    obtain rfl := sj Q
    exact F _ _ ⟨_, (b.aF (Db (Db St))), rfl⟩
  refine un j (un j (un j (V (aZ (cB j) rfl) ?_)))
  obtain rfl := sj Q
  exact F _ _ ⟨_, (b.aF (Db (Db St))), rfl⟩
theorem Dv (a : aB) (r : Bool) (w : World) (hm : ra a = some r) :
    bF true Tryz.prog 229 [(.agg (aG a).toArray)] w (.bool r) := by
  refine cG 6 func229 rfl (fun b => sg (VE (bX b rfl (fun g j b => Wa (lr (VA b Mh (aG a) isAgg53 sizeOf53 (bS hm fun k c hm => VE (Eg b call137 ((rS a _ _  c)) (fun i b => V (gn rfl) (Wa (bK ?_)))))))))))
  refine aR ?_
  exact bH (rQ hm b)
theorem Gn (c : Value) (k : List aB) (a : LO) (g : Value) (t : ((aB × aB)) → Option Int) (r : List aB) (w : World) {y : bW} (u : gj y (a ++ []) w) (i : bG 53 aG 9 c k a) (j : MG Tryz.prog g y (fun (x : (aB × aB)) => [(.agg (aG x.1).toArray), (.agg (aG x.2).toArray)]) (fun (r : Int) => (.int .i64 r)) t) (hm : tD t k = some r) :
    dV true Tryz.prog 230 [c, g] w (a ++ []) (fun v z W' => ∃ S, v = (.tuple #[]) ∧ z = (S ++ []) ∧ bG 53 aG 9 c r S) := Fg (P := Tryz.prog) (ρ := HR) KZ 9 isAgg53 sizeOf53 aG bI fC u.H u.S i j hm
theorem kP (t : Nat) (j : Value) (G : List Int) (i : LO) (h : Int) (r : (Bool × (List Int))) (w : World) {μ0 : bW} (A : gj μ0 ((t, Ob #[j] 92) :: (i ++ [])) w) (y : bG 5 (dM .u8) 1 j G i) (hm : gA G h = some r) :
    dV true Tryz.prog 268 [(.pointer (some ⟨t, 0, none⟩)), (.int .i64 h)] w ((t, Ob #[j] 92) :: (i ++ [])) (fun v L1 W' => ∃ n S2, v = (.bool (r.1)) ∧ L1 = ((t, Ob #[n] 92) :: (S2 ++ [])) ∧ bG 5 (dM .u8) 1 n r.2 S2) := by
  refine uY A 38 func268 rfl (fun d => sg (Wa (lS (Wm (V (qv underlying90 rfl rfl) (Wm (Vg rfl rfl (aQ rfl) (Vg rfl rfl (cF rfl rfl rfl) (V (aZ rfl rfl) ?_)))))))))
  refine ln (CI hm rfl (fun a9 hm => ?_) (fun a9 hm => ?_))
  · refine sg (Wa (lt (bU ?_)))
    obtain rfl := sj hm
    exact dH (v := (.bool false)) rfl rfl ⟨_, _, rfl, (d.ej (Kb (Kr Sn))), j, i, rfl, rfl, y⟩
  refine kn (aW (dN (fB (fun m E W => ∃ c z U u a0, ST true (keys ((t, Ob #[j] 92) :: (i ++ []))) w W μ0 ((t, Ob #[z] 92) :: (u ++ a0)) ∧ E 0 = (.pointer (some ⟨t, 0, none⟩)) ∧ E 1 = (.int .i64 c) ∧ bG 5 (dM .u8) 1 z U u ∧ jC m c U = some r) bL ⟨h, j, G, i, _, (d.aF St), rfl, rfl, y, hm⟩ ?_)))
  rintro m E W ⟨c, z, U, u, a0, d, x, K, T, g⟩
  cases m with
  | zero => rw [jC] at g; cases g
  | succ s =>
    refine aW (sg (Wh K (Wi rfl (ln (CI g rfl (fun p g => ?_) (fun p g => ?_))))))
    · refine kn (aW (dN (aU (Wh x (Wh x (Wn (Wf ve (VB d Mh rfl rfl isAgg54 (Wh K (V (kF (k' := .i64) (a := c) underlying3 underlying5 rfl) (V (DK (k := .u8) (a := ((IntKind.u8.wrap c))) (b := 128) (v := (.int .u8 ((IntKind.u8.wrap (BitVec.ofInt (IntKind.bits .u8) ((IntKind.u8.wrap c)) ||| BitVec.ofInt (IntKind.bits .u8) 128).toNat)))) rfl rfl dc rfl) (VE (bJ (cs := [(.int .u8 ((IntKind.u8.wrap (BitVec.ofInt (IntKind.bits .u8) ((IntKind.u8.wrap c)) ||| BitVec.ofInt (IntKind.bits .u8) 128).toNat)))].toArray) d (dZ rfl) (ew underlying54 sizeOf5 zeroValue5) (fun c3 q d => ?_))))))))))))))
      replace d := d.perm (Nr (Qb (Qb Qz)) Nz)
      refine bS g fun Q Y g => VE (ga (enc := (dM .u8)) (v := z) (vs := (.slice (some ⟨q, 0, none⟩) 1 1)) (R := u) d (fun _ => rfl) dc (Aw _) underlying54 mc.1 mc.2.1 rfl mc.2.2.1 mc.2.2.2 rfl rfl T (Sl.lit (enc := (dM .u8)) (l := [(IntKind.u8.wrap (BitVec.ofInt (IntKind.bits .u8) ((IntKind.u8.wrap c)) ||| BitVec.ofInt (IntKind.bits .u8) 128).toNat)]) (fun _ => rfl) rfl nb rfl (d.at_ (Ma Mh))) Y (fun F c1 a2 d M => Wn (Wf ve ?_)))
      obtain ⟨B, H, rfl⟩ := M.form
      replace d := d.perm (Nb (Pr (Pb Pz)) Nz)
      refine VO (aX (.slice B Q.length H) (#[(.slice B Q.length H)]) d rfl rfl sizeOf54 oc nb rfl (fun L d => bK (bY (aR ?_))))
      replace d := d.aF (Kb (Kr (Db St)))
      exact aU (Wh K (V (Bv (a := c) (b := 7) rfl rfl dc) (Wa (ln ⟨s, Nat.lt_succ_self _, ((Int.fdiv c (2 ^ min (Int.toNat 7) (IntKind.bits .i64)))), (.slice B Q.length H), Q, a2, _, (d.aF St), x, rfl, M, g⟩))))
    refine fI (fD (fD (kz (aR (sg (Wh x (Wh x (Wn (Wf ve (VB d Mh rfl rfl isAgg54 (Wh K (V (kF (k' := .i64) (a := c) underlying3 underlying5 rfl) (VE (bJ (cs := [(.int .u8 ((IntKind.u8.wrap c)))].toArray) d (dZ rfl) (ew underlying54 sizeOf5 zeroValue5) (fun O a5 d => ?_)))))))))))))))
    replace d := d.perm (Nr (Qb (Qb Qz)) Nz)
    refine bS g fun J Z g => VE (ga (enc := (dM .u8)) (v := z) (vs := (.slice (some ⟨a5, 0, none⟩) 1 1)) (R := u) d (fun _ => rfl) dc (Aw _) underlying54 mc.1 mc.2.1 rfl mc.2.2.1 mc.2.2.2 rfl rfl T (Sl.lit (enc := (dM .u8)) (l := [(IntKind.u8.wrap c)]) (fun _ => rfl) rfl nb rfl (d.at_ (Ma Mh))) Z (fun P c2 a3 d N => Wn (Wf ve ?_)))
    obtain ⟨D, I, rfl⟩ := N.form
    replace d := d.perm (Nb (Pr (Pb Pz)) Nz)
    refine VO (aX (.slice D J.length I) (#[(.slice D J.length I)]) d rfl rfl sizeOf54 oc nb rfl (fun b9 d => ln ?_))
    replace d := d.aF (Kb (Kr (Db St)))
    refine sg (Wa (lt ?_))
    obtain rfl := sj g
    exact dH (v := (.bool true)) rfl rfl ⟨_, _, rfl, (d.ej (Kb (Kr Sn))), (.slice D J.length I), a3, rfl, rfl, N⟩
theorem zK (g : Nat) (c : Value) (j : List Int) (a : LO) (u : Value) (D : List Int) (r : (Bool × (List Int))) (w : World) {Z : bW} (h : gj Z ((g, Ob #[c] 92) :: (a ++ [])) w) (i : bG 5 (dM .u8) 1 c j a) (k : Sl (Pl (dM .u8)) 1 Z u D) (hm : qJ j D = some r) :
    dV true Tryz.prog 165 [(.pointer (some ⟨g, 0, none⟩)), u] w ((g, Ob #[c] 92) :: (a ++ [])) (fun v L1 W' => ∃ U M, v = (.bool (r.1)) ∧ L1 = ((g, Ob #[U] 92) :: (M ++ [])) ∧ bG 5 (dM .u8) 1 U r.2 M) := by
  refine uY h 25 func165 rfl (fun b => sg (Wa (lS (Wm (V (qv underlying90 rfl rfl) (Wm (Vg rfl rfl (aQ rfl) (Vg rfl rfl (cU underlying54 rfl k) (Vg rfl rfl (cF rfl rfl rfl) ?_)))))))))
  refine V (aZ rfl rfl) (ln (CI hm rfl (fun Q hm => ?_) (fun Q hm => ?_)))
  · refine sg (Wa (lt (bU ?_)))
    obtain rfl := sj hm
    exact dH (v := (.bool false)) rfl rfl ⟨_, _, rfl, (b.ej (Kb (Kr Sn))), c, a, rfl, rfl, i⟩
  refine kg (Wm (Wm (V (cU underlying54 rfl k) (bS hm fun q T hm => ?_))))
  refine VE (eM b (Cb Pz (Cr Qz Cn)) call268 (fun l _ => (kP g c j a ((D.length : Int)) _ _ l i T)) ?_)
  rintro _ v8 n a3 b H m d ⟨Y, K, t, rfl, I⟩
  obtain rfl := t.symm
  replace b := b.perm (Tb (Tr Tn))
  refine lr (Wm (Wm (Wn (Wf ve (VB b Mh rfl rfl isAgg54 (Wm ?_))))))
  replace b := b.perm (Nr (Qb Qz) Nz)
  refine bS hm fun B G hm => VE (ga (enc := (dM .u8)) (v := Y) (vs := u) (R := K) b (fun _ => rfl) dc (Aw _) underlying54 mc.1 mc.2.1 rfl mc.2.2.1 mc.2.2.2 rfl rfl I (k.mono (Pl.mono _) (H.trans b.aP)) G (fun a4 p J b z => Wn (Wf ve ?_)))
  obtain ⟨x, y, rfl⟩ := z.form
  replace b := b.perm (Nb (Pr Pz) Nz)
  refine VO (aX (.slice x B.length y) (#[(.slice x B.length y)]) b rfl rfl sizeOf54 oc nb rfl (fun a5 b => lr (Wa (lt ?_))))
  obtain rfl := sj hm
  exact dH (v := (.bool true)) rfl rfl ⟨_, _, rfl, (b.ej (Kb (Kr Sn))), (.slice x B.length y), J, rfl, rfl, z⟩
theorem sm (j : Nat) (c : Value) (t : List Int) (a : LO) (J : ByteArray) (r : (Bool × (List Int))) (w : World) {Z : bW} (A : gj Z ((j, Ob #[c] 92) :: (a ++ [])) w) (k : bG 5 (dM .u8) 1 c t a) (hm : nj t J = some r) :
    dV true Tryz.prog 270 [(.pointer (some ⟨j, 0, none⟩)), (.string J)] w ((j, Ob #[c] 92) :: (a ++ [])) (fun v L1 W' => ∃ n S2, v = (.bool (r.1)) ∧ L1 = ((j, Ob #[n] 92) :: (S2 ++ [])) ∧ bG 5 (dM .u8) 1 n r.2 S2) := by
  refine uY A 17 func270 rfl (fun b => sg (Wa (lr (Wm (V (xA underlying90 rfl rfl) (Wm (Vg rfl rfl (aQ rfl) (bS hm fun r1 a4 hm => HG rfl rfl (Eg b call152 ((pZ J _ _  a4)) (fun W3 b => V (aY rfl rfl) ?_))))))))))
  refine Wm (LJ hm (fun B E W => ∃ z x D I, bO Z D ∧ ST true (keys ((j, Ob #[c] 92) :: (a ++ []))) w W D ((j, Ob #[z] 92) :: (x ++ I)) ∧ E 4 = (.bool false) ∧ E 16 = (.bool B.1) ∧ bG 5 (dM .u8) 1 z B.2 x) 5 ?_ (fun B g y => ?_))
  · rintro ⟨q, c0⟩ E W ⟨z, x, D, I, L, b, b9, a3, T⟩ M
    refine Wg a3 (lt ?_)
    obtain rfl := sj M
    exact dH (v := (.bool q)) rfl rfl ⟨_, _, rfl, (b.ej (Kb (Kr Sn))), z, x, rfl, rfl, T⟩
  refine bC g (fun i g => ?_) (fun i g => ?_)
  · refine ug i (aQ rfl) (ug i (aQ rfl) (bS g fun a5 N g => kf i (Di b underlying9 underlying54 underlying5 rfl N (fun R p c3 b G l U O => bS g fun c1 Q g => ?_))))
    refine kf i (eM b (Cb Pz (Cr Qz Cn)) call165 (fun F h => (zK j c t a p a5 _ _ F k (U.mono (Pl.mono _) h) Q)) ?_)
    rintro _ c2 s P b H m d ⟨a9, a2, u, rfl, Y⟩
    obtain rfl := u.symm
    replace b := b.perm (Tb (Tr Tn))
    refine V (aY (cB i) rfl) ?_
    obtain rfl := sj g
    exact y _ _ ⟨a9, a2, s, _, (G.trans H), (b.aF St), rfl, rfl, Y⟩
  refine un i (un i (un i (un i (V (aZ (cB i) rfl) ?_))))
  obtain rfl := sj g
  exact y _ _ ⟨c, a, Z, _, (bO.refl _), (b.aF St), rfl, rfl, k⟩
theorem om (c : Nat) (i : Value) (D : List Int) (a : LO) (x : aA) (r : (Bool × (List Int))) (w : World) {μ0 : bW} (h0 : gj μ0 ((c, Ob #[i] 92) :: (a ++ [])) w) (y : bG 5 (dM .u8) 1 i D a) (hm : jw D x = some r) :
    dV true Tryz.prog 269 [(.pointer (some ⟨c, 0, none⟩)), (.agg (aM x).toArray)] w ((c, Ob #[i] 92) :: (a ++ [])) (fun v L1 W' => ∃ q S2, v = (.bool (r.1)) ∧ L1 = ((c, Ob #[q] 92) :: (S2 ++ [])) ∧ bG 5 (dM .u8) 1 q r.2 S2) := by
  let l := ((c, Ob #[i] 92) :: (a ++ []))
  refine uY h0 23 func269 rfl (fun b => sg (VE (bX b rfl (fun W2 m b => Wa (lr (Wm (V (xA underlying90 rfl rfl) (Wm (Vg rfl rfl (aH rfl (aK b.has Mh (aM x) rfl isAgg28 sizeOf28)) (bS hm fun r3 c4 hm => HG rfl rfl (Eg b call254 ((nf x _ _  c4)) (fun W5 b => ?_))))))))))))
  refine V (aY rfl rfl) (Wm (LJ hm (fun T E W => ∃ z u B a0, bO μ0 B ∧ ST true (keys l) w W B ((m, Ol (aM x) 28) :: ((c, Ob #[z] 92) :: (u ++ a0))) ∧ E 0 = (.pointer (some ⟨c, 0, none⟩)) ∧ E 3 = (.pointer (some ⟨m, 0, none⟩)) ∧ E 4 = (.bool false) ∧ E 16 = (.bool T.1) ∧ bG 5 (dM .u8) 1 z T.2 u) 5 ?_ (fun T t K => ?_)))
  · rintro ⟨e6, c5⟩ E W ⟨z, u, B, a0, d2, b, c0, c1, a3, c2, N⟩ s
    refine Wh c2 (LJ s (fun Q E W => ∃ M I U a2, bO B U ∧ ST true (keys l) w W U ((c, Ob #[M] 92) :: (I ++ a2)) ∧ E 4 = (.bool false) ∧ E 22 = (.bool Q.1) ∧ bG 5 (dM .u8) 1 M Q.2 I) 5 ?_ (fun Q k J => ?_))
    · rintro ⟨c6, e1⟩ E W ⟨M, I, U, a2, d3, b, e0, c3, L⟩ A
      refine Wg c3 (lt ?_)
      obtain rfl := sj A
      exact dH (v := (.bool c6)) rfl rfl ⟨_, _, rfl, (b.ej (Kb (Kr Sn))), M, I, rfl, rfl, L⟩
    refine bC k (fun g k => ?_) (fun g k => ?_)
    · refine ug g (aQ c0) (ug g (aO nG c1) (ug g (aH rfl (bA b.has Mh rfl isAgg9)) (bS k fun e2 F k => ?_)))
      refine kf g (eM b (Cb (Pb Pz) (Cr (Qb Qz) Cn)) call270 (fun h _ => (sm c z c5 u x.aJ _ _ h N F)) ?_)
      rintro _ e4 d0 d6 b Y n d ⟨c8, R, G, rfl, O⟩
      obtain rfl := G.symm
      replace b := b.perm (Tb (Tr Tn))
      refine V (aY (cB g) rfl) ?_
      obtain rfl := sj k
      exact J _ _ ⟨c8, R, d0, _, Y, (b.aF (Kb (Kr (Db St)))), a3, rfl, O⟩
    refine un g (un g (un g (un g (V (aZ (cB g) rfl) ?_))))
    obtain rfl := sj k
    exact J _ _ ⟨z, u, B, _, (bO.refl _), (b.aF (Db St)), a3, rfl, N⟩
  refine bC t (fun j t => ?_) (fun j t => ?_)
  · refine ug j (aQ rfl) (ug j (aO iH rfl) (ug j (aH rfl (bA b.has Mh rfl isAgg9)) (bS t fun e3 a9 t => ?_)))
    refine kf j (eM b (Cb (Pb Pz) (Cr (Qb Qz) Cn)) call270 (fun h _ => (sm c i D a x.aC _ _ h y a9)) ?_)
    rintro _ e5 d1 d7 b Z p d ⟨c9, b7, H, rfl, P⟩
    obtain rfl := H.symm
    replace b := b.perm (Tb (Tr Tn))
    refine V (aY (cB j) rfl) ?_
    obtain rfl := sj t
    exact K _ _ ⟨c9, b7, d1, _, Z, (b.aF (Sb (Pb (Pr Pz)) St)), rfl, rfl, rfl, rfl, P⟩
  refine un j (un j (un j (un j (V (aZ (cB j) rfl) ?_))))
  obtain rfl := sj t
  exact K _ _ ⟨i, a, μ0, _, (bO.refl _), (b.aF St), rfl, rfl, rfl, rfl, y⟩
theorem DG (g : Value) (i r : List Int) (w : World) (a : Sl (Pl (dM .u8)) 1 (hp w) g i) (hm : nD i = some r) :
    dP true Tryz.prog 153 [g] w 5 (dM .u8) 1 r := by
  unfold nD at hm
  refine ng 8 func153 rfl (fun b => sg (Wa (lS (Wm ?_))))
  obtain ⟨y, B, rfl⟩ := a.form
  refine V (tO underlying54 rfl rfl) (ln ?_)
  rcases y with _ | z
  · have u := a.isNil
    replace hm : some [] = some r := by rw [u] at hm; simpa [eT, maxLen] using hm
    refine qh (rfl) (sg (Wa (lt (bU ?_))))
    obtain rfl := sj hm
    exact dH (v := (.slice none 0 0)) rfl rfl ⟨_, [], rfl, b.gb (fun p d => by cases d) (by simp), bG.nil _ _ _⟩
  · refine lI (rfl) (kg (VE (bJ (cs := #[]) b ju (th [] underlying54 sizeOf5 zeroValue5 dc rfl (by simp) rfl rfl) (fun G k b => Wm (bS hm fun H t hm => VE (ga (enc := (dM .u8)) (v := (.slice (some ⟨k, 0, none⟩) 0 0)) (vs := (.slice (some z) i.length B)) (R := [(k, Ob #[] 5)]) b (fun _ => rfl) dc (Aw _) underlying54 mc.1 mc.2.1 rfl mc.2.2.1 mc.2.2.2 rfl rfl (bG.lit (l := []) (enc := (dM .u8)) rfl dc rfl rfl) (a.mono (Pl.mono _) b.aP) t (fun D x j b c => Wa (lt ?_))))))))
    obtain rfl := sj hm
    exact dH (v := x) rfl rfl ⟨_, j, rfl, b.gb (fun p d => (Ml d)) c.nd, c⟩
theorem uP (g : Nat) (a : Value) (c r : List Int) (w : World) (j : Sl (Pl (dM .u8)) 1 (hp w) a c) (k : At (hp w) (.pointer (some ⟨g, 0, none⟩)) [a]) (hm : mZ c = some r) :
    dP true Tryz.prog 66 [(.pointer (some ⟨g, 0, none⟩))] w 5 (dM .u8) 1 r := by
  refine ng 10 func66 rfl (fun b => sg (Wa (lS (Wm (V (qv underlying90 rfl rfl) (ln (lI rfl (cZ ?_))))))))
  refine aR (sg (Wm (Wn (VQ (yV [a] ve rfl k rfl) (fun G u => V (aH rfl (mC b.has (y := a) u isAgg54)) (bS hm fun H x hm => VE (jg b call153 ((DG a c _ _ (j.mono (Pl.mono _) b.aP) x)) (fun D z I t b B d i => Wa (lt ?_)))))))))
  obtain rfl := sj hm
  exact dH (v := z) rfl rfl ⟨_, t, rfl, b.gb (fun p h => (Ml h)) i.nd, i⟩
theorem yd (c : aB) (r : List Int) (w : World) (hm : pT c = some r) :
    dP true Tryz.prog 155 [(.agg (aG c).toArray)] w 5 (dM .u8) 1 r := by
  refine ng 53 func155 rfl (fun d => sg (VE (bX d rfl (fun W2 b1 d => Wa (lS (VA d Mh (aG c) isAgg53 sizeOf53 (bS hm fun r3 g3 hm => VE (Eg d call137 ((rS c _ _  g3)) (fun W5 d => V (gn rfl) (bK ?_))))))))))
  refine aR (CI hm rfl (fun g0 hm => ?_) (fun g0 hm => ?_))
  · refine sg (Wa (ln ?_))
    replace d := d.aF (Db St)
    refine bH (bU ?_)
    obtain rfl := sj hm
    exact dH (v := (.slice none 0 0)) rfl rfl ⟨_, [], rfl, d.gb (fun p m => by cases m) (by simp), bG.nil _ _ _⟩
  refine kg (V (dJ (v := (.agg #[(.slice none 0 0)])) ju (cN zeroValue92 underlying92 (LB _ underlying92) kr)) (VE (bX d rfl (fun W8 g d => Wa (lr (Wm (Wf jQ (VB d (Mt Mh) rfl rfl isAgg3 (bS hm fun r9 e2 hm => ?_)))))))))
  refine VE (eM d (Cb Pz (C0 Cn)) call268 (fun l _ => (kP g (.slice none 0 0) ([]) [] c.Kind _ _ l (bG.nil _ _ _) e2)) ?_)
  rintro _ k3 k5 j9 d g7 P h ⟨g4, f9, I, rfl, e4⟩
  obtain rfl := I.symm
  replace d := d.perm (Tb (Tr Tn))
  refine lr (Wm (Wf jT (VA d (Mt (Ma Mh)) (aM c.Head) isAgg28 sizeOf28 (bS hm fun N e3 hm => ?_))))
  refine VE (eM d (Cb Pz (Cr Qz Cn)) call269 (fun l _ => (om g g4 r9.2 f9 c.Head _ _ l e4 e3)) ?_)
  rintro _ k4 d1 k0 d g8 R h ⟨G, D, J, rfl, i⟩
  obtain rfl := J.symm
  replace d := d.perm (Tb (Tr Tn))
  refine ln (aW (CJ hm (fun a3 E W => ∃ B H K Q, bO d1 K ∧ ST true cA w W K ((g, Ob #[B] 92) :: (H ++ Q)) ∧ E 3 = (.pointer (some ⟨g, 0, none⟩)) ∧ bG 5 (dM .u8) 1 B a3 H) (fun a3 a => ?_) ?_))
  · refine sg (Wf jQ (VB d (Mt (Ma Mh)) rfl rfl isAgg3 (ln (bg (Wi rfl (Wa (ln (CI a rfl (fun b0 a => ?_) (fun b0 a => ?_)))))))))
    · refine aU (Wm (Wf qc (VB d (Mt (Ma Mh)) rfl rfl isAgg9 (bS a fun i3 b6 a => ?_))))
      refine VE (eM d (Cb Pz (Cr Qz Cn)) call270 (fun l _ => (sm g G N.2 D c.cH _ _ l i b6)) ?_)
      rintro _ i8 f5 g9 d T q h ⟨e9, d3, k, rfl, c5⟩
      obtain rfl := k.symm
      replace d := d.perm (Tb (Tr Tn))
      refine bK (bY (aR ?_))
      obtain rfl := sj a
      exact ⟨e9, d3, f5, _, T, (d.aF (Kb (Kr (Db St)))), rfl, c5⟩
    refine sg (Wi rfl (Wa (ln (CI a rfl (fun b2 a => ?_) (fun b2 a => ?_)))))
    · refine aU (Wm (Wf gh (VA d (Mt (Ma Mh)) (aM c.B) isAgg28 sizeOf28 (bS a fun i4 b9 a => ?_))))
      refine VE (eM d (Cb Pz (Cr Qz Cn)) call269 (fun l _ => (om g G N.2 D c.B _ _ l i b9)) ?_)
      rintro _ i9 f6 h0 d U s h ⟨f0, d4, t, rfl, c6⟩
      obtain rfl := t.symm
      replace d := d.perm (Tb (Tr Tn))
      refine bK (bY (aR ?_))
      obtain rfl := sj a
      exact ⟨f0, d4, f6, _, U, (d.aF (Kb (Kr (Db St)))), rfl, c6⟩
    refine sg (Wi rfl (Wa (ln (CI a rfl (fun b3 a => ?_) (fun b3 a => ?_)))))
    · refine sg (Wm (Wf gh (VA d (Mt (Ma Mh)) (aM c.B) isAgg28 sizeOf28 (bS a fun e6 c0 a => ?_))))
      refine VE (eM d (Cb Pz (Cr Qz Cn)) call269 (fun l _ => (om g G N.2 D c.B _ _ l i c0)) ?_)
      rintro _ j0 j7 h1 d Y A h ⟨f1, d5, u, rfl, c7⟩
      obtain rfl := u.symm
      replace d := d.perm (Tb (Tr Tn))
      refine ln (aU (Wm (Wf nL (VB d (Mt (Ma Mh)) rfl rfl isAgg9 (bS a fun i5 c1 a => ?_)))))
      refine VE (eM d (Cb Pz (Cr Qz Cn)) call270 (fun l _ => (sm g f1 e6.2 d5 c.cO _ _ l c7 c1)) ?_)
      rintro _ j3 f7 h2 d Z F h ⟨f2, d6, x, rfl, c8⟩
      obtain rfl := x.symm
      replace d := d.perm (Tb (Tr Tn))
      refine bK (bY (aR ?_))
      obtain rfl := sj a
      exact ⟨f2, d6, f7, _, (Y.trans Z), (d.aF (Kb (Kr (Db St)))), rfl, c8⟩
    refine sg (Wi rfl (Wa (ln (CI a rfl (fun b4 a => ?_) (fun b4 a => ?_)))))
    · refine sg (Wm (Wf gh (VA d (Mt (Ma Mh)) (aM c.B) isAgg28 sizeOf28 (bS a fun e7 c2 a => ?_))))
      refine VE (eM d (Cb Pz (Cr Qz Cn)) call269 (fun l _ => (om g G N.2 D c.B _ _ l i c2)) ?_)
      rintro _ j4 j8 h3 d a1 L h ⟨f3, d7, y, rfl, c9⟩
      obtain rfl := y.symm
      replace d := d.perm (Tb (Tr Tn))
      refine ln (aU (Wm (Wf lP (VA d (Mt (Ma Mh)) (aM c.C) isAgg28 sizeOf28 (bS a fun i6 c3 a => ?_)))))
      refine VE (eM d (Cb Pz (Cr Qz Cn)) call269 (fun l _ => (om g f3 e7.2 d7 c.C _ _ l c9 c3)) ?_)
      rintro _ j5 f8 h4 d a2 O h ⟨f4, d8, z, rfl, d0⟩
      obtain rfl := z.symm
      replace d := d.perm (Tb (Tr Tn))
      refine bK (bY (aR ?_))
      obtain rfl := sj a
      exact ⟨f4, d8, f8, _, (a1.trans a2), (d.aF (Kb (Kr (Db St)))), rfl, d0⟩
    refine cZ (bY (aR ?_))
    obtain rfl := sj a
    exact ⟨G, D, d1, _, (bO.refl _), (d.aF (Kb (Kr (Db St)))), rfl, i⟩
  rintro e5 E W ⟨B, H, K, Q, g1, d, d9, c4⟩ j
  refine sg (Wh d9 (bS j fun i2 b5 j => VE (jg d call66 ((uP g B e5 _ _ (c4.sl (fun _ => rfl) (fun b o m => d.at_ (Mt (Ml m)))) (At.of (d.at_ Mh) _ rfl) b5)) (fun h5 e8 j6 d2 d g2 n M => Wa (ln ?_)))))
  replace d := d.aF (Kr (Db (Dr St)))
  refine bH ?_
  obtain rfl := sj j
  exact dH (v := e8) rfl rfl ⟨_, d2, rfl, d.gb (fun p m => (Ml m)) M.nd, M⟩
theorem Ld (w : World) {d g : Value} {a b : List Int} (h1 : Sl (Pl (dM .u8)) 1 (hp w) d a) (h : Sl (Pl (dM .u8)) 1 (hp w) g b) : (callFunc 369 [d, g].toArray).run Tryz.prog w = .ok (.value (.int .i64 (rJ a b))) w := Io func369 (by kernel_rfl) (by kernel_rfl) (by kernel_rfl) (by kernel_rfl) h1 h
theorem vE (a : Value) (g : List Int) (c : Value) (i : List Int) (r : Int) (w : World) (j : Sl (Pl (dM .u8)) 1 (hp w) a g) (k : Sl (Pl (dM .u8)) 1 (hp w) c i) (hm : pN g i = some r) :
    bF true Tryz.prog 323 [a, c] w (.int .i64 r) := by
  exact cG 8 func323 rfl (fun b => sg (Wa (lr (Wm (Wm (VE (F9 (args := [a, c]) (v := .int .i64 (rJ g i)) rfl (by exact pC rfl rfl) (Ld _ (j.mono (Pl.mono _) b.aP) (k.mono (Pl.mono _) b.aP)) (Wa (lt (rQ hm b))))))))))
theorem B0 (g i : aB) (r : Int) (w : World) (hm : mU g i = some r) :
    bF true Tryz.prog 231 [(.agg (aG g).toArray), (.agg (aG i).toArray)] w (.int .i64 r) := by
  refine cG 10 func231 rfl (fun d => sg (VE (bX d rfl (fun T Y d => VE (bX d rfl (fun U Z d => Wa (ln (aW ?_))))))))
  replace d := d.drew
  have h := d.has.aF (Kb (Kb Sn))
  refine cT h cE (XH 0 rfl h (fun _ l => aH rfl (aK l (Mt Mh) (aG g) rfl isAgg53 sizeOf53)) (XH 2 rfl h (fun _ l => aH rfl (aK l Mh (aG i) rfl isAgg53 sizeOf53)) (bS hm fun y t hm => XE 1 rfl (jg d call155 ((yd g _ _  t)) (fun I B N G d a n j => ?_)))))
  have h := d.has.na a (Dr (Kb (Kb Sn)))
  refine ⟨h, (bS hm fun z u hm => XE 3 rfl (jg d call155 ((yd i _ _  u)) (fun J D Q H d c p k => ?_)))⟩
  have h := d.has.na (a.trans c) (Dr (Dr (Kb (Kb Sn))))
  refine ⟨h, (bS hm fun M x hm => XE 4 rfl (Eg d call323 ((vE B y D z _ _ (j.sl (fun _ => rfl) (fun b o m => d.at_ (Ma (Ml m)))) (k.sl (fun _ => rfl) (fun b o m => d.at_ (Ml m))) x)) (fun K d => ?_)))⟩
  have h := d.has.na (a.trans c) (Dr (Dr (Kb (Kb Sn))))
  refine ⟨h, (X 5 rfl h (fW rfl) (dG kr (aR ?_)))⟩
  exact bH (rQ hm d)
theorem wD (j : Value) (a0 : List aB) (x : LO) (r : List aB) (w : World) {μ0 : bW} (h0 : gj μ0 (x ++ []) w) (B : bG 53 aG 9 j a0 x) (hm : lZ a0 = some r) :
    dV true Tryz.prog 232 [j] w (x ++ []) (fun v L1 W' => ∃ y1 S2, v = y1 ∧ L1 = (S2 ++ []) ∧ bG 53 aG 9 y1 r S2) := by
  refine uY h0 61 func232 rfl (fun b => sg (Wa (lS (Wm (V (fi underlying22 rfl B) (Wi rfl (ln (CI hm rfl (fun g0 hm => ?_) (fun g0 hm => ?_)))))))))
  · refine sg (Wm (Wa (lt (bU ?_))))
    obtain rfl := sj hm
    exact dH (v := j) rfl rfl ⟨_, _, rfl, (b.ej (Kr Sn)), j, x, rfl, rfl, B⟩
  refine kS (Wa (ln (dN (fB (fun m E W => ∃ t R, ST true (keys (x ++ [])) w W μ0 (x ++ R) ∧ E 0 = j ∧ E 3 = (.int .i64 t) ∧ gE a0 m t = some r) bL ⟨1, _, (b.aF St), rfl, rfl, hm⟩ ?_))))
  rintro m E W ⟨t, R, b, D, H, a⟩
  cases m with
  | zero => rw [gE] at a; cases a
  | succ f5 =>
    refine aW (sg (Wh H (Wh D (V (fi underlying22 rfl B) (Wi rfl (ln (CI a rfl (fun d0 a => ?_) (fun d0 a => ?_))))))))
    · refine kn (aW (dN (aW ?_)))
      replace b := b.drew
      have d := b.has.aF (Kr Sn)
      refine cT d cE (X 0 rfl d (aQ D) (X 1 rfl d (aQ H) (bS a fun c3 Z a => XQ 2 rfl d (iZ (i := t) (x0 := c3) underlying22 sizeOf53 rfl rfl B (bV Z) (bQ Z)) (fun g7 d6 => XH 3 rfl d (fun _ l => aH rfl (oJ l (fun p h => (Ml h)) B bI d6 (bQ Z) isAgg53 sizeOf53)) (X 4 rfl d (aQ D) (X 5 rfl d (aQ H) (X 6 rfl d (cF rfl rfl rfl) (bS a fun c4 n a => XQ 7 rfl d (iZ (i := (IntKind.i64.wrap (t - 1))) (x0 := c4) underlying22 sizeOf53 rfl rfl B (bV n) (bQ n)) (fun g8 d7 => XH 8 rfl d (fun _ l => aH rfl (oJ l (fun p h => (Ml h)) B bI d7 (bQ n) isAgg53 sizeOf53)) (X 9 rfl d (oa rfl rfl (fS eqGuardType53) (kC (oN _ c3 c4))) (dG kr (aR ?_))))))))))))
      refine CI a rfl (fun d1 a => ?_) (fun d1 a => ?_)
      · refine sg (Wh D (Wh H (bS a fun _ F a => VQ (tu (i := t) underlying22 sizeOf53 rfl rfl B (oM F) (oL F)) (fun c1 M => Wa (lS (Wa (ln ?_)))))))
        refine CJ a (fun U E W => ∃ q b5, ST true (keys (x ++ [])) w W μ0 (q ++ b5) ∧ E 0 = j ∧ E 3 = (.int .i64 U.2) ∧ bG 53 aG 9 j U.1 q) (fun U d4 => ?_) ?_
        · refine dN (fB (fun m E W => ∃ s K Y y b6, ST true (keys (x ++ [])) w W μ0 (K ++ b6) ∧ E 0 = j ∧ E 3 = (.int .i64 Y) ∧ E 4 = c1 ∧ E 5 = (.int .i64 y) ∧ bG 53 aG 9 j s K ∧ gJ t m s Y y = some U) bL ⟨a0, x, t, 1, _, (b.aF St), D, H, rfl, rfl, B, d4⟩ ?_)
          rintro m E W ⟨s, K, Y, y, b6, b, Q, T, I, J, g, k⟩
          cases m with
          | zero => rw [gJ] at k; cases k
          | succ f6 =>
            refine aW (sg (Wh J (Wh I (V (CP underlying22 rfl M g) (Wi rfl (ln (CI k rfl (fun d2 k => ?_) (fun d2 k => ?_))))))))
            · refine kn (aW (CJ k (fun A E W => ∃ N b7, ST true (keys (x ++ [])) w W μ0 (N ++ b7) ∧ E 0 = j ∧ E 3 = (.int .i64 A.2) ∧ E 4 = c1 ∧ E 5 = (.int .i64 y) ∧ bG 53 aG 9 j A.1 N) (fun A c => ?_) ?_))
              · refine dN (aW ?_)
                replace b := b.drew
                have d := b.has.aF (Kr Sn)
                refine cT d cE (X 0 rfl d (aQ I) (X 1 rfl d (aQ J) (bS c fun c6 a2 c => XQ 2 rfl d (tz (i := y) (x0 := c6) underlying22 sizeOf53 rfl rfl g M (bV a2) (bQ a2)) (fun g9 d8 => XH 3 rfl d (fun _ l => aH rfl (oJ l (fun p h => (Ml h)) g bI d8 (vl (bQ a2)) isAgg53 sizeOf53)) (X 4 rfl d (aQ I) (X 5 rfl d (aQ J) (X 6 rfl d (cF rfl rfl rfl) (bS c fun c7 a3 c => XQ 7 rfl d (tz (i := (IntKind.i64.wrap (y - 1))) (x0 := c7) underlying22 sizeOf53 rfl rfl g M (bV a3) (bQ a3)) (fun h1 d9 => XH 8 rfl d (fun _ l => aH rfl (oJ l (fun p h => (Ml h)) g bI d9 (vl (bQ a3)) isAgg53 sizeOf53)) (X 9 rfl d (BQ rfl rfl (fS eqGuardType53) (wM (oN _ c6 c7))) (dG kr (aR ?_))))))))))))
                refine CI c rfl (fun d3 c => ?_) (fun d3 c => ?_)
                · refine sg (Wh Q (Wh T (Wh I (Wh J (bS c fun a9 a4 c => VQ (tz (i := y) (x0 := a9) underlying22 sizeOf53 rfl rfl g M (bV a4) (bQ a4)) (fun h2 e0 => V (aH rfl (oJ b.has (fun p h => (Ml h)) g bI e0 (vl (bQ a4)) isAgg53 sizeOf53)) (bS c fun f8 a5 c => VQ (iZ (i := Y) (x0 := f8) underlying22 sizeOf53 rfl rfl g (bV a5) (bQ a5)) (fun h3 e1 => VO (wV (u := (.agg (aG a9).toArray)) (x1 := a9)  b g bI fC rfl rfl rfl e1 (bQ a5) sizeOf53 (fun g3 e8 b c9 => ln (aU ?_)))))))))))
                  refine Wh T (Wi rfl (Wa (bK (bY (aR ?_)))))
                  obtain rfl := sj c
                  exact ⟨e8, _, (b.aF St), Q, rfl, I, J, c9⟩
                refine cZ (bY (aR ?_))
                obtain rfl := sj c
                exact ⟨K, _, (b.aF St), Q, T, I, J, g⟩
              rintro ⟨f4, f7⟩ E W ⟨N, b7, b, f0, f1, f2, f3, e4⟩ d5
              exact aU (Wh f3 (Wi rfl (Wa (ln ⟨f6, Nat.lt_succ_self _, f4, N, f7, ((IntKind.i64.wrap (y + 1))), _, (b.aF St), f0, f1, f2, rfl, e4, d5⟩))))
            refine fI (fD (fD (kz (aR ?_))))
            obtain rfl := sj k
            exact ⟨K, _, (b.aF St), Q, T, g⟩
        rintro ⟨g4, c5⟩ E W ⟨q, b5, b, b9, c0, P⟩ G
        refine sg (Wh b9 (Wh c0 (bS G fun _ L G => VQ (tu (i := c5) underlying22 sizeOf53 rfl rfl P (oM L) (oL L)) (fun h4 e2 => VO (wy (z := Ky)  b P bI fC underlying22 zeroValue53 e2 rfl rfl (fun g2 e7 b c8 => lr (Wh b9 (Wh c0 (bS G fun _ O G => VQ (xZ (i := c5) underlying22 sizeOf53 rfl rfl c8 bI (oM O) (oL O)) (fun c2 e3 => ?_))))))))))
        refine Wa (lt (eF (bU (bU (eF (bU ?_))))))
        obtain rfl := sj G
        exact dH (v := c2) rfl rfl ⟨_, _, rfl, (b.ej (Kr Sn)), c2, e7, rfl, rfl, e3⟩
      exact cZ (bY (aR (aU (Wh H (Wi rfl (Wa (ln ⟨f5, Nat.lt_succ_self _, ((IntKind.i64.wrap (t + 1))), _, (b.aF St), D, rfl, a⟩)))))))
    refine fI (fD (fD (kz (aR (sg (Wh D (Wa (lt ?_))))))))
    obtain rfl := sj a
    exact dH (v := j) rfl rfl ⟨_, _, rfl, (b.ej (Kr Sn)), j, x, rfl, rfl, B⟩
theorem BD (i : Value) (t r : List aB) (w : World) (B : Sl (Pl aG) 9 (hp w) i t) (hm : nR t = some r) :
    dP false Tryz.prog 116 [i] w 53 aG 9 r := by
  refine ng 11 func116 rfl (fun b => sg (Wa (lr (Wm (bS hm fun y T hm => VE (jg b call228 (dP.dK (py i t _ _ (B.mono (Pl.mono _) b.aP) T)) (fun W3 v7 z R8 b a5 q Q => bS hm fun U D hm => ?_)))))))
  refine VE (eM b (Cr Qz Cn) call143 (fun h _ => (nq v7 y R8 (.func (.func 229) #[] #[]) (fun (x : aB) => ra x) _ _ h Q ⟨229, #[], #[], rfl, call229, fun W x r u hm => (Dv x r W  hm).dK⟩ D)) ?_)
  rintro _ O b9 E b A l d ⟨k, K, a, rfl, I⟩
  obtain rfl := a.symm
  replace b := b.perm (Tr Tn)
  refine Wa (lr (Wm (bS hm fun Y G hm => ?_)))
  refine VE (eM b (Cr Qz Cn) call230 (fun h _ => dV.dK (Gn k U K (.func (.func 231) #[] #[]) (fun (x : (aB × aB)) => mU x.1 x.2) _ _ h I ⟨231, #[], rfl, call231, fun W x r u hm => B0 x.1 x.2 r W  hm⟩ G)) ?_)
  rintro _ P c0 a9 b a2 m d ⟨M, c, rfl, J⟩
  obtain rfl := c.symm
  replace b := b.perm (Tr Tn)
  refine lr (Wm (bS hm fun L H hm => ?_))
  refine VE (eM b (Cr Qz Cn) call232 (fun h _ => dV.dK (wD k Y M _ _ h J H)) ?_)
  rintro _ R c1 F b a3 n d ⟨Z, N, g, rfl, j⟩
  obtain rfl := g.symm
  replace b := b.perm (Tr Tn)
  refine Wa (lt ?_)
  obtain rfl := sj hm
  exact dH (v := Z) rfl rfl ⟨_, N, rfl, b.gb (fun p s => (Ml s)) j.nd, j⟩
theorem zY (x : cR) (j t : Value) (r : List aB) (w : World) (g : Sl bN 15 (hp w) j x.aT) (B : Sl dF 8 (hp w) t x.bP) (hm : nU x = some r) :
    dP false Tryz.prog 174 [(.agg #[(.string x.Name), j, t])] w 53 aG 9 r := by
  refine ng 22 func174 rfl (fun d => sg ?_)
  obtain ⟨A1, c2, rfl⟩ := g.form
  obtain ⟨A3, c4, rfl⟩ := B.form
  refine VE (bX d rfl (fun W6 b5 d => Wa (lr (Wa (lS (Wf kD (VB d Mh rfl rfl isAgg107 (V (cU underlying107 rfl g) ?_))))))))
  refine Wm (ln ?_)
  replace d := d.aF (Db St)
  refine cK (fun i E W => ∃ k y u D, (E 9 = .int .i64 (i : Nat) ∧ E 8 = .int .i64 (x.aT.length : Nat)) ∧ ST false cA w W (hp w) (u ++ D) ∧ E 3 = k ∧ E 7 = (.slice A1 x.aT.length c2) ∧ bG 53 aG 9 k y u ∧ iW (x.aT.drop i) y = some r) x.aT.length g.len ⟨(.slice none 0 0), ([]), [], _, ⟨rfl, rfl⟩, (d.aF St), rfl, rfl, (bG.nil _ _ _), hm⟩ dc dc dc (fun _ _ _ h => by obtain ⟨_, _, _, _, n, _⟩ := h; exact n) ?_ ?_
  · rintro b6 E W U ⟨k, y, u, D, ⟨m, A⟩, d, G, H, z, c⟩
    obtain ⟨a, d2, O, L, P⟩ := cC U
    rw [O] at c
    refine bg (VQ (ei (i := (b6 : Int)) (x0 := a) bN.out underlying107 sizeOf138 H m g (Int.natCast_nonneg _) L) (fun c8 ⟨_, ⟨d0, d1, rfl, F, a2⟩, Y⟩ => V (aH rfl (bE d.has Y isAgg138 sizeOf138)) (VE (bR d zeroValue138 (fun b9 c6 d => ?_)))))
    obtain ⟨J, M, rfl⟩ := F.form
    obtain ⟨K, N, rfl⟩ := a2.form
    let a0 := (C3 a.Signed.aB.Kind a.Signed.aB.Head.aC a.Signed.aB.Head.aJ a.Signed.aB.cH a.Signed.aB.B.aC a.Signed.aB.B.aJ a.Signed.aB.C.aC a.Signed.aB.C.aJ a.Signed.aB.cO J a.Signed.Tag.length M a.aI.Op a.aI.K a.aI.aA.aC a.aI.aA.aJ K a.aI.Kids.length N)
    refine VO (aX (.agg a0.toArray) (a0.toArray) d rfl rfl sizeOf138 oc nb rfl (fun c0 d => ln (aU (Wh G (Wf po (Wf qW (VA d Mh (aG a.Signed.aB) isAgg53 sizeOf53 (VE (bJ (cs := (aG a.Signed.aB).toArray) d (dZ rfl) (ew underlying22 sizeOf53 zeroValue53) (fun c1 a5 d => ?_))))))))))
    replace d := d.perm (Nr (Qb (Qb Qz)) Nz)
    refine bS c fun a9 T c => VE (ga (enc := aG) (v := k) (vs := (.slice (some ⟨a5, 0, none⟩) 1 1)) (R := u) d bI dc fC underlying22 eJ.1 eJ.2.1 rfl eJ.2.2.1 eJ.2.2.2 rfl rfl z (Sl.lit (enc := aG) (l := [a.Signed.aB]) bI rfl nb rfl (d.at_ (Ma Mh))) T (fun c3 b0 a3 d Q => Wa (bK (bY (aR ?_)))))
    replace d := d.aF (Kr (Db (Db St)))
    exact ⟨m, b0, a9, a3, _, ⟨rfl, A⟩, (d.aF St), rfl, H, Q, (by rw [P]; exact c)⟩
  rintro E W ⟨k, y, u, D, ⟨m, A⟩, d, G, H, z, c⟩
  rw [List.drop_length] at c
  refine aR (sg (Wh G (bS c fun c9 Z c => VE (jg d call116 ((BD k y _ _ (z.sl bI (fun b o s => d.at_ (Ml s))) Z)) (fun c5 b1 d3 a4 d b4 q I => Wa (ln ?_))))))
  replace d := d.aF (Kr (Dr St))
  refine bH ?_
  obtain rfl := sj c
  exact dH (v := b1) rfl rfl ⟨_, a4, rfl, d.gb (fun p s => (Ml s)) I.nd, I⟩
theorem xX (j : Value) (t : List aB) (c : aB) (r : Int) (w : World) (g : Sl (Pl aG) 9 (hp w) j t) (hm : pA t c = some r) :
    bF true Tryz.prog 339 [j, (.agg (aG c).toArray)] w (.int .i64 r) := by
  refine cG 19 func339 rfl (fun b => sg (VE (bX b rfl (fun Q J b => Wa (lS (Wm (V (cU underlying22 rfl g) (Wm (ln ?_)))))))))
  refine cK (fun i E W => ∃ k, (E 8 = .int .i64 (i : Nat) ∧ E 7 = .int .i64 (t.length : Nat)) ∧ ST true cA w W (hp w) ((J, Ol (aG c) 53) :: k) ∧ E 0 = j ∧ E 3 = (.pointer (some ⟨J, 0, none⟩)) ∧ jx c (t.drop i) i = some r) t.length g.len ⟨_, ⟨rfl, rfl⟩, (b.aF St), rfl, rfl, hm⟩ dc dc dc (fun _ _ _ h => by obtain ⟨_, m, _⟩ := h; exact m) ?_ ?_
  · rintro K E W B ⟨k, ⟨l, p⟩, b, u, x, a⟩
    obtain ⟨y, M, H, G, I⟩ := cC B
    rw [H] at a
    refine bg (Wh l (Wa (ln (aW ?_))))
    replace b := b.drew
    have d := b.has.aF (Kb Sn)
    refine cT d cE (XH 0 rfl d (fun _ n => aH x (aK n Mh (aG c) rfl isAgg53 sizeOf53)) (X 1 rfl d (aQ u) (X 2 rfl d (aQ rfl) (XQ 3 rfl d (fJ (enc := aG) (i := (K : Int)) (x0 := y) underlying22 sizeOf53 rfl rfl g (Int.natCast_nonneg _) G) (fun N D => XH 4 rfl d (fun _ n => aH rfl (bE n D isAgg53 sizeOf53)) (X 5 rfl d (oa rfl rfl (fS eqGuardType53) (kC (oN _ c y))) (dG kr (aR (CI a rfl (fun z a => ?_) (fun z a => ?_))))))))))
    · refine sg (Wm (Wa (ln ?_)))
      replace b := b.aF (Db St)
      refine bH (eF (bU (eF (bU ?_))))
      obtain rfl := sj a
      exact rP b
    exact cZ (bY (aR ⟨l, _, ⟨rfl, p⟩, (b.aF St), u, x, (by rw [I]; exact a)⟩))
  rintro E W ⟨k, ⟨l, p⟩, b, u, x, a⟩
  rw [List.drop_length] at a
  refine aR ?_
  replace b := b.aF (Db St)
  exact sg (Wa (lt (rQ a b)))
theorem vY (a : Value) (g : List aB) (c : aB) (r : Bool) (w : World) (i : Sl (Pl aG) 9 (hp w) a g) (hm : lJ g c = some r) :
    bF true Tryz.prog 262 [a, (.agg (aG c).toArray)] w (.bool r) := by
  refine cG 9 func262 rfl (fun b => sg (VE (bX b rfl (fun k u b => Wa (lr (Wm (VA b Mh (aG c) isAgg53 sizeOf53 (bS hm fun x j hm => VE (Eg b call339 ((xX a g c _ _ (i.mono (Pl.mono _) b.aP) j)) (fun t b => Wi rfl (Wa ?_)))))))))))
  refine ln ?_
  exact bH (rQ hm b)
theorem uA (a : Value) (g : List aB) (c : aB) (r : Bool) (w : World) (i : Sl (Pl aG) 9 (hp w) a g) (hm : kk g c = some r) :
    bF true Tryz.prog 201 [a, (.agg (aG c).toArray)] w (.bool r) := by
  refine cG 8 func201 rfl (fun b => sg (VE (bX b rfl (fun k u b => Wa (lr (Wm (VA b Mh (aG c) isAgg53 sizeOf53 (bS hm fun x j hm => VE (Eg b call262 ((vY a g c _ _ (i.mono (Pl.mono _) b.aP) j)) (fun t b => Wa (bK ?_)))))))))))
  refine aR ?_
  exact bH (rQ hm b)
theorem E0 (a : aB) (r : List aA) (w : World) (hm : si a = some r) :
    dP true Tryz.prog 118 [(.agg (aG a).toArray)] w 28 aM 2 r := by
  refine ng 27 func118 rfl (fun b => sg (VE (bX b rfl (fun W2 h b => Wa (lS (VA b Mh (aG a) isAgg53 sizeOf53 (bS hm fun r3 q hm => VE (Eg b call137 ((rS a _ _  q)) (fun W5 b => V (gn rfl) (bK ?_))))))))))
  refine aR (CI hm rfl (fun n hm => ?_) (fun n hm => ?_))
  · refine sg (Wa (ln ?_))
    replace b := b.aF (Db St)
    refine bH (bU ?_)
    obtain rfl := sj hm
    exact dH (v := (.slice none 0 0)) rfl rfl ⟨_, [], rfl, b.gb (fun p d => by cases d) (by simp), bG.nil _ _ _⟩
  refine kg (Wf jT (VA b Mh (aM a.Head) isAgg28 sizeOf28 (VE (bJ (cs := (aM a.Head).toArray) b (dZ rfl) (ew underlying34 sizeOf28 zeroValue28) (fun W8 y b => Wa (ln (aW (CJ hm (fun I E W => ∃ j i z, ST true cA w W (hp w) ((h, Ol (aG a) 53) :: (i ++ z)) ∧ E 1 = (.pointer (some ⟨h, 0, none⟩)) ∧ E 3 = j ∧ bG 28 aM 2 j I i) (fun I g => ?_) ?_))))))))
  · refine sg (Wf jQ (VB b (Mt Mh) rfl rfl isAgg3 (Wi rfl (ln (CI g rfl (fun Q g => ?_) (fun Q g => ?_))))))
    · refine aU (Wm (Wf gh (VA b (Mt Mh) (aM a.B) isAgg28 sizeOf28 (VE (bJ (cs := (aM a.B).toArray) b (dZ rfl) (ew underlying34 sizeOf28 zeroValue28) (fun L a4 b => ?_))))))
      replace b := b.perm (Nb (Pb Pz) Nz)
      refine bS g fun c0 T g => VE (ga (enc := aM) (v := (.slice (some ⟨y, 0, none⟩) 1 1)) (vs := (.slice (some ⟨a4, 0, none⟩) 1 1)) (R := [(y, Ol (aM a.Head) 28)]) b rL dc pp underlying34 oX.1 oX.2.1 rfl oX.2.2.1 oX.2.2.2 rfl rfl (bG.lit (l := [a.Head]) (enc := aM) rfl dc rfl rfl) (Sl.lit (enc := aM) (l := [a.B]) rL rfl nb rfl (b.at_ (Mt Mh))) T (fun O a9 m b K => Wa (ln ?_)))
      obtain rfl := sj g
      exact ⟨a9, m, _, (b.aF (Sb (Pr (Pb Pz)) (Kr (Db St)))), rfl, rfl, K⟩
    refine kn ?_
    obtain rfl := sj g
    replace b := b.xY
    exact ⟨(.slice (some ⟨y, 0, none⟩) 1 1), [(y, Ol (aM a.Head) 28)], _, (b.aF (Sb (Pr Pz) St)), rfl, rfl, (bG.lit (l := [a.Head]) (enc := aM) rfl dc rfl rfl)⟩
  rintro P E W ⟨j, i, z, b, D, G, u⟩ U
  refine aW (CJ U (fun H E W => ∃ t k B, ST true cA w W (hp w) (k ++ B) ∧ E 3 = t ∧ bG 28 aM 2 t H k) (fun H c => ?_) ?_)
  · refine sg (V (aO jQ D) (VB b Mh rfl rfl isAgg3 (Wi rfl (ln (CI c rfl (fun M c => ?_) (fun M c => ?_))))))
    · refine aU (Wh G (V (aO lP D) (VA b Mh (aM a.C) isAgg28 sizeOf28 (VE (bJ (cs := (aM a.C).toArray) b (dZ rfl) (ew underlying34 sizeOf28 zeroValue28) (fun A a3 b => ?_))))))
      replace b := b.perm (Nr (Qb (Qb Qz)) Nz)
      refine bS c fun b9 N c => VE (ga (enc := aM) (v := j) (vs := (.slice (some ⟨a3, 0, none⟩) 1 1)) (R := i) b rL dc pp underlying34 oX.1 oX.2.1 rfl oX.2.2.1 oX.2.2.2 rfl rfl u (Sl.lit (enc := aM) (l := [a.C]) rL rfl nb rfl (b.at_ (Ma Mh))) N (fun F s Z b J => Wa (ln ?_)))
      obtain rfl := sj c
      exact ⟨s, Z, _, (b.aF (Kr (Db (Db St)))), rfl, J⟩
    refine kn ?_
    obtain rfl := sj c
    exact ⟨j, i, _, (b.aF (Db St)), G, u⟩
  rintro b6 E W ⟨t, k, B, b, a5, x⟩ Y
  refine sg (Wh a5 (Wa (lt ?_)))
  obtain rfl := sj Y
  exact dH (v := t) rfl rfl ⟨_, k, rfl, b.gb (fun p d => (Ml d)) x.nd, x⟩
theorem xj (M : Nat) (u : Value) (a9 : List (aA × (List (ByteArray × Bool)))) (G : LO) (D : Value) (a0 : List aB) (B : LO) (a : Value) (Y : List (aA × (List aB))) (I : LO) (c : Value) (K : List (ByteArray × (List aB))) (t : LO) (j : Value) (a4 : List aV) (y : LO) (J : Int) (H : aB) (r : ((List aB) × (List (aA × (List aB))) × (List (ByteArray × (List aB))))) (w : World) {μ0 : bW} (h0 : gj μ0 ((M, Ob #[u, D, a, c, j, (.int .i64 J)] 294) :: (G ++ (B ++ (I ++ (t ++ (y ++ [])))))) w) (e9 : eu (fun (x : aA) => (.agg (aM x).toArray)) (ek Value.string (fun (x : Bool) => (Value.bool x))) u a9 G) (a6 : bG 53 aG 9 D a0 B) (b2 : eu (fun (x : aA) => (.agg (aM x).toArray)) (bG 53 aG 9) a Y I) (T : eu Value.string (bG 53 aG 9) c K t) (e1 : jS 38 bZ 3 j a4 y) (hm : mK a9 a0 Y K a4 J H = some r) :
    dV true Tryz.prog 324 [(.pointer (some ⟨M, 0, none⟩)), (.agg (aG H).toArray)] w ((M, Ob #[u, D, a, c, j, (.int .i64 J)] 294) :: (G ++ (B ++ (I ++ (t ++ (y ++ [])))))) (fun v L1 W' => ∃ y1 S2 S4 S6, v = (.tuple #[]) ∧ L1 = ((M, Ob #[u, y1, a, c, j, (.int .i64 J)] 294) :: (G ++ (S2 ++ (S4 ++ (S6 ++ (y ++ [])))))) ∧ bG 53 aG 9 y1 r.1 S2 ∧ eu (fun (x : aA) => (.agg (aM x).toArray)) (bG 53 aG 9) a r.2.1 S4 ∧ eu Value.string (bG 53 aG 9) c r.2.2 S6) := by
  refine uY h0 55 func324 rfl (fun d => sg (VE (bX d rfl (fun W2 b1 d => ln (aW ?_)))))
  replace d := d.drew
  have m := d.has.aF (Kb Sn)
  have n := d.has.aF (Db (Kb Sn))
  refine oE 10 m n cE (cY 0 rfl kr (.inl rfl) rfl dc (fun _ _ h => ⟨h.1, dW br h.2⟩) ⟨m, fun _ => n⟩ (fun _ _ _ _ => aQ rfl) (cY 1 rfl kr (.inl rfl) rfl dc (fun _ _ h => ⟨h.1, dW br h.2⟩) ⟨m, fun _ => n⟩ (fun _ _ _ _ => aQ rfl) (cY 2 rfl kr (.inl rfl) rfl dc (fun _ _ h => ⟨h.1, dW br h.2⟩) ⟨m, fun _ => n⟩ (fun _ _ _ _ => fG rfl) (cY 3 rfl kr (.inl rfl) rfl dc (fun _ _ h => ⟨h.1, dW br h.2⟩) ⟨m, fun _ => n⟩ (fun _ _ _ _ => aO CC rfl) (cY 4 rfl kr (.inl rfl) rfl dc (fun _ _ h => ⟨h.1, dW br h.2⟩) ⟨m, fun _ => n⟩ (fun l W q s => have p := (s.2 (q.xJ 10 [4] kr rfl)); aH rfl (bA p Mh rfl isAgg22)) (cY 5 rfl kr (.inl rfl) rfl dc (fun _ _ h => ⟨h.1, dW br h.2⟩) ⟨m, fun _ => n⟩ (fun l W q s => have p := s.1; aH rfl (aK p Mh (aG H) rfl isAgg53 sizeOf53)) (XE 6 rfl (bJ (cs := (aG H).toArray) d (dZ rfl) (ew underlying22 sizeOf53 zeroValue53) (fun k0 g0 d => ?_)))))))))
  have m := d.has.aF (Db (Kb Sn))
  have n := d.has.aF (Db (Db (Kb Sn)))
  refine ⟨⟨m, fun _ => n⟩, ?_⟩
  replace d := d.perm (Nr (Qb (Qb (Qb (Qr Qz)))) Nz)
  refine bS hm fun a5 f0 hm => XE 7 rfl (ga (enc := aG) (v := D) (vs := (.slice (some ⟨g0, 0, none⟩) 1 1)) (R := B) d bI dc fC underlying22 eJ.1 eJ.2.1 rfl eJ.2.2.1 eJ.2.2.2 rfl rfl a6 (Sl.lit (enc := aG) (l := [H]) bI rfl nb rfl (d.at_ (Ma Mh))) f0 (fun k1 k4 b7 d P => ?_))
  have m := d.has.aF (Dr (Db (Kb Sn)))
  have n := d.has.aF (Dr (Db (Db (Kb Sn))))
  refine ⟨⟨m, fun _ => n⟩, (cY 8 rfl kr (.inl rfl) rfl dc (fun _ _ h => ⟨h.1, dW br h.2⟩) ⟨m, fun _ => n⟩ (fun _ _ _ _ => fG rfl) (cY 9 rfl kr (.inl rfl) rfl dc (fun _ _ h => ⟨h.1, dW br h.2⟩) ⟨m, fun _ => n⟩ (fun _ _ _ _ => aO CC rfl) ?_))⟩
  obtain ⟨a8, b0, rfl⟩ := P.form
  let A : Value := (.slice a8 a5.length b0)
  replace d := d.perm (Nb (Pr (Pb (Pb Pz))) Nz)
  refine XO 10 rfl (aX A (#[u, A, a, c, j, (.int .i64 J)]) d rfl rfl sizeOf22 oc nb rfl (fun k2 d => ?_))
  have m := d.has.aF (Db (Dr (Db (Kb Sn))))
  refine ⟨⟨m, fun h => tX kr h⟩, (dG kr (aR ?_))⟩
  replace d := d.aF (Kb (Kr (Db St)))
  refine aW (sg (VA d (Mt (Ma Mh)) (aG H) isAgg53 sizeOf53 (bS hm fun c1 f1 hm => VE (jg d call118 ((E0 H _ _  f1)) (fun k3 k5 k6 j9 d g4 ab e8 => ?_)))))
  let b8 := ((c1.drop (Int.toNat 1)))
  obtain ⟨g3, d, g7, ad, f2⟩ := ST.I3 d e8 rL
  refine bS hm fun _ b9 hm => VQ (vV (i := 1) underlying34 sizeOf28 rfl rfl f2 (oM b9) (oL b9)) (fun g1 b6 => V (cU underlying34 rfl b6.1) (Wm (ln (cK (fun i E W => ∃ a3 U L, (E 20 = .int .i64 (i : Nat) ∧ E 19 = .int .i64 (b8.length : Nat)) ∧ ST true (keys ((M, Ob #[u, D, a, c, j, (.int .i64 J)] 294) :: (G ++ (B ++ (I ++ (t ++ (y ++ []))))))) w W g3 ((M, Ob #[u, A, a, c, j, (.int .i64 J)] 294) :: ((b1, Ol (aG H) 53) :: (U ++ (b7 ++ (G ++ (t ++ (y ++ L))))))) ∧ E 0 = (.pointer (some ⟨M, 0, none⟩)) ∧ E 3 = (.pointer (some ⟨b1, 0, none⟩)) ∧ E 18 = g1 ∧ eu (fun (x : aA) => (.agg (aM x).toArray)) (bG 53 aG 9) a a3 U ∧ gQ H K a5 (b8.drop i) a3 = some r) b8.length b6.1.len ⟨Y, I, _, ⟨rfl, rfl⟩, (d.aF (Kb (Sb (Pr Pz) (Sr (Qr (Qr Qz)) St)))), rfl, rfl, rfl, b2, hm⟩ dc dc dc (fun _ _ _ h => by obtain ⟨_, _, _, aa, _⟩ := h; exact aa) ?_ ?_))))
  · rintro f3 E W d3 ⟨a3, U, L, ⟨eI, eN⟩, d, a2, N, O, Z, g⟩
    obtain ⟨Q, h4, d8, d7, d9⟩ := cC d3
    rw [d8] at g
    refine bg (VQ (fJ (enc := aM) (i := (f3 : Int)) (x0 := Q) underlying34 sizeOf28 O eI b6.1 (Int.natCast_nonneg _) d7) (fun j4 d4 => V (aH rfl (bE d.has d4 isAgg28 sizeOf28)) (VE (bR d zeroValue28 (fun i1 j0 d => VO (aX (.agg (aM Q).toArray) ((aM Q).toArray) d rfl rfl sizeOf28 (pp Q) nb rfl (fun i2 d => ln ?_)))))))
    replace d := d.drew
    have m := d.has.aF (Kb (Kb (Kb Sn)))
    refine cT m cE (X 0 rfl m (aQ a2) (X 1 rfl m (fG rfl) (X 2 rfl m (aO FB rfl) (XH 3 rfl m (fun _ p => aH rfl (bA p (Mt Mh) rfl isAgg291)) (XH 4 rfl m (fun _ p => aH rfl (aK p Mh (aM Q) rfl isAgg28 sizeOf28)) (XH 5 rfl m (fun _ p => aH N (aK p (Mt (Mt Mh)) (aG H) rfl isAgg53 sizeOf53)) (XE 6 rfl (bJ (cs := (aG H).toArray) d (dZ rfl) (ew underlying22 sizeOf53 zeroValue53) (fun i3 e6 d => ?_)))))))))
    have m := d.has.aF (Db (Kb (Kb (Kb Sn))))
    refine ⟨m, ?_⟩
    obtain ⟨h1, d1⟩ := Z
    replace d := d.perm (Nr (Qb (Qb (Qb (Qb Qz)))) Nz)
    refine XE 7 rfl (GQ (k := Q) (x0 := [])  bD uf underlying291 zeroValue22 (bG.nil _ _ _) d d1 rfl rfl (fun i4 f5 h3 h6 e2 d c3 c2 => ?_))
    have m := d.has.aF (Dr (Dr (Db (Kb (Kb (Kb Sn))))))
    refine ⟨m, (X 8 rfl m (yu rfl rfl) (X 10 rfl m (yu rfl rfl) ?_))⟩
    replace d := d.perm (Nr (Qr Qz) Nz)
    refine bS g fun c0 c8 g => XE 9 rfl (ga (enc := aG) (v := f5) (vs := (.slice (some ⟨e6, 0, none⟩) 1 1)) (R := e2) d bI dc fC underlying22 eJ.1 eJ.2.1 rfl eJ.2.2.1 eJ.2.2.2 rfl rfl c3 (Sl.lit (enc := aG) (l := [H]) bI rfl nb rfl (d.at_ (Ma (Ma Mh)))) c8 (fun i5 j5 h7 d c4 => ?_))
    have m := d.has.aF (Dr (Dr (Db (Kb (Kb (Kb Sn))))))
    refine ⟨m, ?_⟩
    replace d := d.perm (Nr (Qr Qz) Nz)
    refine XO 11 rfl (Ep (e := 0) (z := c0)  bD uf d c2 rfl rfl rfl c4 (fun i6 h2 e3 d c5 => ?_))
    have m := d.has.aF (Dr (Db (Kb (Kb (Kb Sn)))))
    refine ⟨m, (dG kr (bY (aR ?_)))⟩
    replace d := d.aF (Kr (Db (Db St)))
    exact ⟨eI, ((gG bB a3 Q c0)), e3, _, ⟨rfl, eN⟩, (d.aF (Sb (Pr Pz) (Sb (Pr Pz) St))), a2, N, O, c5.e, (by rw [d9]; exact g)⟩
  rintro E W ⟨a3, U, L, ⟨eI, eN⟩, d, a2, N, O, Z, g⟩
  rw [List.drop_length] at g
  refine aR (sg (V (aO jQ N) (VB d (Mt Mh) rfl rfl isAgg3 (Wi rfl (ln (CI g rfl (fun c9 g => ?_) (fun c9 g => ?_)))))))
  · replace d := d.drew
    have m := d.has.aF (Kb (Kb Sn))
    have n := d.has.aF (Db (Db (Dr (Dr (Dr (Kr Sn))))))
    refine oE 15 m n cE (cY 0 rfl kr (.inl rfl) rfl dc (fun _ _ h => ⟨h.1, dW br h.2⟩) ⟨m, fun _ => n⟩ (fun _ _ _ _ => aQ a2) (cY 1 rfl kr (.inl rfl) rfl dc (fun _ _ h => ⟨h.1, dW br h.2⟩) ⟨m, fun _ => n⟩ (fun _ _ _ _ => fG rfl) (cY 2 rfl kr (.inl rfl) rfl dc (fun _ _ h => ⟨h.1, dW br h.2⟩) ⟨m, fun _ => n⟩ (fun _ _ _ _ => aO Cm rfl) (cY 3 rfl kr (.inl rfl) rfl dc (fun _ _ h => ⟨h.1, dW br h.2⟩) ⟨m, fun _ => n⟩ (fun l W q s => have p := s.1; aH rfl (bA p Mh rfl isAgg292)) (cY 4 rfl kr (.inl rfl) rfl dc (fun _ _ h => ⟨h.1, dW br h.2⟩) ⟨m, fun _ => n⟩ (fun _ _ _ _ => aO nL N) (cY 5 rfl kr (.inl rfl) rfl dc (fun _ _ h => ⟨h.1, dW br h.2⟩) ⟨m, fun _ => n⟩ (fun l W q s => have p := s.1; aH rfl (bA p (Mt Mh) rfl isAgg9)) (cY 6 rfl kr (.inl rfl) rfl dc (fun _ _ h => ⟨h.1, dW br h.2⟩) ⟨m, fun _ => n⟩ (fun _ _ _ _ => aQ a2) (cY 7 rfl kr (.inl rfl) rfl dc (fun _ _ h => ⟨h.1, dW br h.2⟩) ⟨m, fun _ => n⟩ (fun _ _ _ _ => fG rfl) (cY 8 rfl kr (.inl rfl) rfl dc (fun _ _ h => ⟨h.1, dW br h.2⟩) ⟨m, fun _ => n⟩ (fun _ _ _ _ => aO Cm rfl) (cY 9 rfl kr (.inl rfl) rfl dc (fun _ _ h => ⟨h.1, dW br h.2⟩) ⟨m, fun _ => n⟩ (fun l W q s => have p := s.1; aH rfl (bA p Mh rfl isAgg292)) (cY 10 rfl kr (.inl rfl) rfl dc (fun _ _ h => ⟨h.1, dW br h.2⟩) ⟨m, fun _ => n⟩ (fun _ _ _ _ => aO nL N) (cY 11 rfl kr (.inl rfl) rfl dc (fun _ _ h => ⟨h.1, dW br h.2⟩) ⟨m, fun _ => n⟩ (fun l W q s => have p := s.1; aH rfl (bA p (Mt Mh) rfl isAgg9)) ?_))))))))))))
    obtain ⟨e0, F⟩ := T
    obtain ⟨h8, g8, g9⟩ := fl.rowAt eA.1 F H.cO
    refine cY 12 rfl kr (.inl rfl) rfl dc (fun _ _ h => ⟨h.1, dW br h.2⟩) ⟨m, fun _ => n⟩ (fun l W q s => have p := (s.2 (q.xJ 15 [12] kr rfl)); iO (k := H.cO) (z := (.slice none 0 0)) BK underlying292 zeroValue22 rfl rfl F (fun b o hq => p.2 b o (Ml hq))) (cY 13 rfl kr (.inl rfl) rfl dc (fun _ _ h => ⟨h.1, dW br h.2⟩) ⟨m, fun _ => n⟩ (fun l W q s => have p := s.1; aH N (aK p (Mt Mh) (aG H) rfl isAgg53 sizeOf53)) (XE 14 rfl (bJ (cs := (aG H).toArray) d (dZ rfl) (ew underlying22 sizeOf53 zeroValue53) (fun i7 e7 d => ?_))))
    have m := d.has.aF (Db (Kb (Kb Sn)))
    have n := d.has.aF (Db (Db (Db (Dr (Dr (Dr (Kr Sn)))))))
    refine ⟨⟨m, fun _ => n⟩, ?_⟩
    replace d := d.perm (Nr (Qb (Qb (Qb (Qr (Qr (Qr Qz)))))) Nz)
    obtain ⟨h9, e4, d5, d6, d2⟩ := fl.open eA.1 (bG.nil _ _ _) F H.cO
    replace d := d.perm (Nf d5)
    replace d := d.perm (Nr (Qr Qz) Nz)
    refine bS g fun f4 d0 g => XE 15 rfl (ga (enc := aG) (v := (kO dA e0 H.cO (.slice none 0 0))) (vs := (.slice (some ⟨e7, 0, none⟩) 1 1)) (R := e4) d bI dc fC underlying22 eJ.1 eJ.2.1 rfl eJ.2.2.1 eJ.2.2.2 rfl rfl d6 (Sl.lit (enc := aG) (l := [H]) bI rfl nb rfl (d.at_ (Ma (Ma Mh)))) d0 (fun i8 j6 i0 d c6 => ?_))
    have m := d.has.aF (Dr (Dr (Db (Kb (Kb Sn)))))
    refine ⟨⟨m, fun h => tX kr h⟩, ?_⟩
    replace d := d.perm (Nr (Qr Qz) Nz)
    refine XO 16 rfl (La (k := H.cO) (z := f4)  BK underlying292 d d2 rfl rfl rfl c6 (fun i9 e5 d c7 => ?_))
    have m := d.has.aF (Dr (Db (Kb (Kb Sn))))
    refine ⟨⟨m, fun h => tX kr h⟩, (dG kr (jW ?_))⟩
    obtain rfl := sj g
    exact iC rfl ⟨_, _, rfl, (d.ej (Sb (Pr (Pb Pz)) (Sr (Qr (Qb (Qb (Qr (Qr Qz))))) (Sr (Qr (Qb (Qb (Qr Qz)))) (Sr (Qr (Qb (Qb Qz))) (Kr (Db (Db (Kr Sn))))))))), A, b7, U, e5, rfl, rfl, P, Z, c7.e⟩
  refine cZ (jW ?_)
  obtain rfl := sj g
  exact iC rfl ⟨_, _, rfl, (d.ej (Kb (Db (Sr (Qr (Qr Qz)) (Sr (Qr Qz) (Kr (Kr (Kr Sn)))))))), A, b7, U, t, rfl, rfl, P, Z, T⟩
theorem kv (J : Nat) (g : Value) (a0 : List (aA × (List (ByteArray × Bool)))) (D : LO) (a : Value) (M : List aB) (u : LO) (j : Value) (Z : List (aA × (List aB))) (B : LO) (c : Value) (N : List (ByteArray × (List aB))) (y : LO) (i : Value) (Y : List aV) (t : LO) (H : Int) (G : aA) (U : ByteArray) (r : ((List (aA × (List (ByteArray × Bool)))) × (List aV) × Int)) (w : World) {μ0 : bW} (h0 : gj μ0 ((J, Ob #[g, a, j, c, i, (.int .i64 H)] 294) :: (D ++ (u ++ (B ++ (y ++ (t ++ [])))))) w) (a5 : eu (fun (x : aA) => (.agg (aM x).toArray)) (ek Value.string (fun (x : Bool) => (Value.bool x))) g a0 D) (b5 : bG 53 aG 9 a M u) (c3 : eu (fun (x : aA) => (.agg (aM x).toArray)) (bG 53 aG 9) j Z B) (b6 : eu Value.string (bG 53 aG 9) c N y) (K : jS 38 bZ 3 i Y t) (hm : gp a0 M Z N Y H G U = some r) :
    dV true Tryz.prog 370 [(.pointer (some ⟨J, 0, none⟩)), (.agg (aM G).toArray), (.string U)] w ((J, Ob #[g, a, j, c, i, (.int .i64 H)] 294) :: (D ++ (u ++ (B ++ (y ++ (t ++ [])))))) (fun v L1 W' => ∃ S1 y3 S4, v = (.tuple #[]) ∧ L1 = ((J, Ob #[g, a, j, c, y3, (.int .i64 (r.2.2))] 294) :: (S1 ++ (u ++ (B ++ (y ++ (S4 ++ [])))))) ∧ eu (fun (x : aA) => (.agg (aM x).toArray)) (ek Value.string (fun (x : Bool) => (Value.bool x))) g r.1 S1 ∧ jS 38 bZ 3 y3 r.2.1 S4) := by
  let O := (#[g, a, j, c, i, (.int .i64 H)] : Array Value)
  refine uY h0 53 func370 rfl (fun m => sg (VE (bX m rfl (fun W2 b1 m => ln (aW (aW ?_))))))
  replace m := m.drew
  have d := m.has.aF (Kb (Kb (Kr Sn)))
  refine cT d cE (X 0 rfl d (aQ rfl) (X 1 rfl d (fG rfl) (X 2 rfl d (aO qw rfl) (XH 3 rfl d (fun _ p => aH rfl (bA p (Mt Mh) rfl isAgg290)) (XH 4 rfl d (fun _ p => aH rfl (aK p Mh (aM G) rfl isAgg28 sizeOf28)) ?_)))))
  obtain ⟨f4, Q⟩ := a5
  refine XH 5 rfl d (fun _ p => iO (k := G) (z := (.map none)) uf underlying290 zeroValue296 rfl rfl Q (fun b o A => p.2 b o (Mt (Mt (Ml A))))) (X 6 rfl d (aQ rfl) (XH 7 rfl d (fun _ p => tR (k := U) (z := false) (vf := (fun (x : Bool) => (Value.bool x))) BK underlying296 zeroValue4 rfl rfl (fl.xf (μ := hp _) bD.1 Q G (fun b o A => p.2 b o (Mt (Mt (Ml A)))))) (dG kr (aR (CI hm rfl (fun d5 hm => ?_) (fun d5 hm => ?_))))))
  · refine bH (bU ?_)
    obtain rfl := sj hm
    exact iC rfl ⟨_, _, rfl, (m.ej (Db (Kb (Kr (Kr (Kr (Kr (Kr Sn)))))))), D, i, t, rfl, rfl, Q.e, K⟩
  refine kn (aW (CJ hm (fun b2 E W => ∃ L c0, ST true (keys ((J, Obj.cells O 294 (0, 0)) :: (D ++ (u ++ (B ++ (y ++ (t ++ []))))))) w W μ0 ((b1, Ol (aM G) 28) :: ((J, Obj.cells O 294 (0, 0)) :: (L ++ (u ++ (B ++ (y ++ (t ++ c0))))))) ∧ E 0 = (.pointer (some ⟨J, 0, none⟩)) ∧ E 2 = (.string U) ∧ E 4 = (.pointer (some ⟨b1, 0, none⟩)) ∧ eu (fun (x : aA) => (.agg (aM x).toArray)) (ek Value.string (fun (x : Bool) => (Value.bool x))) g b2 L) (fun b2 I => ?_) ?_))
  · refine aW ?_
    replace m := m.drew
    have d := m.has.aF (Kb (Kb (Kr Sn)))
    refine cT d cE (X 0 rfl d (aQ rfl) (X 1 rfl d (fG rfl) (X 2 rfl d (aO qw rfl) (XH 3 rfl d (fun _ p => aH rfl (bA p (Mt Mh) rfl isAgg290)) (XH 4 rfl d (fun _ p => aH rfl (aK p Mh (aM G) rfl isAgg28 sizeOf28)) (XH 5 rfl d (fun _ p => iO (k := G) (z := (.map none)) uf underlying290 zeroValue296 rfl rfl Q (fun b o A => p.2 b o (Mt (Mt (Ml A))))) (X 6 rfl d (E7 bD.1 underlying296 Q rfl rfl) (dG kr (aR (CI I rfl (fun b7 I => ?_) (fun b7 I => ?_)))))))))))
    · replace m := m.drew
      have d := m.has.aF (Kb (Kb Sn))
      refine cT d cE (X 0 rfl d (aQ rfl) (X 1 rfl d (fG rfl) (X 2 rfl d (aO qw rfl) (XH 3 rfl d (fun _ p => aH rfl (bA p (Mt Mh) rfl isAgg290)) (XH 4 rfl d (fun _ p => aH rfl (aK p Mh (aM G) rfl isAgg28 sizeOf28)) (XE 5 rfl (CO (P := Tryz.prog) Value.string (fun (x : Bool) => (Value.bool x)) m (fun e1 e7 d9 m b3 => ?_))))))))
      have d := m.has.aF (Dr (Kb (Kb Sn)))
      refine ⟨d, ?_⟩
      replace m := m.perm (Nr (Qr (Qb (Qb Qz))) Nz)
      refine bS I fun e4 b9 I => XO 6 rfl (Hd (k := G) (z := ([]))  uf underlying290 m Q rfl rfl rfl b3 b9 (fun e2 c4 m b4 => ?_))
      have d := m.has.aF (Dr (Kb (Kb Sn)))
      refine ⟨d, (dG kr (aR ?_))⟩
      obtain rfl := sj I
      exact ⟨c4, _, (m.aF (Sb (Pr Pz) (Sb (Pr Pz) St))), rfl, rfl, rfl, b4.e⟩
    refine kn ?_
    obtain rfl := sj I
    exact ⟨D, _, (m.aF St), rfl, rfl, rfl, Q.e⟩
  rintro f2 E W ⟨L, c0, m, F, c1, c2, c8⟩ T
  refine aW ?_
  replace m := m.drew
  have d := m.has.aF (Kb (Kb Sn))
  have n := m.has.aF (Db (Db (Kr Sn)))
  refine oE 7 d n cE (cY 0 rfl kr (.inl rfl) rfl dc (fun _ _ h => ⟨h.1, dW br h.2⟩) ⟨d, fun _ => n⟩ (fun _ _ _ _ => aQ F) (cY 1 rfl kr (.inl rfl) rfl dc (fun _ _ h => ⟨h.1, dW br h.2⟩) ⟨d, fun _ => n⟩ (fun _ _ _ _ => fG rfl) (cY 2 rfl kr (.inl rfl) rfl dc (fun _ _ h => ⟨h.1, dW br h.2⟩) ⟨d, fun _ => n⟩ (fun _ _ _ _ => aO qw rfl) (cY 3 rfl kr (.inl rfl) rfl dc (fun _ _ h => ⟨h.1, dW br h.2⟩) ⟨d, fun _ => n⟩ (fun l W q s => have p := s.1; aH rfl (bA p (Mt Mh) rfl isAgg290)) (cY 4 rfl kr (.inl rfl) rfl dc (fun _ _ h => ⟨h.1, dW br h.2⟩) ⟨d, fun _ => n⟩ (fun l W q s => have p := s.1; aH c2 (aK p Mh (aM G) rfl isAgg28 sizeOf28)) ?_)))))
  obtain ⟨e5, a9⟩ := c8
  refine cY 5 rfl kr (.inl rfl) rfl dc (fun _ _ h => ⟨h.1, dW br h.2⟩) ⟨d, fun _ => n⟩ (fun l W q s => have p := (s.2 (q.xJ 7 [5] kr rfl)); iO (k := G) (z := (.map none)) uf underlying290 zeroValue296 rfl rfl a9 (fun b o A => p.2 b o (Ml A))) (cY 6 rfl kr (.inl rfl) rfl dc (fun _ _ h => ⟨h.1, dW br h.2⟩) ⟨d, fun _ => n⟩ (fun _ _ _ _ => aQ c1) ?_)
  replace m := m.perm (Nr (Qb (Qb Qz)) Nz)
  refine bS T fun f3 c7 T => XO 7 rfl (H6 (k := G) (v := true) (vf := (fun (x : Bool) => (Value.bool x)))  bD.1 BK underlying296 m a9 rfl rfl rfl c7 (fun e8 c9 m c5 => ?_))
  have d := m.has.aF (Dr (Kb (Kb Sn)))
  refine ⟨⟨d, fun h => tX kr h⟩, (dG kr (aR (sg (Wh F (Wn (Wf zl (VB m (Ma (Mt Mh)) rfl rfl isAgg3 (Wi rfl (Wn (Wf zl ?_))))))))))⟩
  replace m := m.perm (Nb (Pr (Pb Pz)) Nz)
  refine VO (aX (.int .i64 ((IntKind.i64.wrap (H + 1)))) (#[g, a, j, c, i, (.int .i64 ((IntKind.i64.wrap (H + 1))))]) m rfl rfl sizeOf3 (Aw _ ((IntKind.i64.wrap (H + 1)))) nb rfl (fun e9 m => ln ?_))
  replace m := m.drew
  have d := m.has.aF (Db (Dr (Kb Sn)))
  have n := m.has.aF (Kb Sn)
  refine oE 12 d n cE (cY 0 rfl kr (.inl rfl) rfl dc (fun _ _ h => ⟨h.1, dW br h.2⟩) ⟨d, fun _ => n⟩ (fun _ _ _ _ => aQ F) (cY 1 rfl kr (.inl rfl) rfl dc (fun _ _ h => ⟨h.1, dW br h.2⟩) ⟨d, fun _ => n⟩ (fun _ _ _ _ => aQ F) (cY 2 rfl kr (.inl rfl) rfl dc (fun _ _ h => ⟨h.1, dW br h.2⟩) ⟨d, fun _ => n⟩ (fun _ _ _ _ => fG rfl) (cY 3 rfl kr (.inl rfl) rfl dc (fun _ _ h => ⟨h.1, dW br h.2⟩) ⟨d, fun _ => n⟩ (fun _ _ _ _ => aO uJ rfl) (cY 4 rfl kr (.inl rfl) rfl dc (fun _ _ h => ⟨h.1, dW br h.2⟩) ⟨d, fun _ => n⟩ (fun l W q s => have p := (s.2 (q.xJ 12 [4] kr rfl)); aH rfl (bA p Mh rfl isAgg68)) (cY 5 rfl kr (.inl rfl) rfl dc (fun _ _ h => ⟨h.1, dW br h.2⟩) ⟨d, fun _ => n⟩ (fun l W q s => have p := s.1; aH c2 (aK p Mh (aM G) rfl isAgg28 sizeOf28)) (cY 6 rfl kr (.inl rfl) rfl dc (fun _ _ h => ⟨h.1, dW br h.2⟩) ⟨d, fun _ => n⟩ (fun _ _ _ _ => aQ c1) (cY 7 rfl kr (.inl rfl) rfl dc (fun _ _ h => ⟨h.1, dW br h.2⟩) ⟨d, fun _ => n⟩ (fun _ _ _ _ => dJ (v := (.agg (bZ ((⟨G, U⟩ : aV))).toArray)) (gK rfl rfl) (cN zeroValue38 underlying38 (Ir _ underlying38) kr)) (XE 8 rfl (bJ (cs := (bZ ((⟨G, U⟩ : aV))).toArray) m (dZ rfl) (ew underlying68 sizeOf38 zeroValue38) (fun f0 d4 m => ?_)))))))))))
  have d := m.has.aF (Db (Db (Dr (Kb Sn))))
  have n := m.has.aF (Db (Kb Sn))
  refine ⟨⟨d, fun _ => n⟩, ?_⟩
  replace m := m.perm (Nr (Qb (Qb (Qr (Qb (Qr (Qr (Qr Qz))))))) Nz)
  refine bS T fun b0 c6 T => XE 9 rfl (E9 (enc := bZ) (v := i) (vs := (.slice (some ⟨d4, 0, none⟩) 1 1)) (R := t) m kB dc sR underlying68 oS.1 oS.2.1 rfl oS.2.2.1 oS.2.2.2 rfl rfl K (Sl.lit (enc := bZ) (l := [(⟨G, U⟩ : aV)]) kB rfl nb rfl (m.at_ (Ma Mh))) c6 (fun f1 e6 d0 m a7 => ?_))
  have d := m.has.aF (Dr (Db (Db (Dr (Kb Sn)))))
  have n := m.has.aF (Dr (Db (Kb Sn)))
  refine ⟨⟨d, fun _ => n⟩, (cY 10 rfl kr (.inl rfl) rfl dc (fun _ _ h => ⟨h.1, dW br h.2⟩) ⟨d, fun _ => n⟩ (fun _ _ _ _ => fG rfl) (cY 11 rfl kr (.inl rfl) rfl dc (fun _ _ h => ⟨h.1, dW br h.2⟩) ⟨d, fun _ => n⟩ (fun _ _ _ _ => aO uJ rfl) ?_))⟩
  obtain ⟨a3, a4, rfl⟩ := a7.form
  let a2 : Value := (.slice a3 b0.length a4)
  replace m := m.perm (Nb (Pr (Pb Pz)) Nz)
  refine XO 12 rfl (aX a2 (#[g, a, j, c, a2, (.int .i64 ((IntKind.i64.wrap (H + 1))))]) m rfl rfl sizeOf68 oc nb rfl (fun e0 m => ?_))
  have d := m.has.aF (Db (Dr (Db (Dr (Kb Sn)))))
  refine ⟨⟨d, fun h => tX kr h⟩, (dG kr (jW ?_))⟩
  obtain rfl := sj T
  exact iC rfl ⟨_, _, rfl, (m.ej (Kb (Sr (Qr (Qb Qz)) (Sr (Qr (Qb (Qb Qz))) (Sr (Qr (Qb (Qb Qz))) (Sr (Qr (Qb (Qb Qz))) (Kr Sn))))))), c9, a2, d0, rfl, rfl, c5.e, a7⟩
theorem oV (a : Value) (g : List (ByteArray × Bool)) (r : Unit) (w : World) (c : pH Value.string (fun (x : Bool) => (Value.bool x)) (hp w) a g) (hm : gY g = some r) :
    dV true Tryz.prog 234 [a] w [] (fun v k W' => ∃ i, v = (.func (.func 327) #[] #[(.pointer (some ⟨i, 0, none⟩))]) ∧ k = ((i, Ob #[a] 296) :: [])) := by
  refine ng 4 func234 rfl (fun b => sg ?_)
  obtain ⟨t, rfl⟩ := c.form
  refine VE (bX b rfl (fun u j b => Wa (lr (V (lF (by exact nK rfl) rfl) (Wa (lt ?_))))))
  obtain rfl := sj hm
  exact dH (v := (.func (.func 327) #[] #[(.pointer (some ⟨j, 0, none⟩))])) rfl rfl ⟨_, _, rfl, (b.Bx (Kb Sn)), j, rfl, rfl⟩
theorem BX {β : Type} {vf : β → Value} {l : List (ByteArray × β)} {b : Nat} {a : Value} {W : World} {r : List ByteArray} (d : W.heap[b]? = some (.cells #[a] 296 (0, 0))) (hm : pH Value.string vf (hp W) a l) (hk : Bf l = some r) : dP false Tryz.prog 159 [.func (.func 327) #[] #[.pointer (some ⟨b, 0, none⟩)]] W 9 mJ 1 r := Fi (P := Tryz.prog) J4 JO KM rfl underlying9 call327 call273 d hm hk
theorem rI (T : Nat) (a : Value) (u : List (aA × (List (ByteArray × Bool)))) (c : Value) (t : List aB) (j : Value) (G : List (aA × (List aB))) (g : Value) (B : List (ByteArray × (List aB))) (i : Value) (D : List aV) (Q : Int) (H : aA) (r : List ByteArray) (w : World) (J : np (fun (x : aA) => (.agg (aM x).toArray)) (ek Value.string (fun (x : Bool) => (Value.bool x))) (hp w) a u) (Z : Sl (Pl aG) 9 (hp w) c t) (a4 : np (fun (x : aA) => (.agg (aM x).toArray)) (bG 53 aG 9) (hp w) j G) (a0 : np Value.string (bG 53 aG 9) (hp w) g B) (a3 : Sl (Pl bZ) 3 (hp w) i D) (Y : At (hp w) (.pointer (some ⟨T, 0, none⟩)) [a, c, j, g, i, (.int .i64 Q)]) (hm : jU u t G B D Q H = some r) :
    dP false Tryz.prog 119 [(.pointer (some ⟨T, 0, none⟩)), (.agg (aM H).toArray)] w 9 mJ 1 r := by
  refine ng 15 func119 rfl (fun d => sg (VE (bX d rfl (fun W2 P d => Wa (lS (Wm (V (qv underlying171 rfl rfl) (ln (lI rfl ?_)))))))))
  refine kn (aW ?_)
  replace d := d.drew
  have h := d.has.aF (Kb Sn)
  refine cT h cE (X 0 rfl h (aQ rfl) (X 1 rfl h (fG rfl) (XQ 2 rfl h (yV [a] qw rfl Y rfl) (fun b9 A => XH 3 rfl h (fun _ l => aH rfl (mC l (y := a) A isAgg290)) (XH 4 rfl h (fun _ l => aH rfl (aK l Mh (aM H) rfl isAgg28 sizeOf28)) ?_)))))
  obtain ⟨a9, W, K, M⟩ := J
  refine XH 5 rfl h (fun _ l => iO (k := H) (z := (.map none)) uf underlying290 zeroValue296 rfl rfl K (fun b o m => l.1 b o (M b o m))) (bS hm fun c0 E hm => ?_)
  refine XE 6 rfl (tY d (List.Perm.refl _) call234 (fun _ _ _ _ => dV.dK (oV (kO bB a9 H (.map none)) (((dE bB u H).getD [])) _ _ ((fl.xf bD.1 K H M).mono d.aP) E)) (fun b5 c2 c3 R d I q n a5 => ?_) (L0 := []))
  obtain ⟨b7, N, rfl⟩ := a5
  replace N := N.symm; subst N
  replace d := d.perm (Tb Tn)
  have h := d.has.na I (Db (Kb Sn))
  refine ⟨h, (bS hm fun c1 F hm => XE 7 rfl (jg d call159 (BX (vf := (fun (x : Bool) => (Value.bool x))) (d.has.2 _ _ Mh) ((fl.xf bD.1 K H M).mono (fun b o m => d.has.1 b o (I b o m))) F) (fun b6 O c4 L d a2 s U => ?_)))⟩
  have h := d.has.na (I.trans a2) (Dr (Db (Kb Sn)))
  refine ⟨h, (X 8 rfl h (fW rfl) (dG kr (aR ?_)))⟩
  replace d := d.aF (Kr (Db (Db St)))
  refine bH ?_
  obtain rfl := sj hm
  exact dH (v := O) rfl rfl ⟨_, L, rfl, d.gb (fun p m => (Ml m)) U.nd, U⟩
theorem xU (K : Nat) (g : Value) (N : List (aA × (List (ByteArray × Bool)))) (G : LO) (a : Value) (H : List aB) (k : LO) (j : Value) (J : List (aA × (List aB))) (u : LO) (c : Value) (I : List (ByteArray × (List aB))) (t : LO) (z : Value) (M : List aV) (B : LO) (Z : Int) (A a2 : aA) (r : ((List (aA × (List (ByteArray × Bool)))) × (List aV) × Int)) (w : World) {μ0 : bW} (h0 : gj μ0 ((K, Ob #[g, a, j, c, z, (.int .i64 Z)] 294) :: (G ++ (k ++ (u ++ (t ++ (B ++ [])))))) w) (a5 : eu (fun (x : aA) => (.agg (aM x).toArray)) (ek Value.string (fun (x : Bool) => (Value.bool x))) g N G) (Q : bG 53 aG 9 a H k) (a4 : eu (fun (x : aA) => (.agg (aM x).toArray)) (bG 53 aG 9) j J u) (T : eu Value.string (bG 53 aG 9) c I t) (a3 : jS 38 bZ 3 z M B) (hm : nu N H J I M Z A a2 = some r) :
    dV false Tryz.prog 415 [(.pointer (some ⟨K, 0, none⟩)), (.agg (aM A).toArray), (.agg (aM a2).toArray)] w ((K, Ob #[g, a, j, c, z, (.int .i64 Z)] 294) :: (G ++ (k ++ (u ++ (t ++ (B ++ [])))))) (fun v L1 W' => ∃ S1 y3 S4, v = (.tuple #[]) ∧ L1 = ((K, Ob #[g, a, j, c, y3, (.int .i64 (r.2.2))] 294) :: (S1 ++ (k ++ (u ++ (t ++ (S4 ++ [])))))) ∧ eu (fun (x : aA) => (.agg (aM x).toArray)) (ek Value.string (fun (x : Bool) => (Value.bool x))) g r.1 S1 ∧ jS 38 bZ 3 y3 r.2.1 S4) := by
  refine uY h0 21 func415 rfl (fun d => sg (VE (bX d rfl (fun W2 b1 d => VE (bX d rfl (fun W4 b3 d => lr (Wm (VA d (Mt Mh) (aM A) isAgg28 sizeOf28 (bS hm fun r5 e6 hm => VE (jg d call119 ((rI K g N a H j J c I z M Z A _ _ (a5.at (fun b o l => d.at_ (Mt (Mt (Mt (Ml l)))))) (Q.sl bI (fun b o l => d.at_ (Mt (Mt (Mt (Ma (Ml l))))))) (a4.at (fun b o l => d.at_ (Mt (Mt (Mt (Ma (Ma (Ml l)))))))) (T.at (fun b o l => d.at_ (Mt (Mt (Mt (Ma (Ma (Ma (Ml l))))))))) ((a3.yP kB).mono (Pl.mono _) (ep (fun b o l => d.at_ (Mt (Mt (Mt (Ma (Ma (Ma (Ma (Ml l))))))))))) (At.of (d.at_ (Mt (Mt Mh))) _ rfl) e6)) (fun W7 e7 s e2 d f5 ae a9 => V (fi underlying82 rfl a9) (Wm ?_))))))))))))
  refine ln ?_
  replace d := d.aF (Kr (Kb (Db St)))
  refine jO (cK (fun i E W => ∃ m U a0 n Y q F P, (E 12 = .int .i64 (i : Nat) ∧ E 11 = .int .i64 (r5.length : Nat)) ∧ bO s F ∧ ST false (keys ((K, Ob #[g, a, j, c, z, (.int .i64 Z)] 294) :: (G ++ (k ++ (u ++ (t ++ (B ++ []))))))) w W F ((K, Ob #[g, a, j, c, a0, (.int .i64 q)] 294) :: ((b3, Ol (aM a2) 28) :: (U ++ (k ++ (u ++ (t ++ (Y ++ (e2 ++ P)))))))) ∧ E 0 = (.pointer (some ⟨K, 0, none⟩)) ∧ E 5 = (.pointer (some ⟨b3, 0, none⟩)) ∧ E 10 = e7 ∧ eu (fun (x : aA) => (.agg (aM x).toArray)) (ek Value.string (fun (x : Bool) => (Value.bool x))) g m U ∧ jS 38 bZ 3 a0 n Y ∧ js H J I a2 (r5.drop i) m n q = some r) r5.length a9.len ⟨N, G, z, M, B, Z, s, _, ⟨rfl, rfl⟩, (bO.refl _), (d.aF (Sb (Pr (Pb Pz)) (Sb (Pr Pz) (Sr (Qr Qz) (Sr (Qr Qz) (Sr (Qr Qz) (Sr (Qr Qz) (Sr (Qr Qz) St)))))))), rfl, rfl, rfl, a5, a3, hm⟩ dc dc dc (fun _ _ _ h => by obtain ⟨_, _, _, _, _, _, _, _, aa, _⟩ := h; exact aa) ?_ ?_)
  · rintro d8 E W c9 ⟨m, U, a0, n, Y, q, F, P, ⟨eI, eN⟩, b6, d, R, c1, c2, L, O, D⟩
    obtain ⟨c4, f0, d2, c5, d3⟩ := cC c9
    rw [d2] at D
    refine bg (VQ (iZ (i := (d8 : Int)) (x0 := c4) underlying82 sizeOf9 c2 eI a9 (Int.natCast_nonneg _) c5) (fun f6 d0 => V (aH rfl (xq d.has (fun p l => (Mt (Mt (Ma (Ma (Ma (Ma (Ma (Ml l))))))))) a9 (fun _ => rfl) d0 c5 (y := (.string c4)) rfl isAgg9)) (Wa (ln (aU (Wh R (V (aH c1 (aK d.has (Mt Mh) (aM a2) rfl isAgg28 sizeOf28)) (Wm (bS D fun c3 d1 D => ?_)))))))))
    refine VE (eM d (Cb Pz (Cr (Qb Qz) (Cr (Qb Qz) (Cr (Qb Qz) (Cr (Qb Qz) (Cr (Qb Qz) Cn)))))) call370 (fun hh _ => dV.dK (kv K g m U a H k j J u c I t a0 n Y q a2 c4 _ _ hh L Q a4 T O d1)) ?_)
    rintro _ f7 e1 f2 d c7 ab ad ⟨d6, e0, d7, b4, rfl, d4, d5⟩
    obtain rfl := b4.symm
    replace d := d.perm (Tb (Tr (Tr (Tr (Tr (Tr Tn))))))
    exact bK (bY (aR ⟨eI, c3.1, d6, e0, c3.2.1, d7, c3.2.2, e1, _, ⟨rfl, eN⟩, (b6.trans c7), (d.aF (Kb (Sb (Pr (Pr (Pr (Pr (Pr Pz))))) St))), R, c1, c2, d4, d5, (by rw [d3]; exact D)⟩))
  rintro E W ⟨m, U, a0, n, Y, q, F, P, ⟨eI, eN⟩, b6, d, R, c1, c2, L, O, D⟩
  rw [List.drop_length] at D
  refine aR ?_
  replace d := d.aF (Kb (Db (Kr (Kr (Kr (Kr (Kr (Dr St))))))))
  refine jW ?_
  obtain rfl := sj D
  exact iC rfl ⟨_, _, rfl, (d.ej (Kb (Kr (Kr (Kr (Kr (Kr Sn))))))), U, a0, Y, rfl, rfl, L, O⟩
theorem sK (K : Nat) (G : Value) (Z : List (aA × (List (ByteArray × Bool)))) (D : LO) (g : Value) (I : List aB) (a : LO) (B : Value) (N : List (aA × (List aB))) (y : LO) (i : Value) (J : List (ByteArray × (List aB))) (c : LO) (t : Value) (M : List aV) (j : LO) (a0 : Int) (Q : aB) (a2 : aV) (r : ((List (aA × (List (ByteArray × Bool)))) × (List aV) × Int)) (w : World) {μ0 : bW} (h0 : gj μ0 ((K, Ob #[G, g, B, i, t, (.int .i64 a0)] 294) :: (D ++ (a ++ (y ++ (c ++ (j ++ [])))))) w) (U : eu (fun (x : aA) => (.agg (aM x).toArray)) (ek Value.string (fun (x : Bool) => (Value.bool x))) G Z D) (T : bG 53 aG 9 g I a) (a3 : eu (fun (x : aA) => (.agg (aM x).toArray)) (bG 53 aG 9) B N y) (Y : eu Value.string (bG 53 aG 9) i J c) (H : jS 38 bZ 3 t M j) (hm : kR Z I N J M a0 Q a2 = some r) :
    dV false Tryz.prog 371 [(.pointer (some ⟨K, 0, none⟩)), (.agg (aG Q).toArray), (.agg (bZ a2).toArray)] w ((K, Ob #[G, g, B, i, t, (.int .i64 a0)] 294) :: (D ++ (a ++ (y ++ (c ++ (j ++ [])))))) (fun v L1 W' => ∃ S1 y3 S4, v = (.tuple #[]) ∧ L1 = ((K, Ob #[G, g, B, i, y3, (.int .i64 (r.2.2))] 294) :: (S1 ++ (a ++ (y ++ (c ++ (S4 ++ [])))))) ∧ eu (fun (x : aA) => (.agg (aM x).toArray)) (ek Value.string (fun (x : Bool) => (Value.bool x))) G r.1 S1 ∧ jS 38 bZ 3 y3 r.2.1 S4) := by
  let s := (#[G, g, B, i, t, (.int .i64 a0)] : Array Value)
  refine uY h0 57 func371 rfl (fun d => sg (VE (bX d rfl (fun W2 A d => VE (bX d rfl (fun W4 L d => lr (Wf jQ (VB d (Mt Mh) rfl rfl isAgg3 (ln (dN (aW ?_)))))))))))
  refine aU (Wi rfl (Wa (ln (CI hm rfl (fun e5 hm => ?_) (fun e5 hm => ?_)))))
  · refine aU (Wm (Wf jT (VA d (Mt Mh) (aM Q.Head) isAgg28 sizeOf28 (Wf qN (VB d Mh rfl rfl isAgg9 (bS hm fun r6 e6 hm => ?_))))))
    refine VE (eM d (Cb (Pb (Pb Pz)) (Cr (Qb (Qb Qz)) (Cr (Qb (Qb Qz)) (Cr (Qb (Qb Qz)) (Cr (Qb (Qb Qz)) (Cr (Qb (Qb Qz)) Cn)))))) call370 (fun q _ => dV.dK (kv K G Z D g I a B N y i J c t M j a0 Q.Head a2.cH _ _ q U T a3 Y H e6)) ?_)
    rintro _ g7 ab f8 d f2 R m ⟨d2, e7, d3, a8, rfl, c5, c6⟩
    obtain rfl := a8.symm
    replace d := d.perm (Tb (Tr (Tr (Tr (Tr (Tr Tn))))))
    refine bK (bY (jW ?_))
    obtain rfl := sj hm
    exact iC rfl ⟨_, _, rfl, (d.ej (Kb (Kr (Kr (Kr (Kr (Kr Sn))))))), d2, e7, d3, rfl, rfl, c5, c6⟩
  refine sg (Wi rfl (Wa (ln (CI hm rfl (fun c0 hm => ?_) (fun c0 hm => ?_)))))
  · refine aU (Wm (Wf qN (VB d Mh rfl rfl isAgg9 (Wf nL (VB d (Mt Mh) rfl rfl isAgg9 (V (dJ (v := (.agg (aM ((⟨a2.cH, Q.cO⟩ : aA))).toArray)) (gK rfl rfl) (cN zeroValue28 underlying28 (B3 _ underlying28) kr)) (Wf jT (VA d (Mt Mh) (aM Q.Head) isAgg28 sizeOf28 (bS hm fun g3 c3 hm => ?_)))))))))
    refine VE (eM d (Cb (Pb (Pb Pz)) (Cr (Qb (Qb Qz)) (Cr (Qb (Qb Qz)) (Cr (Qb (Qb Qz)) (Cr (Qb (Qb Qz)) (Cr (Qb (Qb Qz)) Cn)))))) call415 (fun q _ => (xU K G Z D g I a B N y i J c t M j a0 ((⟨a2.cH, Q.cO⟩ : aA)) Q.Head _ _ q U T a3 Y H c3)) ?_)
    rintro _ g8 h2 f9 d f3 a6 m ⟨d4, e9, d5, a9, rfl, c7, c8⟩
    obtain rfl := a9.symm
    replace d := d.perm (Tb (Tr (Tr (Tr (Tr (Tr Tn))))))
    refine bK (bY (jW ?_))
    obtain rfl := sj hm
    exact iC rfl ⟨_, _, rfl, (d.ej (Kb (Kr (Kr (Kr (Kr (Kr Sn))))))), d4, e9, d5, rfl, rfl, c7, c8⟩
  refine sg (Wi rfl (Wa (ln (CI hm rfl (fun c1 hm => ?_) (fun c1 hm => ?_)))))
  · refine aW ?_
    replace d := d.drew
    have h := d.has.aF (Kb (Kb (Kb (Kr Sn))))
    refine cT h cE (X 0 rfl h (aQ rfl) (X 1 rfl h (fG rfl) (X 2 rfl h (aO qw rfl) (XH 3 rfl h (fun _ l => aH rfl (bA l (Mt (Mt Mh)) rfl isAgg290)) (X 4 rfl h (aO gh rfl) (XH 5 rfl h (fun _ l => aH rfl (aK l (Mt Mh) (aM Q.B) rfl isAgg28 sizeOf28)) ?_))))))
    obtain ⟨f7, a5⟩ := U
    refine XH 6 rfl h (fun _ l => iO (k := Q.B) (z := (.map none)) uf underlying290 zeroValue296 rfl rfl a5 (fun b o n => l.2 b o (Mt (Mt (Mt (Ml n)))))) (X 7 rfl h (aO qN rfl) (XH 8 rfl h (fun _ l => aH rfl (bA l Mh rfl isAgg9)) (XH 9 rfl h (fun _ l => tR (k := a2.cH) (z := false) (vf := (fun (x : Bool) => (Value.bool x))) BK underlying296 zeroValue4 rfl rfl (fl.xf (μ := hp _) bD.1 a5 Q.B (fun b o n => l.2 b o (Mt (Mt (Mt (Ml n))))))) (X 10 rfl h (aQ rfl) (PJ hm (fun P E W => ∃ O, ST false (keys ((K, Obj.cells s 294 (0, 0)) :: (D ++ (a ++ (y ++ (c ++ (j ++ []))))))) w W μ0 ((L, Ol (bZ a2) 38) :: ((A, Ol (aG Q) 53) :: ((K, Obj.cells s 294 (0, 0)) :: (D ++ (a ++ (y ++ (c ++ (j ++ O)))))))) ∧ E 0 = (.pointer (some ⟨K, 0, none⟩)) ∧ E 4 = (.pointer (some ⟨A, 0, none⟩)) ∧ E 5 = (.pointer (some ⟨L, 0, none⟩)) ∧ E 50 = (.bool P)) (bm 22 4194303) 0 ?_ (fun P p F => ?_))))))
    · rintro h1 E W ⟨O, d, e1, e2, e3, e4⟩ a4
      refine dG kr (aR (CI a4 e4 (fun c2 a4 => ?_) (fun c2 a4 => ?_)))
      · refine aU (Wh e1 (V (aO jT e2) (VA d (Mt Mh) (aM Q.Head) isAgg28 sizeOf28 (V (aO qN e3) (VB d Mh rfl rfl isAgg9 (bS a4 fun g4 c4 a4 => ?_))))))
        refine VE (eM d (Cb (Pb (Pb Pz)) (Cr (Qb (Qb Qz)) (Cr (Qb (Qb Qz)) (Cr (Qb (Qb Qz)) (Cr (Qb (Qb Qz)) (Cr (Qb (Qb Qz)) Cn)))))) call370 (fun q _ => dV.dK (kv K G Z D g I a B N y i J c t M j a0 Q.Head a2.cH _ _ q a5.e T a3 Y H c4)) ?_)
        rintro _ g9 h3 g0 d f4 aa m ⟨d7, f0, d8, b0, rfl, c9, d0⟩
        obtain rfl := b0.symm
        replace d := d.perm (Tb (Tr (Tr (Tr (Tr (Tr Tn))))))
        refine bK (bY (jW ?_))
        obtain rfl := sj a4
        exact iC rfl ⟨_, _, rfl, (d.ej (Kb (Kr (Kr (Kr (Kr (Kr Sn))))))), d7, f0, d8, rfl, rfl, c9, d0⟩
      refine cZ (bY (jW ?_))
      obtain rfl := sj a4
      exact iC rfl ⟨_, _, rfl, (d.ej (Db (Db (Kb (Kr (Kr (Kr (Kr (Kr Sn))))))))), D, t, j, rfl, rfl, a5.e, H⟩
    refine bC p (fun u p => ?_) (fun u p => ?_)
    · refine Xg 11 rfl rfl (cB u) h (aQ rfl) (Xg 12 rfl rfl (cB u) h (fG rfl) (Xg 13 rfl rfl (cB u) h (aO qw rfl) (ou 14 rfl rfl (cB u) h (fun _ l => aH rfl (bA l (Mt (Mt Mh)) rfl isAgg290)) (Xg 15 rfl rfl (cB u) h (aO lP rfl) (ou 16 rfl rfl (cB u) h (fun _ l => aH rfl (aK l (Mt Mh) (aM Q.C) rfl isAgg28 sizeOf28)) (ou 17 rfl rfl (cB u) h (fun _ l => iO (k := Q.C) (z := (.map none)) uf underlying290 zeroValue296 rfl rfl a5 (fun b o n => l.2 b o (Mt (Mt (Mt (Ml n)))))) (Xg 18 rfl rfl (cB u) h (aO qN rfl) (ou 19 rfl rfl (cB u) h (fun _ l => aH rfl (bA l Mh rfl isAgg9)) (ou 20 rfl rfl (cB u) h (fun _ l => tR (k := a2.cH) (z := false) (vf := (fun (x : Bool) => (Value.bool x))) BK underlying296 zeroValue4 rfl rfl (fl.xf (μ := hp _) bD.1 a5 Q.C (fun b o n => l.2 b o (Mt (Mt (Mt (Ml n))))))) (X 21 rfl h (aY (cB u) rfl) ?_))))))))))
      obtain rfl := sj p
      refine fO kr (F _ _ ⟨_, (d.aF St), rfl, rfl, rfl, rfl⟩)
    refine Xn 11 rfl rfl (cB u) h (Xn 12 rfl rfl (cB u) h (Xn 13 rfl rfl (cB u) h (Xn 14 rfl rfl (cB u) h (Xn 15 rfl rfl (cB u) h (Xn 16 rfl rfl (cB u) h (Xn 17 rfl rfl (cB u) h (Xn 18 rfl rfl (cB u) h (Xn 19 rfl rfl (cB u) h (Xn 20 rfl rfl (cB u) h (X 21 rfl h (aZ (cB u) rfl) ?_))))))))))
    obtain rfl := sj p
    refine fO kr (F _ _ ⟨_, (d.aF St), rfl, rfl, rfl, rfl⟩)
  refine cZ (bY (jW ?_))
  obtain rfl := sj hm
  exact iC rfl ⟨_, _, rfl, (d.ej (Db (Db (Kb (Kr (Kr (Kr (Kr (Kr Sn))))))))), D, t, j, rfl, rfl, U, H⟩
theorem wz (K : Nat) (g : Value) (T : List (aA × (List (ByteArray × Bool)))) (D : LO) (a : Value) (G : List aB) (j : LO) (t : Value) (J : List (aA × (List aB))) (u : LO) (c : Value) (H : List (ByteArray × (List aB))) (k : LO) (z : Value) (M : List aV) (B : LO) (a0 : Int) (Z : aB) (r : ((List (aA × (List (ByteArray × Bool)))) × (List aV) × Int)) (w : World) {μ0 : bW} (h0 : gj μ0 ((K, Ob #[g, a, t, c, z, (.int .i64 a0)] 294) :: (D ++ (j ++ (u ++ (k ++ (B ++ [])))))) w) (a2 : eu (fun (x : aA) => (.agg (aM x).toArray)) (ek Value.string (fun (x : Bool) => (Value.bool x))) g T D) (N : bG 53 aG 9 a G j) (Y : eu (fun (x : aA) => (.agg (aM x).toArray)) (bG 53 aG 9) t J u) (Q : eu Value.string (bG 53 aG 9) c H k) (U : jS 38 bZ 3 z M B) (hm : lW T G J H M a0 Z = some r) :
    dV false Tryz.prog 325 [(.pointer (some ⟨K, 0, none⟩)), (.agg (aG Z).toArray)] w ((K, Ob #[g, a, t, c, z, (.int .i64 a0)] 294) :: (D ++ (j ++ (u ++ (k ++ (B ++ [])))))) (fun v L1 W' => ∃ S1 y3 S4, v = (.tuple #[]) ∧ L1 = ((K, Ob #[g, a, t, c, y3, (.int .i64 (r.2.2))] 294) :: (S1 ++ (j ++ (u ++ (k ++ (S4 ++ [])))))) ∧ eu (fun (x : aA) => (.agg (aM x).toArray)) (ek Value.string (fun (x : Bool) => (Value.bool x))) g r.1 S1 ∧ jS 38 bZ 3 y3 r.2.1 S4) := by
  refine uY h0 33 func325 rfl (fun d => sg (VE (bX d rfl (fun W2 b1 d => lr (Wf jQ (VB d Mh rfl rfl isAgg3 (ln (bg ?_))))))))
  refine Wi rfl (Wa (ln (CI hm rfl (fun f1 hm => ?_) (fun f1 hm => ?_))))
  · refine aU (Wm (Wf jT (VA d Mh (aM Z.Head) isAgg28 sizeOf28 (Wf qc (VB d Mh rfl rfl isAgg9 (bS hm fun r4 f2 hm => ?_))))))
    refine VE (eM d (Cb (Pb Pz) (Cr (Qb Qz) (Cr (Qb Qz) (Cr (Qb Qz) (Cr (Qb Qz) (Cr (Qb Qz) Cn)))))) call370 (fun hh _ => dV.dK (kv K g T D a G j t J u c H k z M B a0 Z.Head Z.cH _ _ hh a2 N Y Q U f2)) ?_)
    rintro _ h1 ae g8 d g2 ad m ⟨e7, f4, e8, c2, rfl, e0, e1⟩
    obtain rfl := c2.symm
    replace d := d.perm (Tb (Tr (Tr (Tr (Tr (Tr Tn))))))
    refine bK (bY (jW ?_))
    obtain rfl := sj hm
    exact iC rfl ⟨_, _, rfl, (d.ej (Kb (Kr (Kr (Kr (Kr (Kr Sn))))))), e7, f4, e8, rfl, rfl, e0, e1⟩
  refine sg (Wm (Wf gh (VA d Mh (aM Z.B) isAgg28 sizeOf28 (bS hm fun c6 d9 hm => VE (jg d call119 ((rI K g T a G t J c H z M a0 Z.B _ _ (a2.at (fun b o l => d.at_ (Mt (Mt (Ml l))))) (N.sl bI (fun b o l => d.at_ (Mt (Mt (Ma (Ml l)))))) (Y.at (fun b o l => d.at_ (Mt (Mt (Ma (Ma (Ml l))))))) (Q.at (fun b o l => d.at_ (Mt (Mt (Ma (Ma (Ma (Ml l)))))))) ((U.yP kB).mono (Pl.mono _) (ep (fun b o l => d.at_ (Mt (Mt (Ma (Ma (Ma (Ma (Ml l)))))))))) (At.of (d.at_ (Mt Mh)) _ rfl) d9)) (fun g9 f3 d5 e5 d f6 ab F => V (fi underlying82 rfl F) (Wm (ln (jO (cK (fun i E W => ∃ n a3 a5 q a4 a9 L R, (E 13 = .int .i64 (i : Nat) ∧ E 12 = .int .i64 (c6.length : Nat)) ∧ bO d5 L ∧ ST false (keys ((K, Ob #[g, a, t, c, z, (.int .i64 a0)] 294) :: (D ++ (j ++ (u ++ (k ++ (B ++ []))))))) w W L ((K, Ob #[g, a, t, c, a5, (.int .i64 a9)] 294) :: ((b1, Ol (aG Z) 53) :: (a3 ++ (j ++ (u ++ (k ++ (a4 ++ (e5 ++ R)))))))) ∧ E 0 = (.pointer (some ⟨K, 0, none⟩)) ∧ E 3 = (.pointer (some ⟨b1, 0, none⟩)) ∧ E 11 = f3 ∧ eu (fun (x : aA) => (.agg (aM x).toArray)) (ek Value.string (fun (x : Bool) => (Value.bool x))) g n a3 ∧ jS 38 bZ 3 a5 q a4 ∧ iR G J H Z (c6.drop i) n q a9 = some r) c6.length F.len ⟨T, D, z, M, B, a0, d5, _, ⟨rfl, rfl⟩, (bO.refl _), (d.aF (Sb (Pr (Pb Pz)) (Sb (Pr Pz) (Sr (Qr Qz) (Sr (Qr Qz) (Sr (Qr Qz) (Sr (Qr Qz) (Sr (Qr Qz) St)))))))), rfl, rfl, rfl, a2, U, hm⟩ dc dc dc (fun _ _ _ h => by obtain ⟨_, _, _, _, _, _, _, _, a1, _⟩ := h; exact a1) ?_ ?_))))))))))
  · rintro e2 E W c8 ⟨n, a3, a5, q, a4, a9, L, R, ⟨eI, eN⟩, b7, d, c0, A, c1, O, P, I⟩
    obtain ⟨s, f7, d1, c4, d2⟩ := cC c8
    rw [d1] at I
    refine bg (VQ (iZ (i := (e2 : Int)) (x0 := s) underlying82 sizeOf9 c1 eI F (Int.natCast_nonneg _) c4) (fun g3 c9 => V (aH rfl (xq d.has (fun p l => (Mt (Mt (Ma (Ma (Ma (Ma (Ma (Ml l))))))))) F (fun _ => rfl) c9 c4 (y := (.string s)) rfl isAgg9)) (Wa (ln (aU (Wh c0 (V (aH A (aK d.has (Mt Mh) (aG Z) rfl isAgg53 sizeOf53)) (V (aO gh A) (VA d (Mt Mh) (aM Z.B) isAgg28 sizeOf28 (Wm (V (dJ (v := (.agg (bZ ((⟨Z.B, s⟩ : aV))).toArray)) (gK rfl rfl) (cN zeroValue38 underlying38 (Ir _ underlying38) kr)) ?_)))))))))))
    refine bS I fun c3 d0 I => ?_
    refine VE (eM d (Cb Pz (Cr (Qb Qz) (Cr (Qb Qz) (Cr (Qb Qz) (Cr (Qb Qz) (Cr (Qb Qz) Cn)))))) call371 (fun hh _ => (sK K g n a3 a G j t J u c H k a5 q a4 a9 Z ((⟨Z.B, s⟩ : aV)) _ _ hh O N Y Q P d0)) ?_)
    rintro _ g4 e4 f9 d c5 aa m ⟨d6, e3, d7, b5, rfl, d3, d4⟩
    obtain rfl := b5.symm
    replace d := d.perm (Tb (Tr (Tr (Tr (Tr (Tr Tn))))))
    exact bK (bY (aR ⟨eI, c3.1, d6, e3, c3.2.1, d7, c3.2.2, e4, _, ⟨rfl, eN⟩, (b7.trans c5), (d.aF (Kb (Sb (Pr (Pr (Pr (Pr (Pr Pz))))) St))), c0, A, c1, d3, d4, (by rw [d2]; exact I)⟩))
  rintro E W ⟨n, a3, a5, q, a4, a9, L, R, ⟨eI, eN⟩, b7, d, c0, A, c1, O, P, I⟩
  rw [List.drop_length] at I
  refine aR ?_
  replace d := d.aF (Kb (Db (Kr (Kr (Kr (Kr (Kr (Dr St))))))))
  refine bY (jW ?_)
  obtain rfl := sj I
  exact iC rfl ⟨_, _, rfl, (d.ej (Kb (Kr (Kr (Kr (Kr (Kr Sn))))))), a3, a5, a4, rfl, rfl, O, P⟩
theorem wj (I : Nat) (a : Value) (e8 : List (aA × (List (ByteArray × Bool)))) (K : LO) (c : Value) (Q : List aB) (j : LO) (u : Value) (N : List (aA × (List aB))) (y : LO) (g : Value) (H : List (ByteArray × (List aB))) (t : LO) (G : Value) (d4 : List aV) (D : LO) (a0 : Int) (r : ((List (aA × (List (ByteArray × Bool)))) × (List aV) × Int)) (w : World) {μ0 : bW} (h0 : gj μ0 ((I, Ob #[a, c, u, g, G, (.int .i64 a0)] 294) :: (K ++ (j ++ (y ++ (t ++ (D ++ [])))))) w) (h4 : eu (fun (x : aA) => (.agg (aM x).toArray)) (ek Value.string (fun (x : Bool) => (Value.bool x))) a e8 K) (c1 : bG 53 aG 9 c Q j) (g7 : eu (fun (x : aA) => (.agg (aM x).toArray)) (bG 53 aG 9) u N y) (c2 : eu Value.string (bG 53 aG 9) g H t) (g4 : jS 38 bZ 3 G d4 D) (hm : nV e8 Q N H d4 a0 = some r) :
    dV false Tryz.prog 326 [(.pointer (some ⟨I, 0, none⟩))] w ((I, Ob #[a, c, u, g, G, (.int .i64 a0)] 294) :: (K ++ (j ++ (y ++ (t ++ (D ++ [])))))) (fun v L1 W' => ∃ S1 y3 S4, v = (.tuple #[]) ∧ L1 = ((I, Ob #[a, c, u, g, y3, (.int .i64 (r.2.2))] 294) :: (S1 ++ (j ++ (y ++ (t ++ (S4 ++ [])))))) ∧ eu (fun (x : aA) => (.agg (aM x).toArray)) (ek Value.string (fun (x : Bool) => (Value.bool x))) a r.1 S1 ∧ jS 38 bZ 3 y3 r.2.1 S4) := by
  let g5 : Value := (.pointer (some ⟨I, 0, none⟩))
  let b8 := ((I, Ob #[a, c, u, g, G, (.int .i64 a0)] 294) :: (K ++ (j ++ (y ++ (t ++ (D ++ []))))))
  refine uY h0 75 func326 rfl (fun d => jO (dN (fB (fun m E W => ∃ e3 b7 e4 a1 b9 d1 b4 h5, bO μ0 b4 ∧ ST false (keys b8) w W b4 ((I, Ob #[a, c, u, g, e4, (.int .i64 d1)] 294) :: (b7 ++ (j ++ (y ++ (t ++ (b9 ++ h5)))))) ∧ E 0 = g5 ∧ eu (fun (x : aA) => (.agg (aM x).toArray)) (ek Value.string (fun (x : Bool) => (Value.bool x))) a e3 b7 ∧ jS 38 bZ 3 e4 a1 b9 ∧ fP Q N H m e3 a1 d1 = some r) bL ⟨e8, K, G, d4, D, a0, μ0, _, (bO.refl _), (d.aF St), rfl, h4, g4, hm⟩ ?_)))
  rintro m E W ⟨e3, b7, e4, a1, b9, d1, b4, h5, i0, d, F, g9, c5, M⟩
  cases m with
  | zero => rw [fP] at M; cases M
  | succ n0 =>
    refine aW (sg (Wh F (Wn (Wf uJ (VB d Mh rfl rfl isAgg68 (V (Ij underlying68 rfl c5) (Wi rfl (ln (CI M rfl (fun i7 M => ?_) (fun i7 M => ?_))))))))))
    · refine kn (bg (Wh F (Wn (Wf uJ (VB d Mh rfl rfl isAgg68 (bS M fun B h2 M => VQ (fJ (enc := bZ) (i := 0) (x0 := B) underlying68 sizeOf38 rfl rfl (c5.yP kB) (bV h2) (bQ h2)) (fun q0 j7 => V (aH rfl (bE (gf.hp _) (j7.mono (ep (fun b o p => d.has.2 b o (Mt (Ma (Ma (Ma (Ma (Ml p))))))))) isAgg38 sizeOf38)) (VE (bR d zeroValue38 (fun o9 a5 d => VO (aX (.agg (bZ B).toArray) ((bZ B).toArray) d rfl rfl sizeOf38 (sR B) nb rfl (fun p0 d => bK ?_))))))))))))
      let j2 := (((dE bB N B.aA).getD []))
      let j1 : Value := (.pointer (some ⟨a5, 0, none⟩))
      let i6 := ((bZ B).toArray : Array Value)
      let i5 := (((dE dA H B.aA.aJ).getD []))
      refine aR (sg (Wh F (Wh F (Wn (Wf uJ (VB d (Mt Mh) rfl rfl isAgg68 (bS M fun _ g8 M => VQ (GP (i := 1) underlying68 sizeOf38 rfl rfl kB c5 (oM g8) (oL g8)) (fun q3 h1 => Wn (Wf uJ ?_)))))))))
      obtain ⟨f7, g0, rfl⟩ := h1.form
      let g6 : Value := (.slice f7 ((a1.drop (Int.toNat 1))).length g0)
      replace d := d.perm (Nb (Pb Pz) Nz)
      refine VO (aX g6 (#[a, c, u, g, g6, (.int .i64 d1)]) d rfl rfl sizeOf68 oc nb rfl (fun p1 d => ln (aW (aW ?_))))
      replace d := d.drew
      have l := d.has.aF (Kb (Kb (Dr (Dr (Kr Sn)))))
      refine cT l cE (X 0 rfl l (aQ F) (X 1 rfl l (fG rfl) (X 2 rfl l (aO FB rfl) (XH 3 rfl l (fun _ n => aH rfl (bA n Mh rfl isAgg291)) (X 4 rfl l (aO sI rfl) (XH 5 rfl l (fun _ n => aH rfl (aK n (Mt Mh) (aM B.aA) rfl isAgg28 sizeOf28)) ?_))))))
      obtain ⟨l7, c3⟩ := g7
      obtain ⟨o7, f0, k2⟩ := fl.rowAt bD.1 c3 B.aA
      refine XH 6 rfl l (fun _ n => iO (k := B.aA) (z := (.slice none 0 0)) uf underlying291 zeroValue22 rfl rfl c3 (fun b o p => n.2 b o (Mt (Mt (Ml p))))) (X 7 rfl l (cU underlying22 rfl (f0.yP bI)) (X 8 rfl l (aQ rfl) (dG kr (aR (CJ M (fun d0 E W => ∃ d6 e5 d7 b5 h6, bO b4 b5 ∧ ST false (keys b8) w W b5 ((I, Ob #[a, c, u, g, e5, (.int .i64 d0.2.2)] 294) :: ((a5, Obj.cells i6 38 (0, 0)) :: (d6 ++ (j ++ (y ++ (t ++ (d7 ++ h6))))))) ∧ E 0 = g5 ∧ E 2 = j1 ∧ eu (fun (x : aA) => (.agg (aM x).toArray)) (ek Value.string (fun (x : Bool) => (Value.bool x))) a d0.1 d6 ∧ jS 38 bZ 3 e5 d0.2.1 d7) (fun d0 j6 => ?_) ?_)))))
      · refine cK (fun i E W => ∃ c7 a3 P c8 a4 d2 d3 f9, (E 35 = .int .i64 (i : Nat) ∧ E 34 = .int .i64 (j2.length : Nat)) ∧ bO b4 d3 ∧ ST false (keys b8) w W d3 ((I, Ob #[a, c, u, g, P, (.int .i64 d2)] 294) :: ((a5, Obj.cells i6 38 (0, 0)) :: (a3 ++ (j ++ (y ++ (t ++ (a4 ++ f9))))))) ∧ E 0 = g5 ∧ E 2 = j1 ∧ E 33 = (kO bB l7 B.aA (.slice none 0 0)) ∧ eu (fun (x : aA) => (.agg (aM x).toArray)) (ek Value.string (fun (x : Bool) => (Value.bool x))) a c7 a3 ∧ jS 38 bZ 3 P c8 a4 ∧ iD Q N H B (j2.drop i) c7 c8 d2 = some d0) j2.length (f0.yP bI).len ⟨e3, b7, g6, ((a1.drop (Int.toNat 1))), b9, d1, b4, _, ⟨rfl, rfl⟩, (bO.refl _), (d.aF St), F, rfl, rfl, g9, h1, j6⟩ dc dc dc (fun _ _ _ h => by obtain ⟨_, _, _, _, _, _, _, _, s, _⟩ := h; exact s) ?_ ?_
        · rintro m5 E W j0 ⟨c7, a3, P, c8, a4, d2, d3, f9, ⟨q, eN⟩, d5, d, e1, e2, g1, f3, f4, T⟩
          obtain ⟨b3, o3, l1, l0, l2⟩ := cC j0
          rw [l1] at T
          refine bg (VQ (fJ (enc := aG) (i := (m5 : Int)) (x0 := b3) underlying22 sizeOf53 g1 q (f0.yP bI) (Int.natCast_nonneg _) l0) (fun q2 j9 => V (aH rfl (bE (gf.hp _) (j9.mono (ep (fun b o p => d.has.2 b o (Mt (Mt (Ma (Ma (Ml (k2 b o p))))))))) isAgg53 sizeOf53)) (VE (bR d zeroValue53 (fun p5 p9 d => VO (aX (.agg (aG b3).toArray) ((aG b3).toArray) d rfl rfl sizeOf53 (fC b3) nb rfl (fun p6 d => ln (aU (Wh e1 (VA d Mh (aG b3) isAgg53 sizeOf53 (V (aH e2 (aK d.has (Mt (Mt Mh)) (bZ B) rfl isAgg38 sizeOf38)) (bS T fun g3 k1 T => ?_))))))))))))
          refine VE (eM d (Cb (Pb Pz) (Cr (Qb (Qb Qz)) (Cr (Qb (Qb Qz)) (Cr (Qb (Qb Qz)) (Cr (Qb (Qb Qz)) (Cr (Qb (Qb Qz)) Cn)))))) call371 (fun hh _ => (sK I a c7 a3 c Q j u N y g H t P c8 a4 d2 b3 B _ _ hh f3 c1 c3.e c2 f4 k1)) ?_)
          rintro _ q5 n6 o6 d i4 ab A ⟨m1, n4, m2, f6, rfl, l5, l6⟩
          obtain rfl := f6.symm
          replace d := d.perm (Tb (Tr (Tr (Tr (Tr (Tr Tn))))))
          refine bK (bY (aR ?_))
          replace d := d.aF (Kb (Kr (Kr (Kr (Kr (Kr (Db St)))))))
          exact ⟨q, g3.1, m1, n4, g3.2.1, m2, g3.2.2, n6, _, ⟨rfl, eN⟩, (d5.trans i4), (d.aF (Kb (Sb (Pr (Pr (Pr (Pr (Pr Pz))))) St))), e1, e2, g1, l5, l6, (by rw [l2]; exact T)⟩
        rintro E W ⟨c7, a3, P, c8, a4, d2, d3, f9, ⟨q, eN⟩, d5, d, e1, e2, g1, f3, f4, T⟩
        rw [List.drop_length] at T
        refine aR ?_
        obtain rfl := sj T
        exact ⟨a3, P, a4, d3, _, d5, (d.aF St), e1, e2, f3, f4⟩
      rintro ⟨m6, m7, n1⟩ E W ⟨d6, e5, d7, b5, h6, i1, d, h8, h9, k3, k4⟩ j3
      refine aW ?_
      replace d := d.drew
      have l := d.has.aF (Kb (Kb (Dr (Dr (Dr (Kr Sn))))))
      refine cT l cE (X 0 rfl l (aQ h8) (X 1 rfl l (fG rfl) (X 2 rfl l (aO Cm rfl) (XH 3 rfl l (fun _ n => aH rfl (bA n Mh rfl isAgg292)) (X 4 rfl l (aO sI h9) (X 5 rfl l (aO nG rfl) (XH 6 rfl l (fun _ n => aH rfl (bA n (Mt Mh) rfl isAgg9)) ?_)))))))
      obtain ⟨l8, e9⟩ := c2
      obtain ⟨o8, f1, k5⟩ := fl.rowAt eA.1 e9 B.aA.aJ
      refine XH 7 rfl l (fun _ n => iO (k := B.aA.aJ) (z := (.slice none 0 0)) BK underlying292 zeroValue22 rfl rfl e9 (fun b o p => n.2 b o (Mt (Mt (Ml p))))) (X 8 rfl l (cU underlying22 rfl (f1.yP bI)) (X 9 rfl l (aQ rfl) (dG kr (aR (jO (CJ j3 (fun c9 E W => ∃ d8 e6 d9 e7 h7, bO b5 e7 ∧ ST false (keys b8) w W e7 ((I, Ob #[a, c, u, g, e6, (.int .i64 c9.2.2)] 294) :: (d8 ++ (j ++ (y ++ (t ++ (d9 ++ h7)))))) ∧ E 0 = g5 ∧ eu (fun (x : aA) => (.agg (aM x).toArray)) (ek Value.string (fun (x : Bool) => (Value.bool x))) a c9.1 d8 ∧ jS 38 bZ 3 e6 c9.2.1 d9) (fun c9 j5 => ?_) ?_))))))
      · refine cK (fun i E W => ∃ a9 Y a2 O Z R b6 f8, (E 53 = .int .i64 (i : Nat) ∧ E 52 = .int .i64 (i5.length : Nat)) ∧ bO b5 b6 ∧ ST false (keys b8) w W b6 ((I, Ob #[a, c, u, g, a2, (.int .i64 R)] 294) :: ((a5, Obj.cells i6 38 (0, 0)) :: (Y ++ (j ++ (y ++ (t ++ (Z ++ f8))))))) ∧ E 0 = g5 ∧ E 2 = j1 ∧ E 51 = (kO dA l8 B.aA.aJ (.slice none 0 0)) ∧ eu (fun (x : aA) => (.agg (aM x).toArray)) (ek Value.string (fun (x : Bool) => (Value.bool x))) a a9 Y ∧ jS 38 bZ 3 a2 O Z ∧ gx B Q N H (i5.drop i) a9 O R = some c9) i5.length (f1.yP bI).len ⟨m6, d6, e5, m7, d7, n1, b5, _, ⟨rfl, rfl⟩, (bO.refl _), (d.aF St), h8, h9, rfl, k3, k4, j5⟩ dc dc dc (fun _ _ _ h => by obtain ⟨_, _, _, _, _, _, _, _, s, _⟩ := h; exact s) ?_ ?_
        · rintro m4 E W i9 ⟨a9, Y, a2, O, Z, R, b6, f8, ⟨q, eN⟩, a8, d, L, c0, e0, f2, c6, J⟩
          obtain ⟨U, o2, k9, k8, h3⟩ := cC i9
          rw [k9] at J
          refine bg (VQ (fJ (enc := aG) (i := (m4 : Int)) (x0 := U) underlying22 sizeOf53 e0 q (f1.yP bI) (Int.natCast_nonneg _) k8) (fun q1 j8 => V (aH rfl (bE (gf.hp _) (j8.mono (ep (fun b o p => d.has.2 b o (Mt (Mt (Ma (Ma (Ma (Ml (k5 b o p)))))))))) isAgg53 sizeOf53)) (VE (bR d zeroValue53 (fun p2 p8 d => VO (aX (.agg (aG U).toArray) ((aG U).toArray) d rfl rfl sizeOf53 (fC U) nb rfl (fun p3 d => ln (aW ?_))))))))
          replace d := d.drew
          have l := d.has.aF (Kb (Kb (Kb (Kr Sn))))
          refine cT l cE (X 0 rfl l (aQ L) (X 1 rfl l (fG rfl) (X 2 rfl l (aO qw rfl) (XH 3 rfl l (fun _ n => aH rfl (bA n (Mt Mh) rfl isAgg290)) (X 4 rfl l (aO gh rfl) (XH 5 rfl l (fun _ n => aH rfl (aK n Mh (aM U.B) rfl isAgg28 sizeOf28)) ?_))))))
          obtain ⟨o0, c4⟩ := f2
          refine XH 6 rfl l (fun _ n => iO (k := U.B) (z := (.map none)) uf underlying290 zeroValue296 rfl rfl c4 (fun b o p => n.2 b o (Mt (Mt (Mt (Ml p)))))) (X 7 rfl l (aO sI c0) (X 8 rfl l (aO iH rfl) (XH 9 rfl l (fun _ n => aH rfl (bA n (Mt (Mt Mh)) rfl isAgg9)) (XH 10 rfl l (fun _ n => tR (k := B.aA.aC) (z := false) (vf := (fun (x : Bool) => (Value.bool x))) BK underlying296 zeroValue4 rfl rfl (fl.xf (μ := hp _) bD.1 c4 U.B (fun b o p => n.2 b o (Mt (Mt (Mt (Ml p))))))) (dG kr (aR (CI J rfl (fun i8 J => ?_) (fun i8 J => ?_))))))))
          · refine aU (Wh L (Wf jT (VA d Mh (aM U.Head) isAgg28 sizeOf28 (V (aO qN c0) (VB d (Mt (Mt Mh)) rfl rfl isAgg9 (bS J fun g2 k0 J => ?_))))))
            refine VE (eM d (Cb (Pb Pz) (Cr (Qb (Qb Qz)) (Cr (Qb (Qb Qz)) (Cr (Qb (Qb Qz)) (Cr (Qb (Qb Qz)) (Cr (Qb (Qb Qz)) Cn)))))) call370 (fun hh _ => dV.dK (kv I a a9 Y c Q j u N y g H t a2 O Z R U.Head B.cH _ _ hh c4.e c1 c3.e e9.e c6 k0)) ?_)
            rintro _ q4 n5 o5 d i3 aa A ⟨l9, n3, m0, f5, rfl, l3, l4⟩
            obtain rfl := f5.symm
            replace d := d.perm (Tb (Tr (Tr (Tr (Tr (Tr Tn))))))
            refine bK (bY (aR ?_))
            replace d := d.aF (Kb (Kr (Kr (Kr (Kr (Kr (Db St)))))))
            exact ⟨q, g2.1, l9, n3, g2.2.1, m0, g2.2.2, n5, _, ⟨rfl, eN⟩, (a8.trans i3), (d.aF (Kb (Sb (Pr (Pr (Pr (Pr (Pr Pz))))) St))), L, c0, e0, l3, l4, (by rw [h3]; exact J)⟩
          refine cZ (bY (aR ?_))
          replace d := d.aF (Db St)
          exact ⟨q, a9, Y, a2, O, Z, R, b6, _, ⟨rfl, eN⟩, a8, (d.aF St), L, c0, e0, c4.e, c6, (by rw [h3]; exact J)⟩
        rintro E W ⟨a9, Y, a2, O, Z, R, b6, f8, ⟨q, eN⟩, a8, d, L, c0, e0, f2, c6, J⟩
        rw [List.drop_length] at J
        refine aR ?_
        obtain rfl := sj J
        exact ⟨Y, a2, Z, b6, _, a8, (d.aF (Kb (Db St))), L, f2, c6⟩
      rintro ⟨m8, m9, n2⟩ E W ⟨d8, e6, d9, e7, h7, i2, d, m3, k6, k7⟩ j4
      exact bY (aR ⟨n0, Nat.lt_succ_self _, m8, d8, e6, m9, d9, n2, e7, _, ((i0.trans i1).trans i2), (d.aF St), m3, k6, k7, j4⟩)
    refine fI (fD (fD (kz (aR (jW ?_)))))
    obtain rfl := sj M
    exact iC rfl ⟨_, _, rfl, (d.ej (Kb (Kr (Kr (Kr (Kr (Kr Sn))))))), b7, e4, b9, rfl, rfl, g9, c5⟩
theorem xV (H : Nat) (g : Value) (c2 : List (aA × (List (ByteArray × Bool)))) (G : LO) (u : Value) (a7 : List aB) (k : LO) (c : Value) (b7 : List (aA × (List aB))) (z : LO) (a : Value) (a8 : List (ByteArray × (List aB))) (t : LO) (B : Value) (b6 : List aV) (y : LO) (K : Int) (d1 : Value) (p : List aB) (r : (Int × (List (aA × (List (ByteArray × Bool)))) × (List aB) × (List (aA × (List aB))) × (List (ByteArray × (List aB))) × (List aV) × Int)) (w : World) {μ0 : bW} (h0 : gj μ0 ((H, Ob #[g, u, c, a, B, (.int .i64 K)] 294) :: (G ++ (k ++ (z ++ (t ++ (y ++ [])))))) w) (d6 : eu (fun (x : aA) => (.agg (aM x).toArray)) (ek Value.string (fun (x : Bool) => (Value.bool x))) g c2 G) (c6 : bG 53 aG 9 u a7 k) (d3 : eu (fun (x : aA) => (.agg (aM x).toArray)) (bG 53 aG 9) c b7 z) (c7 : eu Value.string (bG 53 aG 9) a a8 t) (d2 : jS 38 bZ 3 B b6 y) (d7 : Sl (Pl aG) 9 μ0 d1 p) (hm : nt c2 a7 b7 a8 b6 K p = some r) :
    dV false Tryz.prog 233 [(.pointer (some ⟨H, 0, none⟩)), d1] w ((H, Ob #[g, u, c, a, B, (.int .i64 K)] 294) :: (G ++ (k ++ (z ++ (t ++ (y ++ [])))))) (fun v L1 W' => ∃ S1 y3 S4 S6 S8 i1 i0, v = (.int .i64 (r.1)) ∧ L1 = ((H, Ob #[g, y3, c, a, i1, (.int .i64 (r.2.2.2.2.2.2))] 294) :: (S1 ++ (S4 ++ (S6 ++ (S8 ++ (i0 ++ [])))))) ∧ eu (fun (x : aA) => (.agg (aM x).toArray)) (ek Value.string (fun (x : Bool) => (Value.bool x))) g r.2.1 S1 ∧ bG 53 aG 9 y3 r.2.2.1 S4 ∧ eu (fun (x : aA) => (.agg (aM x).toArray)) (bG 53 aG 9) c r.2.2.2.1 S6 ∧ eu Value.string (bG 53 aG 9) a r.2.2.2.2.1 S8 ∧ jS 38 bZ 3 i1 r.2.2.2.2.2.1 i0) := by
  let b8 := ((H, Ob #[g, u, c, a, B, (.int .i64 K)] 294) :: (G ++ (k ++ (z ++ (t ++ (y ++ []))))))
  refine uY h0 46 func233 rfl (fun d => sg (Wa (lS (Wm (V (qv underlying171 rfl rfl) (ln (lI rfl (cZ ?_))))))))
  refine aR (sg (Wm (Wn (Wf zl (VB d Mh rfl rfl isAgg3 (Wa (lS (Wm (V (cU underlying22 rfl d7) ?_)))))))))
  refine Wm (ln (cK (fun i E W => ∃ a3 N M a4 Q a9 T n U a0 a5 Y a2 c1 d5, (E 16 = .int .i64 (i : Nat) ∧ E 15 = .int .i64 (p.length : Nat)) ∧ bO μ0 c1 ∧ ST false (keys b8) w W c1 ((H, Ob #[g, M, c, a, a0, (.int .i64 a2)] 294) :: (N ++ (Q ++ (T ++ (U ++ (Y ++ d5)))))) ∧ E 0 = (.pointer (some ⟨H, 0, none⟩)) ∧ E 5 = (.int .i64 K) ∧ E 14 = d1 ∧ eu (fun (x : aA) => (.agg (aM x).toArray)) (ek Value.string (fun (x : Bool) => (Value.bool x))) g a3 N ∧ bG 53 aG 9 M a4 Q ∧ eu (fun (x : aA) => (.agg (aM x).toArray)) (bG 53 aG 9) c a9 T ∧ eu Value.string (bG 53 aG 9) a n U ∧ jS 38 bZ 3 a0 a5 Y ∧ gr K (p.drop i) a3 a4 a9 n a5 a2 = some r) p.length d7.len ⟨c2, G, u, a7, k, b7, z, a8, t, B, b6, y, K, μ0, _, ⟨rfl, rfl⟩, (bO.refl _), (d.aF St), rfl, rfl, rfl, d6, c6, d3, c7, d2, hm⟩ dc dc dc (fun _ _ _ h => by obtain ⟨_, _, _, _, _, _, _, _, _, _, _, _, _, _, _, aa, _⟩ := h; exact aa) ?_ ?_))
  · rintro f6 E W g3 ⟨a3, N, M, a4, Q, a9, T, n, U, a0, a5, Y, a2, c1, d5, ⟨eI, eN⟩, b1, d, s, c3, c4, F, q, L, O, P, D⟩
    obtain ⟨I, j8, h4, h3, d9⟩ := cC g3
    rw [h4] at D
    refine bg (VQ (fJ (enc := aG) (i := (f6 : Int)) (x0 := I) underlying22 sizeOf53 c4 eI (d7.mono (Pl.mono _) b1) (Int.natCast_nonneg _) h3) (fun l1 g4 => V (aH rfl (bE d.has g4 isAgg53 sizeOf53)) (VE (bR d zeroValue53 (fun k3 e8 d => VO (aX (.agg (aG I).toArray) ((aG I).toArray) d rfl rfl sizeOf53 (fC I) nb rfl (fun k4 d => ln (aW ?_))))))))
    replace d := d.drew
    have l := d.has.aF (Kb (Kb Sn))
    refine cT l cE (XH 0 rfl l (fun _ R => aH rfl (aK R Mh (aG I) rfl isAgg53 sizeOf53)) (bS D fun l2 g7 D => XE 1 rfl (Eg d call137 (bF.dK (rS I _ _  g7)) (fun k5 d => ?_))))
    have l := d.has.aF (Kb (Kb Sn))
    refine ⟨l, (X 2 rfl l (aQ rfl) (PJ D (fun f7 E W => ∃ e4, ST false (keys b8) w W c1 ((e8, Ol (aG I) 53) :: ((H, Ob #[g, M, c, a, a0, (.int .i64 a2)] 294) :: (N ++ (Q ++ (T ++ (U ++ (Y ++ e4))))))) ∧ E 0 = (.pointer (some ⟨H, 0, none⟩)) ∧ E 5 = (.int .i64 K) ∧ E 7 = (.pointer (some ⟨e8, 0, none⟩)) ∧ E 14 = d1 ∧ E 15 = (.int .i64 ((p.length : Int))) ∧ E 16 = (.int .i64 ((f6 : Int))) ∧ E 30 = (.bool f7)) (bm 11 2047) 0 ?_ (fun f7 Z d4 => ?_)))⟩
    · rintro l7 E W ⟨e4, d, c5, e9, f0, f1, f2, f3, i6⟩ J
      refine dG kr (aR (CI J i6 (fun g2 J => ?_) (fun g2 J => ?_)))
      · refine sg (Wh c5 (V (aH f0 (aK d.has Mh (aG I) rfl isAgg53 sizeOf53)) (bS J fun A g8 J => ?_)))
        refine VE (eM d (Cb (Pb Pz) (Cr (Qb Qz) (Cr (Qb Qz) (Cr (Qb Qz) (Cr (Qb Qz) (Cr (Qb Qz) Cn)))))) call324 (fun hh _ => dV.dK (xj H g a3 N M a4 Q c a9 T a n U a0 a5 Y a2 I _ _ hh F q L O P g8)) ?_)
        rintro _ l4 l8 k0 d f4 ab m ⟨f8, e5, e6, e7, c8, rfl, e0, e1, e2⟩
        obtain rfl := c8.symm
        replace d := d.perm (Tb (Tr (Tr (Tr (Tr (Tr Tn))))))
        refine ln (aU (Wh c5 (V (aH f0 (aK d.has (Mt (Ma (Ma (Ma (Ma (Ma Mh)))))) (aG I) rfl isAgg53 sizeOf53)) (bS J fun d8 g9 J => ?_))))
        refine VE (eM d (Cb Pz (Cr Qz (Cr Qz (Cr Qz (Cr Qz (Cr Qz Cn)))))) call325 (fun hh _ => (wz H g a3 N f8 A.1 e5 c A.2.1 e6 a A.2.2 e7 a0 a5 Y a2 I _ _ hh F e0 e1 e2 P g9)) ?_)
        rintro _ l5 j0 k1 d f5 ad m ⟨i2, i8, i3, c9, rfl, h5, h6⟩
        obtain rfl := c9.symm
        replace d := d.perm (Tb (Tr (Tr (Tr (Tr (Tr Tn))))))
        refine bK (bY (aR ?_))
        replace d := d.aF (Kb (Kr (Kr (Kr (Kr (Kr (Db St)))))))
        exact ⟨f3, d8.1, i2, f8, A.1, e5, A.2.1, e6, A.2.2, e7, i8, d8.2.1, i3, d8.2.2, j0, _, ⟨rfl, f2⟩, ((b1.trans f4).trans f5), (d.aF St), c5, e9, f1, h5, e0, e1, e2, h6, (by rw [d9]; exact J)⟩
      refine cZ (bY (aR ?_))
      replace d := d.aF (Db St)
      exact ⟨f3, a3, N, M, a4, Q, a9, T, n, U, a0, a5, Y, a2, c1, _, ⟨rfl, f2⟩, b1, (d.aF St), c5, e9, f1, F, q, L, O, P, (by rw [d9]; exact J)⟩
    refine bC Z (fun j Z => ?_) (fun j Z => ?_)
    · refine Xg 3 rfl rfl (cB j) l (aQ s) (Xg 4 rfl rfl (cB j) l (fG rfl) (Xg 5 rfl rfl (cB j) l (aO CC rfl) (ou 6 rfl rfl (cB j) l (fun _ R => aH rfl (bA R (Mt Mh) rfl isAgg22)) (ou 7 rfl rfl (cB j) l (fun _ R => aH rfl (aK R Mh (aG I) rfl isAgg53 sizeOf53)) (bS Z fun l3 h1 Z => zZ 8 rfl rfl (cB j) (Eg d call201 (bF.dK (uA M a4 I _ _ (q.sl bI (fun b o hq => d.at_ (Mt (Mt (Ma (Ml hq)))))) h1)) (fun k8 d => ?_)))))))
      have l := d.has.aF (Kb (Kb Sn))
      refine ⟨l, (Xg 9 rfl rfl (cB j) l (gn rfl) (X 10 rfl l (aY (cB j) rfl) ?_))⟩
      obtain rfl := sj Z
      refine fO kr (d4 _ _ ⟨_, (d.aF St), s, c3, rfl, c4, eN, eI, rfl⟩)
    refine Xn 3 rfl rfl (cB j) l (Xn 4 rfl rfl (cB j) l (Xn 5 rfl rfl (cB j) l (Xn 6 rfl rfl (cB j) l (Xn 7 rfl rfl (cB j) l (Xn 8 rfl rfl (cB j) l (Xn 9 rfl rfl (cB j) l (X 10 rfl l (aZ (cB j) rfl) ?_)))))))
    obtain rfl := sj Z
    refine fO kr (d4 _ _ ⟨_, (d.aF St), s, c3, rfl, c4, eN, eI, rfl⟩)
  rintro E W ⟨a3, N, M, a4, Q, a9, T, n, U, a0, a5, Y, a2, c1, d5, ⟨eI, eN⟩, b1, d, s, c3, c4, F, q, L, O, P, D⟩
  rw [List.drop_length] at D
  refine aR (sg (Wh s (bS D fun i7 h2 D => ?_)))
  refine VE (eM d (Cb Pz (Cr Qz (Cr Qz (Cr Qz (Cr Qz (Cr Qz Cn)))))) call326 (fun hh _ => (wj H g a3 N M a4 Q c a9 T a n U a0 a5 Y a2 _ _ hh F q L O P h2)) ?_)
  rintro _ l6 l9 k2 d j6 ae m ⟨i4, i9, i5, d0, rfl, h7, h8⟩
  obtain rfl := d0.symm
  replace d := d.perm (Tb (Tr (Tr (Tr (Tr (Tr Tn))))))
  refine lr (Wh s (Wn (Wf zl (VB d Mh rfl rfl isAgg3 (Wh c3 (Wi rfl (Wa (lt ?_))))))))
  obtain rfl := sj D
  exact dH (v := (.int .i64 ((IntKind.i64.wrap (i7.2.2 - K))))) rfl rfl ⟨_, _, rfl, (d.ej (Kb (Kr (Kr (Kr (Kr (Kr Sn))))))), i4, M, Q, T, U, i9, i5, rfl, rfl, h7, q, L, O, h8⟩
theorem GO (j : Value) (H : List aB) (r : ((List (aA × (List (ByteArray × Bool)))) × (List aB) × (List (aA × (List aB))) × (List (ByteArray × (List aB))) × (List aV) × Int)) (w : World) (J : Sl (Pl aG) 9 (hp w) j H) (hm : sr H = some r) :
    dV false Tryz.prog 117 [j] w [] (fun v L1 W' => ∃ l n S3 p S6 q S9 D u G y, v = (.pointer (some ⟨l, 0, none⟩)) ∧ L1 = ((l, Ob #[n, p, q, D, G, (.int .i64 (r.2.2.2.2.2))] 294) :: (S3 ++ (S6 ++ (S9 ++ (u ++ (y ++ [])))))) ∧ eu (fun (x : aA) => (.agg (aM x).toArray)) (ek Value.string (fun (x : Bool) => (Value.bool x))) n r.1 S3 ∧ bG 53 aG 9 p r.2.1 S6 ∧ eu (fun (x : aA) => (.agg (aM x).toArray)) (bG 53 aG 9) q r.2.2.1 S9 ∧ eu Value.string (bG 53 aG 9) D r.2.2.2.1 u ∧ jS 38 bZ 3 G r.2.2.2.2.1 y) := by
  refine ng 13 func117 rfl (fun b => sg (Wa (lr (VE (xy (P := Tryz.prog) (fun (x : aA) => (.agg (aM x).toArray)) (ek Value.string (fun (x : Bool) => (Value.bool x))) b (fun W1 v4 R2 b z => VE (xy (P := Tryz.prog) (fun (x : aA) => (.agg (aM x).toArray)) (bG 53 aG 9) b (fun W5 v8 R6 b B => VE (xy (P := Tryz.prog) Value.string (bG 53 aG 9) b (fun W9 O Y b t => ?_))))))))))
  obtain ⟨a, rfl⟩ := z.form
  obtain ⟨c, rfl⟩ := B.form
  obtain ⟨g, rfl⟩ := t.form
  refine V (dJ (v := (.agg #[(.map (some a)), (.slice none 0 0), (.map (some c)), (.map (some g)), (.slice none 0 0), (.int .i64 0)])) (yk rfl rfl rfl) (cN zeroValue294 underlying294 (Mf _ underlying294) kr)) (VE (bX b rfl (fun c1 k b => Wa (lr (Wm (Wm (bS hm fun L K hm => ?_)))))))
  refine VE (eM b (Cb Pz (Cr (Qr (Qr Qz)) (C0 (Cr (Qr Qz) (Cr Qz (C0 Cn)))))) call233 (fun E h => (xV k (.map (some a)) ([]) R2 (.slice none 0 0) ([]) [] (.map (some c)) ([]) R6 (.map (some g)) ([]) Y (.slice none 0 0) ([]) [] 0 j H _ _ E z (bG.nil _ _ _) B t (jS.nil _ _ _) (J.mono (Pl.mono _) h) K)) ?_)
  rintro _ R W I b F m d ⟨Z, s, a2, a3, a4, A, a5, i, rfl, M, N, Q, T, U⟩
  obtain rfl := i.symm
  replace b := b.perm (Tb (Tr (Tr (Tr (Tr (Tr Tn))))))
  refine lr (Wm (Wa (lt ?_)))
  obtain rfl := sj hm
  exact dH (v := (.pointer (some ⟨k, 0, none⟩))) rfl rfl ⟨_, _, rfl, (b.Bx (Kb (Kr (Kr (Kr (Kr (Kr Sn))))))), k, (.map (some a)), Z, s, a2, (.map (some c)), a3, (.map (some g)), a4, A, a5, rfl, rfl, M, N, Q, T, U⟩
theorem EU (c : Value) (D : List aB) (G : ByteArray) (r : ((List (aA × (List (ByteArray × Bool)))) × (List aB) × (List (aA × (List aB))) × (List (ByteArray × (List aB))) × (List aV) × Int × ByteArray)) (w : World) (I : Sl (Pl aG) 9 (hp w) c D) (hm : ov D G = some r) :
    dV false Tryz.prog 182 [c, (.string G)] w [] (fun v L1 W' => ∃ g h l S4 m S7 n j z k B t u, v = (.func (.func 287) #[] #[(.pointer (some ⟨g, 0, none⟩)), (.pointer (some ⟨u, 0, none⟩))]) ∧ L1 = ((g, Ob #[(.pointer (some ⟨h, 0, none⟩))] 171) :: ((h, Ob #[l, m, n, z, B, (.int .i64 (r.2.2.2.2.2.1))] 294) :: ((u, Ob #[(.string (r.2.2.2.2.2.2))] 9) :: (S4 ++ (S7 ++ (j ++ (k ++ (t ++ [])))))))) ∧ eu (fun (x : aA) => (.agg (aM x).toArray)) (ek Value.string (fun (x : Bool) => (Value.bool x))) l r.1 S4 ∧ bG 53 aG 9 m r.2.1 S7 ∧ eu (fun (x : aA) => (.agg (aM x).toArray)) (bG 53 aG 9) n r.2.2.1 j ∧ eu Value.string (bG 53 aG 9) z r.2.2.2.1 k ∧ jS 38 bZ 3 B r.2.2.2.2.1 t) := by
  refine ng 9 func182 rfl (fun b => sg (VE (bX b rfl (fun W2 g b => Wa (lr (Wm (bS hm fun R p hm => ?_)))))))
  refine VE (tY b (List.Perm.refl _) call117 (fun _ _ _ _ => (GO c D _ _ (I.mono (Pl.mono _) b.aP) p)) (fun W5 v9 L P b O F d H => ?_) (L0 := []))
  obtain ⟨i, q, T, s, U, a9, Y, A, Z, E, a2, a, rfl, J, K, M, N, Q⟩ := H
  replace a := a.symm; subst a
  replace b := b.perm (Tb (Tr (Tr (Tr (Tr (Tr Tn))))))
  refine VE (bR b zeroValue171 (fun c1 y b => VO (aX (.pointer (some ⟨i, 0, none⟩)) (#[(.pointer (some ⟨i, 0, none⟩))]) b rfl rfl sizeOf171 oc nb rfl (fun c2 b => lr (V (lF (by exact pC rfl rfl) rfl) (Wa (lt ?_)))))))
  obtain rfl := sj hm
  exact dH (v := (.func (.func 287) #[] #[(.pointer (some ⟨y, 0, none⟩)), (.pointer (some ⟨g, 0, none⟩))])) rfl rfl ⟨_, _, rfl, (b.Bx (Kb (Kb (Sb (Pr (Pr (Pr (Pr (Pr Pz))))) (Kr (Kr (Kr (Kr (Kr Sn))))))))), y, i, q, T, s, U, a9, Y, A, Z, E, a2, g, rfl, rfl, J, K, M, N, Q⟩
theorem mr (g : Value) (t : List cI) (j : Value) (z : cI → Option Bool) (r : Int) (w : World) (c : Sl bN 15 (hp w) g t) (B : qP Tryz.prog j (hp w) (uV bN) (fun (r : Bool) => (.bool r)) z) (hm : fp t z = some r) :
    bF false Tryz.prog 184 [g, j] w (.int .i64 r) := by
  refine cG 19 func184 rfl (fun b => sg (Wa (lS (Wm (V (cU underlying107 rfl c) (Wm (ln (cK (fun i E W => ∃ k, (E 8 = .int .i64 (i : Nat) ∧ E 7 = .int .i64 (t.length : Nat)) ∧ ST false cA w W (hp w) k ∧ E 0 = g ∧ E 1 = j ∧ fN z (t.drop i) i = some r) t.length c.len ⟨_, ⟨rfl, rfl⟩, (b.aF St), rfl, rfl, hm⟩ dc dc dc (fun _ _ _ h => by obtain ⟨_, l, _⟩ := h; exact l) ?_ ?_))))))))
  · rintro T E W G ⟨k, ⟨d, m⟩, b, u, x, a⟩
    obtain ⟨y, Z, N, M, Q⟩ := cC G
    rw [N] at a
    refine bg (Wh d (Wa (lr (Wh x (Wh u (Wm (VQ (ei (i := (T : Int)) (x0 := y) bN.out underlying107 sizeOf138 rfl rfl c (Int.natCast_nonneg _) M) (fun a2 ⟨_, ⟨U, Y, rfl, J, K⟩, H⟩ => V (aH rfl (bE b.has H isAgg138 sizeOf138)) (bS a fun a3 I a => ?_)))))))))
    refine VE (rT y b B (bO.refl _) (uV.mk bM (bN.mk ⟨U, Y, rfl, J, K⟩) b.aP) rfl (nK rfl) I (fun n b => ln (CI a rfl (fun D a => ?_) (fun D a => ?_))))
    · refine sg (Wm (Wa (lt (eF (bU (eF (bU ?_)))))))
      obtain rfl := sj a
      exact rP b
    exact cZ (bY (aR ⟨d, _, ⟨rfl, m⟩, (b.aF St), u, x, (by rw [Q]; exact a)⟩))
  rintro E W ⟨k, ⟨d, m⟩, b, u, x, a⟩
  rw [List.drop_length] at a
  exact aR (sg (Wa (lt (rQ a b))))
theorem Bw (a : cI) (g c : Value) (k : Nat) (u : aB) (r : Bool) (w : World) (j : Sl (Pl (dM .u8)) 1 (hp w) g a.Signed.Tag) (i : Sl aD 5 (hp w) c a.aI.Kids) (t : At (hp w) (.pointer (some ⟨k, 0, none⟩)) (aG u)) (hm : pG a u = some r) :
    bF true Tryz.prog 305 [(.agg #[(.int .i64 a.Signed.aB.Kind), (.string a.Signed.aB.Head.aC), (.string a.Signed.aB.Head.aJ), (.string a.Signed.aB.cH), (.string a.Signed.aB.B.aC), (.string a.Signed.aB.B.aJ), (.string a.Signed.aB.C.aC), (.string a.Signed.aB.C.aJ), (.string a.Signed.aB.cO), g, (.int .i64 a.aI.Op), (.int .i64 a.aI.K), (.string a.aI.aA.aC), (.string a.aI.aA.aJ), c]), (.pointer (some ⟨k, 0, none⟩))] w (.bool r) := by
  refine cG 9 func305 rfl (fun b => sg ?_)
  obtain ⟨x, z, rfl⟩ := j.form
  obtain ⟨y, B, rfl⟩ := i.form
  refine VE (bX b rfl (fun D G b => Wa (lr (Wf po (Wf qW (VA b Mh (aG a.Signed.aB) isAgg53 sizeOf53 (V (aH rfl (bE b.has t isAgg53 sizeOf53)) (V (oa rfl rfl (fS eqGuardType53) (kC (oN _ a.Signed.aB u))) (Wa (ln ?_))))))))))
  exact bH (rQ hm b)
theorem Ef (k : cR) (g j : Value) (D : aB) (r : (cI × Bool)) (w : World) {J : bW} (l : gj J [] w) (c : Sl bN 15 J g k.aT) (B : Sl dF 8 J j k.bP) (hm : sF k D = some r) :
    dR false Tryz.prog 212 [(.agg #[(.string k.Name), g, j]), (.agg (aG D).toArray)] w J [] (fun v L1 μ1 => ∃ d h, v = (.tuple #[(.agg #[(.int .i64 ((((r.1).Signed).aB).Kind)), (.string (((((r.1).Signed).aB).Head).aC)), (.string (((((r.1).Signed).aB).Head).aJ)), (.string ((((r.1).Signed).aB).cH)), (.string (((((r.1).Signed).aB).B).aC)), (.string (((((r.1).Signed).aB).B).aJ)), (.string (((((r.1).Signed).aB).C).aC)), (.string (((((r.1).Signed).aB).C).aJ)), (.string ((((r.1).Signed).aB).cO)), d, (.int .i64 (((r.1).aI).Op)), (.int .i64 (((r.1).aI).K)), (.string ((((r.1).aI).aA).aC)), (.string ((((r.1).aI).aA).aJ)), h]), (.bool (r.2))]) ∧ L1 = [] ∧ Sl (Pl (dM .u8)) 1 μ1 d (((r.1).Signed).Tag) ∧ Sl aD 5 μ1 h (((r.1).aI).Kids)) := by
  refine nm l 19 func212 rfl (fun b => sg ?_)
  obtain ⟨T, U, rfl⟩ := c.form
  obtain ⟨A3, c4, rfl⟩ := B.form
  refine VE (bX b rfl (fun W6 L b => VE (bX b rfl (fun W8 K b => VE (bR b zeroValue138 (fun E P b => Wa (lr (Wf kD (VB b (Mt (Mt Mh)) rfl rfl isAgg107 (V (lF (by exact nK rfl) rfl) (bS hm fun Z Q hm => VE (Eg b call184 ((mr (.slice T k.aT.length U) k.aT (.func (.func 305) #[] #[(.pointer (some ⟨K, 0, none⟩))]) (fun (x : cI) => pG x D) _ _ (c.mono bM.mono b.aP) ⟨305, #[], #[(.pointer (some ⟨K, 0, none⟩))], rfl, call305, fun W x vs r n m hm => by obtain ⟨_, rfl, Y⟩ := m; obtain ⟨s, A, rfl, p, q⟩ := Y.out; exact (Bw x s A K D r W p q (At.of (n _ _ (b.at_ (Mt Mh))) _ rfl) hm).dK⟩ Q)) (fun F b => Wa (bK ?_))))))))))))))
  refine aR ?_
  replace b := b.aF (Kb (Db St))
  refine aW (sg (Wm (Wi rfl (ln (CI hm rfl (fun M hm => ?_) (fun M hm => ?_))))))
  · refine sg (V (dJ (v := (.agg C9.toArray)) ju (cN zeroValue138 underlying138 (Jm _ underlying138) kr)) (VO (aX (.agg C9.toArray) (C9.toArray) b rfl rfl sizeOf138 oc nb rfl (fun O b => Wa (ln ?_)))))
    replace b := b.aF (Kb (Db St))
    refine bH (bU ?_)
    obtain rfl := sj hm
    exact ir (v0 := (.agg C9.toArray)) (v1 := (.bool false)) rfl rfl (aK b.has Mh C9 rfl isAgg138 sizeOf138) rfl ⟨_, _, _, rfl, (b.ej Sn), (bO.refl _), Lo.refl, (ST.cJ b (eE.mem Sn)), (.slice none 0 0), (.slice none 0 0), rfl, rfl, (Sl.nil _ _ _), (Sl.nil _ _ _)⟩
  refine kg (Wf kD (VB b (Mt Mh) rfl rfl isAgg107 (Wm (bS hm fun a I hm => VQ (ei (i := Z) (x0 := a) bN.out underlying107 sizeOf138 rfl rfl c (bV I) (bQ I)) (fun c1 ⟨_, ⟨c3, c5, rfl, G, H⟩, N⟩ => V (aH rfl (bE b.has N isAgg138 sizeOf138)) ?_)))))
  obtain ⟨t, y, rfl⟩ := G.form
  obtain ⟨u, z, rfl⟩ := H.form
  let a0 := (C3 a.Signed.aB.Kind a.Signed.aB.Head.aC a.Signed.aB.Head.aJ a.Signed.aB.cH a.Signed.aB.B.aC a.Signed.aB.B.aJ a.Signed.aB.C.aC a.Signed.aB.C.aJ a.Signed.aB.cO t a.Signed.Tag.length y a.aI.Op a.aI.K a.aI.aA.aC a.aI.aA.aJ u a.aI.Kids.length z)
  refine VO (aX (.agg a0.toArray) (a0.toArray) b rfl rfl sizeOf138 oc nb rfl (fun R b => Wa (ln ?_)))
  replace b := b.aF (Kb (Db St))
  refine bH ?_
  obtain rfl := sj hm
  exact ir (v0 := (.agg a0.toArray)) (v1 := (.bool true)) rfl rfl (aK b.has Mh a0 rfl isAgg138 sizeOf138) rfl ⟨_, _, _, rfl, (b.ej Sn), (bO.refl _), Lo.refl, (ST.cJ b (eE.mem Sn)), (.slice t a.Signed.Tag.length y), (.slice u a.aI.Kids.length z), rfl, rfl, G, H⟩
theorem ya (c : Value) (u r : List gL) (w : World) {j : bW} (I : gj j [] w) (a : Sl dF 8 j c u) (hm : nM u = some r) :
    dR true Tryz.prog 302 [c] w j [] (fun v G J => ∃ z t, v = z ∧ G = (t ++ []) ∧ cL 263 dF 8 J z r t) := by
  unfold nM at hm
  refine nm I 8 func302 rfl (fun b => sg (Wa (lS (Wm ?_))))
  obtain ⟨D, Q, rfl⟩ := a.form
  refine V (tO underlying108 rfl rfl) (ln ?_)
  rcases D with _ | M
  · have y := a.isNil
    replace hm : some [] = some r := by rw [y] at hm; simpa [eT, maxLen] using hm
    refine qh (rfl) (sg (Wa (lt (bU ?_))))
    obtain rfl := sj hm
    refine dH (v := (.slice none 0 0)) rfl rfl ?_
    replace b := b.I5
    exact ⟨_, _, _, rfl, (b.ej (Kr Sn)), (bO.refl _), Lo.refl, (ST.cJ b (eE.mem (Kr Sn))), (.slice none 0 0), [], rfl, rfl, (cL.nil _ _ _ _)⟩
  · refine lI (rfl) (kg (VE (bJ (cs := #[]) b ju (th [] underlying108 sizeOf263 zeroValue263 dc rfl (by simp) rfl rfl) (fun N H b => Wm (bS hm fun T x hm => VE (iP (B := [(H, Ob #[] 263)]) ev b dc underlying108 zu.1 zu.2.1 rfl zu.2.2.1 zu.2.2.2 rfl rfl (cL.lit ev (l := []) .nil rfl nb rfl) (qE.sl ev a b.aP) x (fun K g k b i => Wa (lt ?_))))))))
    obtain rfl := sj hm
    exact dH (v := g) rfl rfl ⟨_, _, _, rfl, (b.ej (Kr Sn)), (bO.refl _), Lo.refl, (ST.cJ b (eE.mem (Kr Sn))), g, k, rfl, rfl, i⟩
theorem wc (g : Value) (t : List gL) (j : Value) (z : gL → Option Bool) (r : Int) (w : World) (c : Sl dF 8 (hp w) g t) (B : qP Tryz.prog j (hp w) (uV dF) (fun (r : Bool) => (.bool r)) z) (hm : nS t z = some r) :
    bF false Tryz.prog 304 [g, j] w (.int .i64 r) := by
  refine cG 19 func304 rfl (fun b => sg (Wa (lS (Wm (V (cU underlying108 rfl c) (Wm (ln (cK (fun i E W => ∃ k, (E 8 = .int .i64 (i : Nat) ∧ E 7 = .int .i64 (t.length : Nat)) ∧ ST false cA w W (hp w) k ∧ E 0 = g ∧ E 1 = j ∧ gw z (t.drop i) i = some r) t.length c.len ⟨_, ⟨rfl, rfl⟩, (b.aF St), rfl, rfl, hm⟩ dc dc dc (fun _ _ _ h => by obtain ⟨_, l, _⟩ := h; exact l) ?_ ?_))))))))
  · rintro T E W G ⟨k, ⟨d, m⟩, b, u, x, a⟩
    obtain ⟨y, Z, N, M, Q⟩ := cC G
    rw [N] at a
    refine bg (Wh d (Wa (lr (Wh x (Wh u (Wm (VQ (ei (i := (T : Int)) (x0 := y) dF.out underlying108 sizeOf263 rfl rfl c (Int.natCast_nonneg _) M) (fun a2 ⟨_, ⟨U, Y, rfl, J, K⟩, H⟩ => V (aH rfl (bE b.has H isAgg263 sizeOf263)) (bS a fun a3 I a => ?_)))))))))
    refine VE (rT y b B (bO.refl _) (uV.mk ev (dF.mk ⟨U, Y, rfl, J, K⟩) b.aP) rfl (nK rfl) I (fun n b => ln (CI a rfl (fun D a => ?_) (fun D a => ?_))))
    · refine sg (Wm (Wa (lt (eF (bU (eF (bU ?_)))))))
      obtain rfl := sj a
      exact rP b
    exact cZ (bY (aR ⟨d, _, ⟨rfl, m⟩, (b.aF St), u, x, (by rw [Q]; exact a)⟩))
  rintro E W ⟨k, ⟨d, m⟩, b, u, x, a⟩
  rw [List.drop_length] at a
  exact aR (sg (Wa (lt (rQ a b))))
theorem vr (k : Value) (a0 : List gL) (y : LO) (J : Value) (f1 : gL → Option Bool) (r : List gL) (w : World) {Y : bW} (h0 : gj Y (y ++ []) w) (n : cL 263 dF 8 Y k a0 y) (a9 : qP Tryz.prog J Y (uV dF) (fun (r : Bool) => (.bool r)) f1) (hm : kN a0 f1 = some r) :
    dR false Tryz.prog 301 [k, J] w Y (y ++ []) (fun v L1 μ1 => ∃ P, v = P ∧ L1 = [] ∧ Sl dF 8 μ1 P (r)) := by
  refine nm h0 42 func301 rfl (fun d => sg (Wa (lr (Wm (Wm (bS hm fun O d7 hm => VE (Eg d call304 ((wc k a0 J f1 _ _ (n.sl ev d.aP (fun b o q => d.at_ (Ml q))) (a9.mono d.aP) d7)) (fun W3 d => Wa (ln ?_)))))))))
  refine aW (sg (Wm (Wi rfl (ln (CI hm rfl (fun d6 hm => ?_) (fun d6 hm => ?_))))))
  · refine sg (Wm (Wa (lt (bU ?_))))
    obtain rfl := sj hm
    refine dH (v := k) rfl rfl ?_
    obtain ⟨aa, d, d2, p, d8⟩ := ST.ms ev d n
    exact ⟨_, _, _, rfl, (d.ej Sn), d2, p, (ST.cJ d (eE.mem Sn)), k, rfl, rfl, d8⟩
  refine kS (Wm (Wi rfl (Wa (ln (dN (fB (fun m E W => ∃ a2 K G H A, ST false (keys (y ++ [])) w W Y (K ++ A) ∧ E 0 = k ∧ E 1 = J ∧ E 5 = (.int .i64 G) ∧ E 6 = (.int .i64 H) ∧ cL 263 dF 8 Y k a2 K ∧ gk f1 m a2 G H = some r) bL ⟨a0, y, O, ((IntKind.i64.wrap (O + 1))), _, (d.aF St), rfl, rfl, rfl, rfl, n, hm⟩ ?_))))))
  rintro m E W ⟨a2, K, G, H, A, d, t, Z, I, N, j, c⟩
  cases m with
  | zero => rw [gk] at c; cases c
  | succ d4 =>
    refine aW (sg (Wh N (Wh t (V (lN underlying108 rfl j) (Wi rfl (ln (CI c rfl (fun b6 c => ?_) (fun b6 c => ?_))))))))
    · refine kn (aW (CJ c (fun a3 E W => ∃ M F, ST false (keys (y ++ [])) w W Y (M ++ F) ∧ E 0 = k ∧ E 1 = J ∧ E 5 = (.int .i64 a3.2) ∧ E 6 = (.int .i64 H) ∧ cL 263 dF 8 Y k a3.1 M) (fun a3 g => ?_) ?_))
      · refine bg (Wh t (Wh N (bS g fun a s g => VQ (cX (i := H) dF.out underlying108 sizeOf263 rfl rfl j (bV s) (bQ s)) (fun f5 ⟨_, ⟨f8, f9, rfl, Q, T⟩, c1, e1⟩ => V (aH rfl (bE (gf.hp _) (c1.mono (ep (fun b o q => d.has.2 b o (Ml q)))) isAgg263 sizeOf263)) (VE (bR d zeroValue263 (fun e7 f3 d => ?_)))))))
        obtain ⟨u, B, rfl⟩ := Q.form
        obtain ⟨x, D, rfl⟩ := T.form
        let l := (C7 a.aA.aC a.aA.aJ a.aI.Op a.aI.K a.aI.aA.aC a.aI.aA.aJ u a.aI.Kids.length B x a.eS.length D)
        refine VO (aX (.agg l.toArray) (l.toArray) d rfl rfl sizeOf263 oc nb rfl (fun e8 d => lr (Wh Z (VA d Mh l isAgg263 sizeOf263 (bS g fun f7 c2 g => VE (rT a d a9 (bO.refl _) (uV.mk ev (dF.mk ⟨(.slice u a.aI.Kids.length B), (.slice x a.eS.length D), rfl, Q, T⟩) d.aP) rfl (nK rfl) c2 (fun e9 d => V (gn rfl) (ln (CI g rfl (fun b7 g => ?_) (fun b7 g => ?_))))))))))
        · refine sg (Wh t (Wh I (VA d Mh l isAgg263 sizeOf263 (bS g fun g3 U g => VQ (cX (i := G) dF.out underlying108 sizeOf263 rfl rfl j (bV U) (bQ U)) (fun f6 ⟨_, ⟨g0, g1, rfl, e3, e4⟩, e2, b9⟩ => ?_)))))
          replace d := d.perm (Nr (Qb Qz) Nz)
          refine VO (ke (x1 := a) ev d j rfl rfl (dF.mk ⟨(.slice u a.aI.Kids.length B), (.slice x a.eS.length D), rfl, Q, T⟩) b9 (bQ U) sizeOf263 (fun f0 c7 d b4 => ln ?_))
          replace d := d.aF (Kr (Db St))
          refine aU (Wh I (Wi rfl (Wa (bK (bY (aR ?_))))))
          obtain rfl := sj g
          exact ⟨c7, _, (d.aF St), t, Z, rfl, N, b4⟩
        refine cZ (bY (aR ?_))
        obtain rfl := sj g
        exact ⟨K, _, (d.aF (Db St)), t, Z, I, N, j⟩
      rintro ⟨d3, d5⟩ E W ⟨M, F, d, c8, c9, d0, d1, c3⟩ c0
      exact aU (Wh d1 (Wi rfl (Wa (ln ⟨d4, Nat.lt_succ_self _, d3, M, d5, ((IntKind.i64.wrap (H + 1))), _, (d.aF St), c8, c9, d0, rfl, c3, c0⟩))))
    refine fI (fD (fD (kz (aR (sg (Wh t (Wh I (bS c fun _ a4 c => VQ (vn (i := G) underlying108 sizeOf263 rfl rfl j (oM a4) (oL a4)) (fun g2 c4 => VO (zg (z := (⟨K0, (⟨0, 0, K0, []⟩ : Formula), []⟩ : gL)) (zs := [(.string zS), (.string zS), (.int .i64 0), (.int .i64 0), (.string zS), (.string zS), (.slice none 0 0), (.slice none 0 0)]) ev d j (dF.mk ⟨(.slice none 0 0), (.slice none 0 0), rfl, (Sl.nil _ _ _), (Sl.nil _ _ _)⟩) underlying108 zeroValue263 c4 rfl rfl (fun f2 e6 d b5 => lr (Wh t ?_))))))))))))
    refine Wh I (bS c fun _ a5 c => VQ (xa (i := G) underlying108 sizeOf263 rfl rfl b5 (oM a5) (oL a5)) (fun L c5 => Wa (lt ?_)))
    obtain rfl := sj c
    refine dH (v := L) rfl rfl ?_
    obtain ⟨g7, d, R, h, c6⟩ := ST.ms ev d c5
    exact ⟨_, _, _, rfl, (d.ej Sn), R, h, (ST.cJ d (eE.mem Sn)), L, rfl, rfl, c6⟩
theorem Am (c : gL) (a i : Value) (k : Nat) (u : aB) (r : Bool) (w : World) (j : Sl aD 5 (hp w) a c.aI.Kids) (g : Sl (Pl aG) 9 (hp w) i c.eS) (t : At (hp w) (.pointer (some ⟨k, 0, none⟩)) (aG u)) (hm : lj c u = some r) :
    bF true Tryz.prog 303 [(.agg #[(.string c.aA.aC), (.string c.aA.aJ), (.int .i64 c.aI.Op), (.int .i64 c.aI.K), (.string c.aI.aA.aC), (.string c.aI.aA.aJ), a, i]), (.pointer (some ⟨k, 0, none⟩))] w (.bool r) := by
  refine cG 9 func303 rfl (fun b => sg ?_)
  obtain ⟨B, D, rfl⟩ := j.form
  obtain ⟨x, y, rfl⟩ := g.form
  refine VE (bX b rfl (fun G I b => Wa (lr (Wf Cw (VB b Mh rfl rfl isAgg22 (V (aH rfl (bE b.has t isAgg53 sizeOf53)) (bS hm fun J z hm => VE (Eg b call201 ((uA (.slice x c.eS.length y) c.eS u _ _ (g.mono (Pl.mono _) b.aP) z)) (fun H b => V (gn rfl) (Wa (ln ?_)))))))))))
  exact bH (rQ hm b)
theorem Dx (i : cR) (a g : Value) (y : aB) (r : List gL) (w : World) {G : bW} (q : gj G [] w) (j : Sl bN 15 G a i.aT) (c : Sl dF 8 G g i.bP) (hm : rn i y = some r) :
    dR false Tryz.prog 209 [(.agg #[(.string i.Name), a, g]), (.agg (aG y).toArray)] w G [] (fun v L1 μ1 => ∃ n, v = n ∧ L1 = [] ∧ Sl dF 8 μ1 n (r)) := by
  refine nm q 10 func209 rfl (fun b => sg ?_)
  obtain ⟨A1, c2, rfl⟩ := j.form
  obtain ⟨Y, p, rfl⟩ := c.form
  refine VE (bX b rfl (fun W6 P b => VE (bX b rfl (fun W8 z b => Wa (lr (Wf Cq (VB b (Mt Mh) rfl rfl isAgg108 (bS hm fun I N hm => ?_))))))))
  refine VE (eD b (List.Perm.refl _) call302 (fun m => dR.dK (ya (.slice Y i.bP.length p) i.bP _ _ m (c.mono ev.mono (bO.refl _)) N)) ?_ (L0 := []))
  rintro _ c3 c6 O b B d ⟨a5, Z, k, rfl, T⟩
  obtain rfl := k.symm
  replace b := b.perm (Tr Tn)
  refine V (lF (by exact nK rfl) rfl) ?_
  replace b := b.perm (Nb (Pr Pz) Nz)
  obtain ⟨c7, b, u, h, M⟩ := ST.DR (R := [(z, Ol (aG y) 53)]) b
  have K := At.of (M _ _ (.head _)) _ rfl
  refine bS hm fun c1 Q hm => ?_
  refine VE (eD b (Cr Qz Cn) call301 (fun m => (vr a5 I Z (.func (.func 303) #[] #[(.pointer (some ⟨z, 0, none⟩))]) (fun (x : gL) => lj x y) _ _ m (T.mono ev u) ⟨303, #[], #[(.pointer (some ⟨z, 0, none⟩))], rfl, call303, fun W x vs r A s hm => by obtain ⟨_, rfl, a3⟩ := s; obtain ⟨J, L, rfl, E, F⟩ := a3.out; exact (Am x J L z y r W E F (K.mono ((bO.refl _).trans A)) hm).dK⟩ Q)) ?_)
  rintro _ c5 c8 b6 b D l ⟨H, t, rfl, U⟩
  obtain rfl := t.symm
  refine Wa (ln ?_)
  replace b := b.aF (Db St)
  refine bH ?_
  obtain rfl := sj hm
  exact dH (v := H) rfl rfl ⟨_, _, _, rfl, (b.ej Sn), ((B.trans u).trans D), ((d.trans h).trans l), (ST.cJ b (eE.mem Sn)), H, rfl, rfl, U⟩
theorem wZ (T : Formula → Int → Option ((Int × Int))) (n : ∀ (t : Formula) (j : Value) (I : Int) (r : (Int × Int)) (w : World) (g : Sl aD 5 (hp w) j t.Kids), T t I = some r → bF false Tryz.prog 308 [(.agg #[(.int .i64 t.Op), (.int .i64 t.K), (.string t.aA.aC), (.string t.aA.aJ), j]), (.int .i64 I)] w (.tuple #[(.int .i64 r.1), (.int .i64 r.2)])) (t : Formula) (j : Value) (I : Int) (r : (Int × Int)) (w : World) (g : Sl aD 5 (hp w) j t.Kids) (hm : oR T t I = some r) :
    bF false Tryz.prog 308 [(.agg #[(.int .i64 t.Op), (.int .i64 t.K), (.string t.aA.aC), (.string t.aA.aJ), j]), (.int .i64 I)] w (.tuple #[(.int .i64 r.1), (.int .i64 r.2)]) := by
  refine cG 40 func308 rfl (fun b => sg ?_)
  obtain ⟨A1, c2, rfl⟩ := g.form
  refine VE (bX b rfl (fun W4 P b => Wa (Wa (lr (Wa (Wa (lS (Wf fu ?_))))))))
  refine VB b Mh rfl rfl isAgg111 (V (cU underlying111 rfl g) (Wm (ln ?_)))
  replace b := b.aF (Db St)
  refine CJ hm (fun Q E W => ∃ a2, ST false cA w W (hp w) a2 ∧ E 6 = (.int .i64 Q.1) ∧ E 7 = (.int .i64 Q.2)) (fun Q a5 => ?_) ?_
  · refine cK (fun i E W => ∃ y z J, (E 15 = .int .i64 (i : Nat) ∧ E 14 = .int .i64 (t.Kids.length : Nat)) ∧ ST false cA w W (hp w) J ∧ E 1 = (.int .i64 I) ∧ E 6 = (.int .i64 y) ∧ E 7 = (.int .i64 z) ∧ E 13 = (.slice A1 t.Kids.length c2) ∧ iI I T (t.Kids.drop i) y z = some Q) t.Kids.length g.len ⟨1, 0, _, ⟨rfl, rfl⟩, (b.aF St), rfl, rfl, rfl, rfl, a5⟩ dc dc dc (fun _ _ _ h => by obtain ⟨_, _, _, l, _⟩ := h; exact l) ?_ ?_
    · rintro F E W a3 ⟨y, z, J, ⟨d, m⟩, b, G, x, H, K, a⟩
      obtain ⟨c, c6, q, p, a9⟩ := cC a3
      rw [q] at a
      refine bg (VQ (ei (i := (F : Int)) (x0 := c) aD.out underlying111 sizeOf113 K d g (Int.natCast_nonneg _) p) (fun c4 ⟨_, ⟨c5, rfl, N⟩, Y⟩ => V (aH rfl (bE b.has Y isAgg113 sizeOf113)) (VE (bR b zeroValue113 (fun R c3 b => ?_)))))
      obtain ⟨B, D, rfl⟩ := N.form
      let a0 := (C1 c.Op c.K c.aA.aC c.aA.aJ B c.Kids.length D)
      refine VO (aX (.agg a0.toArray) (a0.toArray) b rfl rfl sizeOf113 oc nb rfl (fun c0 b => lS (Wh x (Wh G (Wi rfl (ln (CI a rfl (fun U a => ?_) (fun U a => ?_))))))))
      · refine fI (fD (Lp (by simp) (fD (kz (aR ?_)))))
        obtain rfl := sj a
        exact ⟨_, (b.aF (Db St)), x, H⟩
      refine kg (VA b Mh a0 isAgg113 sizeOf113 (Wh G (Wh x (Wi rfl (bS a fun M Z a => VE (Eg b call308 ((n c (.slice B c.Kids.length D) ((IntKind.i64.wrap (I - y))) _ _ (N.mono aN.mono b.aP) Z)) (fun c1 b => Wm (Wx rfl (Wx rfl (Wa (Wa ?_)))))))))))
      refine ln ?_
      replace b := b.aF (Db St)
      exact aU (Wh x (Wm (Wi rfl (Wh H (Wm (V (HC (k := .i64) rfl rfl) (Wa (Wa (bK (bY (aR ⟨d, ((IntKind.i64.wrap (y + M.1))), ((if M.2 > z then M.2 else z)), _, ⟨rfl, m⟩, (b.aF St), G, rfl, rfl, K, (by rw [a9]; exact a)⟩)))))))))))
    rintro E W ⟨y, z, J, ⟨d, m⟩, b, G, x, H, K, a⟩
    rw [List.drop_length] at a
    refine aR ?_
    obtain rfl := sj a
    exact ⟨_, (b.aF St), x, H⟩
  rintro ⟨L, O⟩ E W ⟨a2, b, s, A⟩ a4
  refine sg (Wh s (Wh A (Wi rfl (Wa (Wa (lt ?_))))))
  obtain rfl := sj a4
  exact uQ (v := (.int .i64 L)) (u := (.int .i64 ((IntKind.i64.wrap (O + 1))))) rfl rfl rfl ⟨rfl, b.ex⟩
theorem vQ : ∀ (n : Nat) (c : Formula) (a : Value) (i : Int) (r : (Int × Int)) (w : World) (g : Sl aD 5 (hp w) a c.Kids) (_ : gM n c i = some r),
    bF false Tryz.prog 308 [(.agg #[(.int .i64 c.Op), (.int .i64 c.K), (.string c.aA.aC), (.string c.aA.aJ), a]), (.int .i64 i)] w (.tuple #[(.int .i64 r.1), (.int .i64 r.2)])
  | 0 => by intros; rename_i h; simp only [gM] at h; cases h
  | n + 1 => wZ (gM n) (vQ n)
theorem Cl (a : Formula) (g : Value) (r : (Int × Int)) (w : World) (c : Sl aD 5 (hp w) g a.Kids) (hm : ql a = some r) :
    bF false Tryz.prog 214 [(.agg #[(.int .i64 a.Op), (.int .i64 a.K), (.string a.aA.aC), (.string a.aA.aJ), g])] w (.tuple #[(.int .i64 r.1), (.int .i64 r.2)]) := by
  refine cG 15 func214 rfl (fun b => sg ?_)
  obtain ⟨i, j, rfl⟩ := c.form
  refine VE (bX b rfl (fun y B b => Wa (Wa (lr (VA b Mh (C1 a.Op a.K a.aA.aC a.aA.aJ i a.Kids.length j) isAgg113 sizeOf113 (bS hm fun x t hm => VE (Eg b call308 (((vQ bL) a (.slice i a.Kids.length j) 4096 _ _ (c.mono aN.mono b.aP) t)) (fun z b => Wm (Wx rfl (Wx rfl (Wa (Wa ?_))))))))))))
  refine ln ?_
  replace b := b.aF (Db St)
  refine aW (sg (Wm (Wi rfl (ln (CI hm rfl (fun k hm => ?_) (fun k hm => ?_))))))
  · refine sg (Wa (Wa (lt (bU ?_))))
    obtain rfl := sj hm
    exact uQ (v := (.int .i64 0)) (u := (.int .i64 0)) rfl rfl rfl ⟨rfl, b.ex⟩
  refine kg (Wm (Wm (Wa (Wa (lt ?_)))))
  obtain rfl := sj hm
  exact uQ (v := (.int .i64 x.1)) (u := (.int .i64 x.2)) rfl rfl rfl ⟨rfl, b.ex⟩
theorem Ch (a : Formula) (H : Value) (r : Bool) (w : World) (t : Sl aD 5 (hp w) H a.Kids) (hm : qD a = some r) :
    bF true Tryz.prog 309 [(.agg #[(.int .i64 a.Op), (.int .i64 a.K), (.string a.aA.aC), (.string a.aA.aJ), H])] w (.bool r) := by
  refine cG 63 func309 rfl (fun b => sg ?_)
  obtain ⟨A1, c2, rfl⟩ := t.form
  let l := (C1 a.Op a.K a.aA.aC a.aA.aJ A1 a.Kids.length c2)
  refine VE (bX b rfl (fun W4 N b => Wa (lr (V (dJ (v := (.agg (aM K0).toArray)) ju (cN zeroValue28 underlying28 (B3 _ underlying28) kr)) (VE (bR b zeroValue28 (fun W6 A b => VO (aX (.agg (aM K0).toArray) ((aM K0).toArray) b rfl rfl sizeOf28 (pp K0) nb rfl (fun W7 b => lS (Wf fq ?_))))))))))
  refine VB b (Mt Mh) rfl rfl isAgg3 (ln (bg (Wi rfl (Wa (ln (CI hm rfl (fun d9 hm => ?_) (fun d9 hm => ?_)))))))
  · refine sg (Wf kU (VA b (Mt Mh) (aM a.aA) isAgg28 sizeOf28 (bS hm fun f7 e5 hm => VE (Eg b call254 ((nf a.aA _ _  e5)) (fun f5 b => Wm (LJ hm (fun d2 E W => ∃ O, ST true cA w W (hp w) ((N, Ol l 113) :: O) ∧ E 1 = (.pointer (some ⟨N, 0, none⟩)) ∧ E 2 = (.bool false) ∧ E 17 = (.bool d2)) 5 ?_ (fun d2 J a4 => ?_)))))))
    · rintro f8 E W ⟨O, b, e7, c9, e8⟩ e1
      refine Wh e8 (LJ e1 (fun d1 E W => ∃ P, ST true cA w W (hp w) P ∧ E 2 = (.bool false) ∧ E 22 = (.bool d1)) 4 ?_ (fun d1 I a3 => ?_))
      · rintro f9 E W ⟨P, b, f6, e9⟩ e2
        refine Wg e9 (lt (eF (bU ?_)))
        obtain rfl := sj e2
        exact rP b
      refine bC I (fun u I => ?_) (fun u I => ?_)
      · refine ug u (aO jm e7) (ug u (aH rfl (bA b.has Mh rfl isAgg3)) (ug u (cF rfl rfl rfl) (V (aY (cB u) rfl) ?_)))
        obtain rfl := sj I
        exact a3 _ _ ⟨_, (b.aF (Db St)), c9, rfl⟩
      refine un u (un u (un u (V (aZ (cB u) rfl) ?_)))
      obtain rfl := sj I
      exact a3 _ _ ⟨_, (b.aF (Db St)), c9, rfl⟩
    refine bC J (fun j J => ?_) (fun j J => ?_)
    · refine ug j (aO fu rfl) (ug j (aH rfl (bA b.has (Mt Mh) rfl isAgg111)) (ug j (cU underlying111 rfl t) (ug j (cF rfl rfl rfl) (V (aY (cB j) rfl) ?_))))
      obtain rfl := sj J
      exact a4 _ _ ⟨_, (b.aF (Db St)), rfl, rfl, rfl⟩
    refine un j (un j (un j (un j (V (aZ (cB j) rfl) ?_))))
    obtain rfl := sj J
    exact a4 _ _ ⟨_, (b.aF (Db St)), rfl, rfl, rfl⟩
  let a0 := (l.toArray : Array Value)
  let d : Value := (.pointer (some ⟨N, 0, none⟩))
  refine aW (CJ hm (fun L E W => ∃ R, ST true cA w W (hp w) ((A, Ol (aM K0) 28) :: ((N, Obj.cells a0 113 (0, 0)) :: R)) ∧ E 1 = d ∧ E 3 = (.pointer (some ⟨A, 0, none⟩)) ∧ E 23 = (.bool L)) (fun L G => ?_) ?_)
  · refine sg (Wi rfl (Wa (ln (CI G rfl (fun b9 G => ?_) (fun b9 G => ?_)))))
    · refine kn ?_
      obtain rfl := sj G
      exact ⟨_, (b.aF St), rfl, rfl, rfl⟩
    refine aU (Wi rfl (Wa (ln ?_)))
    obtain rfl := sj G
    exact ⟨_, (b.aF St), rfl, rfl, rfl⟩
  rintro g0 E W ⟨R, b, Q, d0, f0⟩ K
  refine CI K f0 (fun e0 K => ?_) (fun e0 K => ?_)
  · refine sg (V (aO kU Q) (VA b (Mt Mh) (aM a.aA) isAgg28 sizeOf28 (V (aH d0 (aK b.has Mh (aM K0) rfl isAgg28 sizeOf28)) (V (oa rfl rfl (fS eqGuardType28) (kC (jc _ a.aA K0))) (Wm (LJ K (fun d3 E W => ∃ c7, ST true cA w W (hp w) c7 ∧ E 34 = (.bool d3)) 4 ?_ (fun d3 M a5 => ?_)))))))
    · rintro g1 E W ⟨c7, b, f1⟩ e3
      refine Wg f1 (lt (eF (bU ?_)))
      obtain rfl := sj e3
      exact rP b
    refine bC M (fun x M => ?_) (fun x M => ?_)
    · refine ug x (aO jm Q) (ug x (aH rfl (bA b.has (Mt Mh) rfl isAgg3)) (ug x (cF rfl rfl rfl) (V (aY (cB x) rfl) ?_)))
      obtain rfl := sj M
      exact a5 _ _ ⟨_, (b.aF (Db (Db St))), rfl⟩
    refine un x (un x (un x (V (aZ (cB x) rfl) ?_)))
    obtain rfl := sj M
    exact a5 _ _ ⟨_, (b.aF (Db (Db St))), rfl⟩
  refine cZ (bY (aR (sg (V (aO fq Q) (VB b (Mt Mh) rfl rfl isAgg3 (Wi rfl (Wm (LJ K (fun F E W => ∃ c8, ST true cA w W (hp w) ((N, Obj.cells a0 113 (0, 0)) :: c8) ∧ E 1 = d ∧ E 43 = (.bool F)) 5 ?_ (fun F D h => ?_)))))))))
  · rintro g2 E W ⟨c8, b, a2, d4⟩ e4
    refine Wh d4 (LJ e4 (fun s E W => ∃ m, ST true cA w W (hp w) ((N, Obj.cells a0 113 (0, 0)) :: m) ∧ E 1 = d ∧ E 48 = (.bool s)) 4 ?_ (fun s B Z => ?_))
    · rintro f2 E W ⟨m, b, T, d5⟩ c0
      refine Wh d5 (LJ c0 (fun q E W => ∃ a9, ST true cA w W (hp w) ((N, Obj.cells a0 113 (0, 0)) :: a9) ∧ E 1 = d ∧ E 56 = (.bool q)) 7 ?_ (fun q z Y => ?_))
      · rintro f3 E W ⟨a9, b, d6, d7⟩ c1
        refine Wh d7 (LJ c1 (fun p E W => ∃ n, ST true cA w W (hp w) n ∧ E 62 = (.bool p)) 5 ?_ (fun p y U => ?_))
        · rintro f4 E W ⟨n, b, d8⟩ c3
          exact Wg d8 (lt (rQ c3 b))
        refine bC y (fun g y => ?_) (fun g y => ?_)
        · refine ug g (aO fu d6) (ug g (aH rfl (bA b.has Mh rfl isAgg111)) (ug g (cU underlying111 rfl t) (ug g (cF rfl rfl rfl) (V (aY (cB g) rfl) ?_))))
          obtain rfl := sj y
          exact U _ _ ⟨_, (b.aF (Db St)), rfl⟩
        refine un g (un g (un g (un g (V (aZ (cB g) rfl) ?_))))
        obtain rfl := sj y
        exact U _ _ ⟨_, (b.aF (Db St)), rfl⟩
      refine bC z (fun c z => ?_) (fun c z => ?_)
      · refine ug c (aO jm T) (ug c (aH rfl (bA b.has Mh rfl isAgg3)) (ug c (aO fu T) (ug c (aH rfl (bA b.has Mh rfl isAgg111)) (ug c (cU underlying111 rfl t) (ug c (cF rfl rfl rfl) (V (aY (cB c) rfl) ?_))))))
        obtain rfl := sj z
        exact Y _ _ ⟨_, (b.aF St), T, rfl⟩
      refine un c (un c (un c (un c (un c (un c (V (aZ (cB c) rfl) ?_))))))
      obtain rfl := sj z
      exact Y _ _ ⟨_, (b.aF St), T, rfl⟩
    refine bC B (fun i B => ?_) (fun i B => ?_)
    · refine ug i (aO jm a2) (ug i (aH rfl (bA b.has Mh rfl isAgg3)) (ug i (cF rfl rfl rfl) (V (aY (cB i) rfl) ?_)))
      obtain rfl := sj B
      exact Z _ _ ⟨_, (b.aF St), a2, rfl⟩
    refine un i (un i (un i (V (aZ (cB i) rfl) ?_)))
    obtain rfl := sj B
    exact Z _ _ ⟨_, (b.aF St), a2, rfl⟩
  refine bC D (fun k D => ?_) (fun k D => ?_)
  · refine ug k (aO kU Q) (ug k (aH rfl (aK b.has (Mt Mh) (aM a.aA) rfl isAgg28 sizeOf28)) (ug k (aH d0 (aK b.has Mh (aM K0) rfl isAgg28 sizeOf28)) (ug k (oa rfl rfl (fS eqGuardType28) (kC (jc _ a.aA K0))) (V (aY (cB k) rfl) ?_))))
    obtain rfl := sj D
    exact h _ _ ⟨_, (b.aF (Db St)), Q, rfl⟩
  refine un k (un k (un k (un k (V (aZ (cB k) rfl) ?_))))
  obtain rfl := sj D
  exact h _ _ ⟨_, (b.aF (Db St)), Q, rfl⟩
theorem ud (g : Value) (t : List Formula) (j : Value) (z : Formula → Option Bool) (r : Int) (w : World) (c : Sl aD 5 (hp w) g t) (B : qP Tryz.prog j (hp w) (uV aD) (fun (r : Bool) => (.bool r)) z) (hm : ml t z = some r) :
    bF false Tryz.prog 352 [g, j] w (.int .i64 r) := by
  refine cG 19 func352 rfl (fun b => sg (Wa (lS (Wm (V (cU underlying111 rfl c) (Wm (ln (cK (fun i E W => ∃ k, (E 8 = .int .i64 (i : Nat) ∧ E 7 = .int .i64 (t.length : Nat)) ∧ ST false cA w W (hp w) k ∧ E 0 = g ∧ E 1 = j ∧ fM z (t.drop i) i = some r) t.length c.len ⟨_, ⟨rfl, rfl⟩, (b.aF St), rfl, rfl, hm⟩ dc dc dc (fun _ _ _ h => by obtain ⟨_, l, _⟩ := h; exact l) ?_ ?_))))))))
  · rintro Q E W G ⟨k, ⟨d, m⟩, b, u, x, a⟩
    obtain ⟨y, U, M, K, N⟩ := cC G
    rw [M] at a
    refine bg (Wh d (Wa (lr (Wh x (Wh u (Wm (VQ (ei (i := (Q : Int)) (x0 := y) aD.out underlying111 sizeOf113 rfl rfl c (Int.natCast_nonneg _) K) (fun Z ⟨_, ⟨T, rfl, J⟩, H⟩ => V (aH rfl (bE b.has H isAgg113 sizeOf113)) (bS a fun n I a => ?_)))))))))
    refine VE (rT y b B (bO.refl _) (uV.mk aN (aD.mk ⟨T, rfl, J⟩) b.aP) rfl (nK rfl) I (fun Y b => ln (CI a rfl (fun D a => ?_) (fun D a => ?_))))
    · refine sg (Wm (Wa (lt (eF (bU (eF (bU ?_)))))))
      obtain rfl := sj a
      exact rP b
    exact cZ (bY (aR ⟨d, _, ⟨rfl, m⟩, (b.aF St), u, x, (by rw [N]; exact a)⟩))
  rintro E W ⟨k, ⟨d, m⟩, b, u, x, a⟩
  rw [List.drop_length] at a
  exact aR (sg (Wa (lt (rQ a b))))
theorem nZ (a : Value) (g : List Formula) (c : Value) (i : Formula → Option Bool) (r : Bool) (w : World) (j : Sl aD 5 (hp w) a g) (k : qP Tryz.prog c (hp w) (uV aD) (fun (r : Bool) => (.bool r)) i) (hm : gz g i = some r) :
    bF false Tryz.prog 310 [a, c] w (.bool r) := by
  refine cG 9 func310 rfl (fun b => sg (Wa (lr (Wm (Wm (bS hm fun x t hm => VE (Eg b call352 ((ud a g c i _ _ (j.mono aN.mono b.aP) (k.mono b.aP) t)) (fun u b => Wi rfl (Wa (bK ?_))))))))))
  exact aR (bH (rQ hm b))
theorem zd (i : Formula → Option Bool) (t : ∀ (c : Formula) (a : Value) (r : Bool) (w : World) (g : Sl aD 5 (hp w) a c.Kids), i c = some r → bF false Tryz.prog 215 [(.agg #[(.int .i64 c.Op), (.int .i64 c.K), (.string c.aA.aC), (.string c.aA.aJ), a])] w (.bool r)) (c : Formula) (a : Value) (r : Bool) (w : World) (g : Sl aD 5 (hp w) a c.Kids) (hm : nI i c = some r) :
    bF false Tryz.prog 311 [(.agg #[(.int .i64 c.Op), (.int .i64 c.K), (.string c.aA.aC), (.string c.aA.aJ), a])] w (.bool r) := by
  refine cG 6 func311 rfl (fun b => sg ?_)
  obtain ⟨j, k, rfl⟩ := g.form
  refine VE (bX b rfl (fun x z b => Wa (lr (VA b Mh (C1 c.Op c.K c.aA.aC c.aA.aJ j c.Kids.length k) isAgg113 sizeOf113 (bS hm fun B u hm => VE (Eg b call215 ((t c (.slice j c.Kids.length k) _ _ (g.mono aN.mono b.aP) u)) (fun y b => V (gn rfl) (Wa (ln ?_)))))))))
  exact bH (rQ hm b)
theorem xd (z : Formula → Option Bool) (T : ∀ (a : Formula) (g : Value) (r : Bool) (w : World) (c : Sl aD 5 (hp w) g a.Kids), z a = some r → bF false Tryz.prog 215 [(.agg #[(.int .i64 a.Op), (.int .i64 a.K), (.string a.aA.aC), (.string a.aA.aJ), g])] w (.bool r)) (a : Formula) (g : Value) (r : Bool) (w : World) (c : Sl aD 5 (hp w) g a.Kids) (hm : oQ z a = some r) :
    bF false Tryz.prog 215 [(.agg #[(.int .i64 a.Op), (.int .i64 a.K), (.string a.aA.aC), (.string a.aA.aJ), g])] w (.bool r) := by
  refine cG 17 func215 rfl (fun b => sg ?_)
  obtain ⟨B, D, rfl⟩ := c.form
  let a0 := (C1 a.Op a.K a.aA.aC a.aA.aJ B a.Kids.length D)
  refine VE (bX b rfl (fun W4 U b => Wa (lr (VA b Mh a0 isAgg113 sizeOf113 (bS hm fun v a3 hm => VE (Eg b call309 (bF.dK (Ch a (.slice B a.Kids.length D) _ _ (c.mono aN.mono b.aP) a3)) (fun W7 b => Wm (LJ hm (fun K E W => ∃ G, ST false cA w W (hp w) ((U, Ol a0 113) :: G) ∧ E 1 = (.pointer (some ⟨U, 0, none⟩)) ∧ E 2 = (.bool false) ∧ E 10 = (.bool K)) 5 ?_ (fun K t y => ?_)))))))))
  · rintro A E W ⟨G, b, Y, I, Z⟩ M
    refine Wh Z (LJ M (fun J E W => ∃ H, ST false cA w W (hp w) H ∧ E 2 = (.bool false) ∧ E 16 = (.bool J)) 5 ?_ (fun J k u => ?_))
    · rintro q E W ⟨H, b, n, d⟩ N
      exact Wg d (lt (rQ N b))
    refine bC k (fun i k => ?_) (fun i k => ?_)
    · refine ug i (aO fu Y) (ug i (aH rfl (bA b.has Mh rfl isAgg111)) (bS k fun p Q k => kf i (Eg b call310 ((nZ (.slice B a.Kids.length D) a.Kids (.func (.func 311) #[] #[]) (fun (x : Formula) => nI z x) _ _ (c.mono aN.mono b.aP) ⟨311, #[], #[], rfl, call311, fun W x vs r s h hm => by obtain ⟨_, rfl, a2⟩ := h; obtain ⟨m, rfl, l⟩ := a2.out; exact zd z T x m r W l hm⟩ Q)) (fun a5 b => ug i (gn rfl) (V (aY (cB i) rfl) ?_)))))
      obtain rfl := sj k
      exact u _ _ ⟨_, (b.aF (Db St)), I, rfl⟩
    refine un i (un i (un i (un i (V (aZ (cB i) rfl) ?_))))
    obtain rfl := sj k
    exact u _ _ ⟨_, (b.aF (Db St)), I, rfl⟩
  refine bC t (fun j t => ?_) (fun j t => ?_)
  · refine ug j (aO fu rfl) (ug j (aH rfl (bA b.has Mh rfl isAgg111)) (ug j (cU underlying111 rfl c) (ug j (cF rfl rfl rfl) (V (aY (cB j) rfl) ?_))))
    obtain rfl := sj t
    exact y _ _ ⟨_, (b.aF St), rfl, rfl, rfl⟩
  refine un j (un j (un j (un j (V (aZ (cB j) rfl) ?_))))
  obtain rfl := sj t
  exact y _ _ ⟨_, (b.aF St), rfl, rfl, rfl⟩
theorem vz : ∀ (n : Nat) (c : Formula) (a : Value) (r : Bool) (w : World) (g : Sl aD 5 (hp w) a c.Kids) (_ : kl n c = some r),
    bF false Tryz.prog 215 [(.agg #[(.int .i64 c.Op), (.int .i64 c.K), (.string c.aA.aC), (.string c.aA.aJ), a])] w (.bool r)
  | 0 => by intros; rename_i h; simp only [kl] at h; cases h
  | n + 1 => xd (kl n) (vz n)
theorem pE (a : Formula) (k : Value) (r : Bool) (w : World) (c : Sl aD 5 (hp w) k a.Kids) (hm : ku a = some r) :
    bF false Tryz.prog 107 [(.agg #[(.int .i64 a.Op), (.int .i64 a.K), (.string a.aA.aC), (.string a.aA.aJ), k])] w (.bool r) := by
  refine cG 24 func107 rfl (fun b => sg ?_)
  obtain ⟨y, z, rfl⟩ := c.form
  let a0 := (C1 a.Op a.K a.aA.aC a.aA.aJ y a.Kids.length z)
  refine VE (bX b rfl (fun W4 H b => Wa (lr (VA b Mh a0 isAgg113 sizeOf113 (bS hm fun n a9 hm => VE (Eg b call214 ((Cl a (.slice y a.Kids.length z) _ _ (c.mono aN.mono b.aP) a9)) (fun W7 b => Wm (Wx rfl (Wx rfl (Wa (Wa (bK ?_))))))))))))
  refine aR (sg (Wm (Wi rfl (Wm (LJ hm (fun Y E W => ∃ I, ST false cA w W (hp w) ((H, Ol a0 113) :: I) ∧ E 1 = (.pointer (some ⟨H, 0, none⟩)) ∧ E 2 = (.bool false) ∧ E 4 = (.int .i64 n.2) ∧ E 15 = (.bool Y)) 3 ?_ (fun Y x G => ?_))))))
  · rintro F E W ⟨I, b, M, N, a4, a5⟩ Z
    refine Wh a5 (LJ Z (fun U E W => ∃ J, ST false cA w W (hp w) ((H, Ol a0 113) :: J) ∧ E 1 = (.pointer (some ⟨H, 0, none⟩)) ∧ E 2 = (.bool false) ∧ E 19 = (.bool U)) 3 ?_ (fun U u D => ?_))
    · rintro v E W ⟨J, b, h, Q, l⟩ d
      refine Wh l (LJ d (fun T E W => ∃ K, ST false cA w W (hp w) K ∧ E 2 = (.bool false) ∧ E 23 = (.bool T)) 3 ?_ (fun T j B => ?_))
      · rintro A E W ⟨K, b, q, m⟩ a2
        exact Wg m (lt (rQ a2 b))
      refine bC j (fun i j => ?_) (fun i j => ?_)
      · refine ug i (aH h (aK b.has Mh a0 rfl isAgg113 sizeOf113)) (bS j fun s a3 j => kf i (Eg b call215 (((vz bL) a (.slice y a.Kids.length z) _ _ (c.mono aN.mono b.aP) a3)) (fun p b => V (aY (cB i) rfl) ?_)))
        obtain rfl := sj j
        exact B _ _ ⟨_, (b.aF (Db St)), Q, rfl⟩
      refine un i (un i (V (aZ (cB i) rfl) ?_))
      obtain rfl := sj j
      exact B _ _ ⟨_, (b.aF (Db St)), Q, rfl⟩
    refine bC u (fun g u => ?_) (fun g u => ?_)
    · refine ug g (aQ a4) (ug g (cF rfl rfl rfl) (V (aY (cB g) rfl) ?_))
      obtain rfl := sj u
      exact D _ _ ⟨_, (b.aF St), M, N, rfl⟩
    refine un g (un g (V (aZ (cB g) rfl) ?_))
    obtain rfl := sj u
    exact D _ _ ⟨_, (b.aF St), M, N, rfl⟩
  refine bC x (fun t x => ?_) (fun t x => ?_)
  · refine ug t (aQ rfl) (ug t (cF rfl rfl rfl) (V (aY (cB t) rfl) ?_))
    obtain rfl := sj x
    exact G _ _ ⟨_, (b.aF St), rfl, rfl, rfl, rfl⟩
  refine un t (un t (V (aZ (cB t) rfl) ?_))
  obtain rfl := sj x
  exact G _ _ ⟨_, (b.aF St), rfl, rfl, rfl, rfl⟩
theorem te (i : Formula) (g : Value) (x : Int) (r : Bool) (w : World) (c : Sl aD 5 (hp w) g i.Kids) (hm : mV i x = some r) :
    bF true Tryz.prog 433 [(.agg #[(.int .i64 i.Op), (.int .i64 i.K), (.string i.aA.aC), (.string i.aA.aJ), g]), (.int .i64 x)] w (.bool r) := by
  refine cG 15 func433 rfl (fun b => sg ?_)
  obtain ⟨B, D, rfl⟩ := c.form
  refine VE (bX b rfl (fun G H b => Wa (lr (Wf fq (VB b Mh rfl rfl isAgg3 (Wm (Wi rfl (Wm (LJ hm (fun t E W => ∃ u, ST true cA w W (hp w) u ∧ E 4 = (.bool false) ∧ E 14 = (.bool t)) 5 ?_ (fun t j k => ?_))))))))))
  · rintro J E W ⟨u, b, I, y⟩ z
    exact Wg y (lt (rQ z b))
  refine bC j (fun a j => ?_) (fun a j => ?_)
  · refine ug a (aO fu rfl) (ug a (aH rfl (bA b.has Mh rfl isAgg111)) (ug a (cU underlying111 rfl c) (ug a (cF rfl rfl rfl) (V (aY (cB a) rfl) ?_))))
    obtain rfl := sj j
    exact k _ _ ⟨_, (b.aF (Db St)), rfl, rfl⟩
  refine un a (un a (un a (un a (V (aZ (cB a) rfl) ?_))))
  obtain rfl := sj j
  exact k _ _ ⟨_, (b.aF (Db St)), rfl, rfl⟩
theorem Bn (r : Formula) (w : World) {c : bW} (i : gj c [] w) (hm : rV  = some r) :
    dR true Tryz.prog 434 [] w c [] (fun v g j => ∃ a, v = (.agg #[(.int .i64 ((r).Op)), (.int .i64 ((r).K)), (.string (((r).aA).aC)), (.string (((r).aA).aJ)), a]) ∧ g = [] ∧ Sl aD 5 j a ((r).Kids)) := by
  refine nm i 2 func434 rfl (fun b => sg (VE (bR b zeroValue113 (fun k u b => lr (V (dJ (v := (.agg vJ.toArray)) (dZ rfl) (cN zeroValue113 underlying113 (jZ _ underlying113) kr)) (VO (aX (.agg vJ.toArray) (vJ.toArray) b rfl rfl sizeOf113 oc nb rfl (fun t b => lt ?_))))))))
  obtain rfl := sj hm
  exact fA (v := (.agg vJ.toArray)) rfl rfl (aK b.has Mh vJ rfl isAgg113 sizeOf113) ⟨_, _, _, rfl, (b.ej Sn), (bO.refl _), Lo.refl, (ST.cJ b (eE.mem Sn)), (.slice none 0 0), rfl, rfl, (Sl.nil _ _ _)⟩
theorem Cy (r : Formula) (w : World) {c : bW} (i : gj c [] w) (hm : tj  = some r) :
    dR true Tryz.prog 435 [] w c [] (fun v g j => ∃ a, v = (.agg #[(.int .i64 ((r).Op)), (.int .i64 ((r).K)), (.string (((r).aA).aC)), (.string (((r).aA).aJ)), a]) ∧ g = [] ∧ Sl aD 5 j a ((r).Kids)) := by
  refine nm i 2 func435 rfl (fun b => sg (VE (bR b zeroValue113 (fun k u b => lr (V (dJ (v := (.agg zP.toArray)) (dZ rfl) (cN zeroValue113 underlying113 (jZ _ underlying113) kr)) (VO (aX (.agg zP.toArray) (zP.toArray) b rfl rfl sizeOf113 oc nb rfl (fun t b => lt ?_))))))))
  obtain rfl := sj hm
  exact fA (v := (.agg zP.toArray)) rfl rfl (aK b.has Mh zP rfl isAgg113 sizeOf113) ⟨_, _, _, rfl, (b.ej Sn), (bO.refl _), Lo.refl, (ST.cJ b (eE.mem Sn)), (.slice none 0 0), rfl, rfl, (Sl.nil _ _ _)⟩
theorem DA (T : Int) (J : Value) (M r : List Formula) (w : World) {Q : bW} (h0 : gj Q [] w) (I : Sl aD 5 Q J M) (hm : tZ T M = some r) :
    dR true Tryz.prog 437 [(.int .i64 T), J] w Q [] (fun v L1 μ1 => ∃ q, v = q ∧ L1 = [] ∧ Sl aD 5 μ1 q (r)) := by
  refine nm h0 28 func437 rfl (fun b => sg (Wa (lr (Wa (lS (Wm ?_))))))
  refine V (cU underlying111 rfl I) (Wm (ln (cK (fun i E W => ∃ t G k H, (E 10 = .int .i64 (i : Nat) ∧ E 9 = .int .i64 (M.length : Nat)) ∧ ST true (keys []) w W Q (k ++ H) ∧ E 0 = (.int .i64 T) ∧ E 5 = t ∧ E 8 = J ∧ cL 113 aD 5 Q t G k ∧ jH T (M.drop i) G = some r) M.length I.len ⟨(.slice none 0 0), ([]), [], _, ⟨rfl, rfl⟩, (b.aF St), rfl, rfl, rfl, (cL.nil _ _ _ _), hm⟩ dc dc dc (fun _ _ _ h => by obtain ⟨_, _, _, _, n, _⟩ := h; exact n) ?_ ?_)))
  · rintro b5 E W a4 ⟨t, G, k, H, ⟨m, p⟩, b, x, y, z, u, c⟩
    obtain ⟨a, b7, F, A, K⟩ := cC a4
    rw [F] at c
    refine bg (VQ (ei (i := (b5 : Int)) (x0 := a) aD.out underlying111 sizeOf113 z m I (Int.natCast_nonneg _) A) (fun c8 ⟨_, ⟨c9, rfl, D⟩, a5⟩ => V (aH rfl (bE b.has a5 isAgg113 sizeOf113)) (VE (bR b zeroValue113 (fun c0 c5 b => ?_)))))
    obtain ⟨g, j, rfl⟩ := D.form
    let a0 := (C1 a.Op a.K a.aA.aC a.aA.aJ g a.Kids.length j)
    refine VO (aX (.agg a0.toArray) (a0.toArray) b rfl rfl sizeOf113 oc nb rfl (fun c1 b => lr (Wf fq (VB b Mh rfl rfl isAgg3 (Wh x (Wi rfl (ln (CI c rfl (fun Z c => ?_) (fun Z c => ?_)))))))))
    · refine aU (Wh y (Wf fu (VB b Mh rfl rfl isAgg111 ?_)))
      replace b := b.perm (Nr (Qb Qz) Nz)
      refine bS c fun O a2 c => VE (iP (B := k) aN b dc underlying111 dI.1 dI.2.1 rfl dI.2.2.1 dI.2.2.2 rfl rfl u (qE.sl aN D b.aP) a2 (fun c2 R a9 b U => Wa (bK (bY (aR ?_)))))
      replace b := b.aF (Kr (Db St))
      exact ⟨m, R, O, a9, _, ⟨rfl, p⟩, (b.aF St), x, rfl, z, U, (by rw [K]; exact c)⟩
    refine aU (Wh y (VA b Mh a0 isAgg113 sizeOf113 (VE (bJ (cs := a0.toArray) b (dZ rfl) (ew underlying111 sizeOf113 zeroValue113) (fun c3 c6 b => ?_)))))
    replace b := b.perm (Nr (Qb (Qb Qz)) Nz)
    refine bS c fun P a3 c => VE (iP (B := k) aN b dc underlying111 dI.1 dI.2.1 rfl dI.2.2.1 dI.2.2.2 rfl rfl u (qE.lit aN (l := [a]) (.cons (ys := C1 a.Op a.K a.aA.aC a.aA.aJ g a.Kids.length j) (aD.mk ⟨(.slice g a.Kids.length j), rfl, D⟩) .nil) rfl nb (b.at_ (Ma Mh))) a3 (fun c4 b4 L b Y => Wa (bK (bY (aR ?_)))))
    replace b := b.aF (Kr (Db (Db St)))
    exact ⟨m, b4, P, L, _, ⟨rfl, p⟩, (b.aF St), x, rfl, z, Y, (by rw [K]; exact c)⟩
  rintro E W ⟨t, G, k, H, ⟨m, p⟩, b, x, y, z, u, c⟩
  rw [List.drop_length] at c
  refine aR (sg (Wh y (Wa (lt ?_))))
  obtain rfl := sj c
  refine dH (v := t) rfl rfl ?_
  obtain ⟨d1, b, N, d, s⟩ := ST.ms aN b u
  exact ⟨_, _, _, rfl, (b.ej Sn), N, d, (ST.cJ b (eE.mem Sn)), t, rfl, rfl, s⟩
theorem uz (a : Formula) (g : Value) (i : Nat) (j : Int) (r : Bool) (w : World) (c : Sl aD 5 (hp w) g a.Kids) (k : At (hp w) (.pointer (some ⟨i, 0, none⟩)) [(.int .i64 j)]) (hm : jX a j = some r) :
    bF true Tryz.prog 438 [(.agg #[(.int .i64 a.Op), (.int .i64 a.K), (.string a.aA.aC), (.string a.aA.aJ), g]), (.pointer (some ⟨i, 0, none⟩))] w (.bool r) := by
  refine cG 7 func438 rfl (fun b => sg ?_)
  obtain ⟨t, u, rfl⟩ := c.form
  refine VE (bX b rfl (fun z D b => Wa (lr (VA b Mh (C1 a.Op a.K a.aA.aC a.aA.aJ t a.Kids.length u) isAgg113 sizeOf113 (V (aH rfl (mC b.has (y := (.int .i64 j)) k isAgg3)) (bS hm fun G x hm => VE (Eg b call433 ((te a (.slice t a.Kids.length u) j _ _ (c.mono aN.mono b.aP) x)) (fun B b => Wa (ln ?_)))))))))
  exact bH (rQ hm b)
theorem vU (c : Value) (u r : List Formula) (w : World) {j : bW} (I : gj j [] w) (a : Sl aD 5 j c u) (hm : lG u = some r) :
    dR true Tryz.prog 456 [c] w j [] (fun v G J => ∃ z t, v = z ∧ G = (t ++ []) ∧ cL 113 aD 5 J z r t) := by
  unfold lG at hm
  refine nm I 8 func456 rfl (fun b => sg (Wa (lS (Wm ?_))))
  obtain ⟨D, Q, rfl⟩ := a.form
  refine V (tO underlying111 rfl rfl) (ln ?_)
  rcases D with _ | M
  · have y := a.isNil
    replace hm : some [] = some r := by rw [y] at hm; simpa [eT, maxLen] using hm
    refine qh (rfl) (sg (Wa (lt (bU ?_))))
    obtain rfl := sj hm
    refine dH (v := (.slice none 0 0)) rfl rfl ?_
    replace b := b.I5
    exact ⟨_, _, _, rfl, (b.ej (Kr Sn)), (bO.refl _), Lo.refl, (ST.cJ b (eE.mem (Kr Sn))), (.slice none 0 0), [], rfl, rfl, (cL.nil _ _ _ _)⟩
  · refine lI (rfl) (kg (VE (bJ (cs := #[]) b ju (th [] underlying111 sizeOf113 zeroValue113 dc rfl (by simp) rfl rfl) (fun N H b => Wm (bS hm fun T x hm => VE (iP (B := [(H, Ob #[] 113)]) aN b dc underlying111 dI.1 dI.2.1 rfl dI.2.2.1 dI.2.2.2 rfl rfl (cL.lit aN (l := []) .nil rfl nb rfl) (qE.sl aN a b.aP) x (fun K g k b i => Wa (lt ?_))))))))
    obtain rfl := sj hm
    exact dH (v := g) rfl rfl ⟨_, _, _, rfl, (b.ej (Kr Sn)), (bO.refl _), Lo.refl, (ST.cJ b (eE.mem (Kr Sn))), g, k, rfl, rfl, i⟩
theorem lD (y : Value) (a0 : List Formula) (D : LO) (q a2 : Int) (T : Value) (f3 : ((Formula × Formula)) → Option Int) (r : List Formula) (w : World) {μ0 : bW} (h0 : gj μ0 (D ++ []) w) (h4 : cL 113 aD 5 μ0 y a0 D) (h5 : qP Tryz.prog T μ0 (oO aD aD) (fun (r : Int) => (.int .i64 r)) f3) (hm : fE a0 q a2 f3 = some r) :
    dR false Tryz.prog 467 [y, (.int .i64 q), (.int .i64 a2), T] w μ0 (D ++ []) (fun v L1 μ1 => ∃ S1, v = (.tuple #[]) ∧ L1 = (S1 ++ []) ∧ cL 113 aD 5 μ1 y r S1) := by
  refine nm h0 53 func467 rfl (fun n => sg (Wm (Wi rfl (Wa (ln (jO (dN (fB (fun m E W => ∃ Y J x c9, ST false (keys (D ++ [])) w W μ0 (J ++ c9) ∧ E 0 = y ∧ E 1 = (.int .i64 q) ∧ E 2 = (.int .i64 a2) ∧ E 3 = T ∧ E 8 = (.int .i64 x) ∧ cL 113 aD 5 μ0 y Y J ∧ dO a2 q f3 m Y x = some r) bL ⟨a0, D, ((IntKind.i64.wrap (q + 1))), _, (n.aF St), rfl, rfl, rfl, rfl, rfl, h4, hm⟩ ?_))))))))
  rintro m E W ⟨Y, J, x, c9, n, f9, g0, d1, g1, L, c6, u⟩
  cases m with
  | zero => rw [dO] at u; cases u
  | succ h2 =>
    refine aW (sg (Wh L (Wh d1 (Wi rfl (ln (CI u rfl (fun e9 u => ?_) (fun e9 u => ?_)))))))
    · refine kn (aW (bg (Wh L (Wa (ln (jO (CJ u (fun O E W => ∃ U d0, ST false (keys (D ++ [])) w W μ0 (U ++ d0) ∧ E 0 = y ∧ E 1 = (.int .i64 q) ∧ E 2 = (.int .i64 a2) ∧ E 3 = T ∧ E 8 = (.int .i64 x) ∧ cL 113 aD 5 μ0 y O U) (fun O f1 => ?_) ?_)))))))
      · refine dN (fB (fun m E W => ∃ M B j b7, ST false (keys (D ++ [])) w W μ0 (B ++ b7) ∧ E 0 = y ∧ E 1 = (.int .i64 q) ∧ E 2 = (.int .i64 a2) ∧ E 3 = T ∧ E 8 = (.int .i64 x) ∧ E 9 = (.int .i64 j) ∧ cL 113 aD 5 μ0 y M B ∧ dX q f3 m M j = some O) bL ⟨Y, J, x, _, (n.aF St), f9, g0, d1, g1, L, rfl, c6, f1⟩ ?_)
        rintro m E W ⟨M, B, j, b7, n, K, Z, c0, a3, c1, G, t, I⟩
        cases m with
        | zero => rw [dX] at I; cases I
        | succ f4 =>
          refine aW (aW ?_)
          replace n := n.drew
          have d := n.has.aF (Kr Sn)
          refine cT d cE (X 0 rfl d (aQ G) (X 1 rfl d (aQ Z) (X 2 rfl d (cF rfl rfl rfl) (X 3 rfl d (aQ rfl) (PJ I (fun c7 E W => ∃ b9, ST false (keys (D ++ [])) w W μ0 (B ++ b9) ∧ E 0 = y ∧ E 1 = (.int .i64 q) ∧ E 2 = (.int .i64 a2) ∧ E 3 = T ∧ E 8 = (.int .i64 x) ∧ E 9 = (.int .i64 j) ∧ E 34 = (.bool c7)) (bm 17 131071) 0 ?_ (fun c7 g a4 => ?_))))))
          · rintro k2 E W ⟨b9, n, z, c2, c3, c4, c5, H, e8⟩ c
            have d := n.has.aF (Kr Sn)
            refine dG kr (aR (CI c e8 (fun d3 c => ?_) (fun d3 c => ?_)))
            · refine kn (aW (dN ?_))
              replace n := n.drew
              have d := n.has.aF Sn
              have p := n.has.aF (Kr Sn)
              refine oE 15 d p cE (cY 0 rfl kr (.inl rfl) rfl dc (fun _ _ h => ⟨h.1, dW br h.2⟩) ⟨d, fun _ => p⟩ (fun _ _ _ _ => aQ z) (cY 1 rfl kr (.inl rfl) rfl dc (fun _ _ h => ⟨h.1, dW br h.2⟩) ⟨d, fun _ => p⟩ (fun _ _ _ _ => aQ H) (cY 2 rfl kr (.inl rfl) rfl dc (fun _ _ h => ⟨h.1, dW br h.2⟩) ⟨d, fun _ => p⟩ (fun _ _ _ _ => aQ z) (cY 3 rfl kr (.inl rfl) rfl dc (fun _ _ h => ⟨h.1, dW br h.2⟩) ⟨d, fun _ => p⟩ (fun _ _ _ _ => aQ H) (cY 4 rfl kr (.inl rfl) rfl dc (fun _ _ h => ⟨h.1, dW br h.2⟩) ⟨d, fun _ => p⟩ (fun _ _ _ _ => cF rfl rfl rfl) (cY 5 rfl kr (.inl rfl) rfl dc (fun _ _ h => ⟨h.1, dW br h.2⟩) ⟨d, fun _ => p⟩ (fun _ _ _ _ => aQ z) (cY 6 rfl kr (.inl rfl) rfl dc (fun _ _ h => ⟨h.1, dW br h.2⟩) ⟨d, fun _ => p⟩ (fun _ _ _ _ => aQ H) (cY 7 rfl kr (.inl rfl) rfl dc (fun _ _ h => ⟨h.1, dW br h.2⟩) ⟨d, fun _ => p⟩ (fun _ _ _ _ => cF rfl rfl rfl) (bS c fun a5 b0 c => mB 8 rfl kr (.inl rfl) rfl dc (fun _ _ h => ⟨h.1, dW br h.2⟩) ⟨d, fun _ => p⟩ (cX (i := (IntKind.i64.wrap (j - 1))) aD.out underlying111 sizeOf113 rfl rfl t (bV b0) (bQ b0)) (fun i9 ⟨_, ⟨j8, rfl, a8⟩, d6, h6⟩ => cY 9 rfl kr (.inl rfl) rfl dc (fun _ _ h => ⟨h.1, dW br h.2⟩) ⟨d, fun _ => p⟩ (fun l W A P => have s := (P.2 (A.xJ 15 [9] kr rfl)); aH rfl (bE (gf.hp _) (d6.mono (ep (fun b o F => s.2 b o (Ml F)))) isAgg113 sizeOf113)) (cY 10 rfl kr (.inl rfl) rfl dc (fun _ _ h => ⟨h.1, dW br h.2⟩) ⟨d, fun _ => p⟩ (fun _ _ _ _ => aQ z) (cY 11 rfl kr (.inl rfl) rfl dc (fun _ _ h => ⟨h.1, dW br h.2⟩) ⟨d, fun _ => p⟩ (fun _ _ _ _ => aQ H) (bS c fun k b1 c => ?_)))))))))))))
              refine mB 12 rfl kr (.inl rfl) rfl dc (fun _ _ h => ⟨h.1, dW br h.2⟩) ⟨d, fun _ => p⟩ (cX (i := j) aD.out underlying111 sizeOf113 rfl rfl t (bV b1) (bQ b1)) (fun j0 ⟨_, ⟨j9, rfl, a9⟩, d7, h7⟩ => cY 13 rfl kr (.inl rfl) rfl dc (fun _ _ h => ⟨h.1, dW br h.2⟩) ⟨d, fun _ => p⟩ (fun l W A P => have s := (P.2 (A.xJ 15 [13] kr rfl)); aH rfl (bE (gf.hp _) (d7.mono (ep (fun b o F => s.2 b o (Ml F)))) isAgg113 sizeOf113)) (bS c fun k3 N c => mB 14 rfl kr (.inl rfl) rfl dc (fun _ _ h => ⟨h.1, dW br h.2⟩) ⟨d, fun _ => p⟩ (cX (i := j) aD.out underlying111 sizeOf113 rfl rfl t (bV N) (bQ N)) (fun j3 ⟨_, ⟨k0, rfl, i2⟩, i0, d4⟩ => ?_)))
              obtain ⟨e3, e6, rfl⟩ := a8.form
              refine XO 15 rfl (ke (x1 := a5) aN n t rfl rfl (aD.mk ⟨(.slice e3 a5.Kids.length e6), rfl, a8⟩) d4 (bQ N) sizeOf113 (fun i6 i4 n R => ?_))
              have d := n.has.aF Sn
              refine ⟨⟨d, fun h => tX kr h⟩, (bS c fun k4 Q c => mB 16 rfl kr (.inl rfl) rfl dc (fun _ _ h => ⟨h.1, dW br h.2⟩) ⟨d, fun h => tX kr h⟩ (cX (i := (IntKind.i64.wrap (j - 1))) aD.out underlying111 sizeOf113 rfl rfl R (bV Q) (bQ Q)) (fun j4 ⟨_, ⟨k1, rfl, i3⟩, i1, d5⟩ => ?_))⟩
              obtain ⟨e4, e7, rfl⟩ := a9.form
              refine XO 17 rfl (ke (x1 := ((⟨k.Op, k.K, k.aA, k.Kids⟩ : Formula))) aN n R rfl rfl (aD.mk ⟨(.slice e4 k.Kids.length e7), rfl, a9⟩) d5 (bQ Q) sizeOf113 (fun i7 e5 n d2 => ?_))
              have d := n.has.aF Sn
              exact ⟨⟨d, fun h => tX kr h⟩, (dG kr (bY (aR (aU (Wh H (Wi rfl (Wa (ln ⟨f4, Nat.lt_succ_self _, ((((M.set (Int.toNat j) a5)).set (Int.toNat ((IntKind.i64.wrap (j - 1)))) ((⟨k.Op, k.K, k.aA, k.Kids⟩ : Formula)))), e5, ((IntKind.i64.wrap (j - 1))), _, (n.aF St), z, c2, c3, c4, c5, rfl, d2, c⟩))))))))⟩
            refine fI (fD (fD (kz (aR ?_))))
            obtain rfl := sj c
            exact ⟨B, _, (n.aF St), z, c2, c3, c4, c5, t⟩
          refine bC g (fun a g => ?_) (fun a g => ?_)
          · refine Xg 4 rfl rfl (cB a) d (aQ a3) (Xg 5 rfl rfl (cB a) d (aQ K) (Xg 6 rfl rfl (cB a) d (aQ G) (bS g fun f7 b2 g => mB 7 rfl kr (.inr ⟨3, true, 21, rfl, rfl, by decide, (cB a)⟩) rfl dc (fun _ _ h => h) d (cX (i := j) aD.out underlying111 sizeOf113 rfl rfl t (bV b2) (bQ b2)) (fun j5 ⟨_, ⟨f5, rfl, e1⟩, d8, h8⟩ => ou 8 rfl rfl (cB a) d (fun _ s => aH rfl (bE (gf.hp _) (d8.mono (ep (fun b o F => s.2 b o (Ml F)))) isAgg113 sizeOf113)) (Xg 9 rfl rfl (cB a) d (aQ K) (Xg 10 rfl rfl (cB a) d (aQ G) (Xg 11 rfl rfl (cB a) d (cF rfl rfl rfl) (bS g fun f8 b3 g => mB 12 rfl kr (.inr ⟨3, true, 21, rfl, rfl, by decide, (cB a)⟩) rfl dc (fun _ _ h => h) d (cX (i := (IntKind.i64.wrap (j - 1))) aD.out underlying111 sizeOf113 rfl rfl t (bV b3) (bQ b3)) (fun j6 ⟨_, ⟨f6, rfl, e2⟩, d9, h9⟩ => ou 13 rfl rfl (cB a) d (fun _ s => aH rfl (bE (gf.hp _) (d9.mono (ep (fun b o F => s.2 b o (Ml F)))) isAgg113 sizeOf113)) (bS g fun j7 e0 g => zZ 14 rfl rfl (cB a) (rT ((f7, f8)) n h5 (bO.refl _) (oO.mk aN aN (aD.mk ⟨f5, rfl, e1⟩) (aD.mk ⟨f6, rfl, e2⟩) n.aP) rfl (pC rfl rfl) e0 (fun i8 n => ?_))))))))))))
            have d := n.has.aF (Kr Sn)
            refine ⟨d, (Xg 15 rfl rfl (cB a) d (cF rfl rfl rfl) (X 16 rfl d (aY (cB a) rfl) ?_))⟩
            obtain rfl := sj g
            refine fO kr (a4 _ _ ⟨_, (n.aF St), K, Z, c0, a3, c1, G, rfl⟩)
          refine Xn 4 rfl rfl (cB a) d (Xn 5 rfl rfl (cB a) d (Xn 6 rfl rfl (cB a) d (Xn 7 rfl rfl (cB a) d (Xn 8 rfl rfl (cB a) d (Xn 9 rfl rfl (cB a) d (Xn 10 rfl rfl (cB a) d (Xn 11 rfl rfl (cB a) d (Xn 12 rfl rfl (cB a) d (Xn 13 rfl rfl (cB a) d (Xn 14 rfl rfl (cB a) d (Xn 15 rfl rfl (cB a) d (X 16 rfl d (aZ (cB a) rfl) ?_))))))))))))
          obtain rfl := sj g
          refine fO kr (a4 _ _ ⟨_, (n.aF St), K, Z, c0, a3, c1, G, rfl⟩)
      rintro h1 E W ⟨U, d0, n, g2, g3, g4, g7, g8, f2⟩ f0
      exact bY (aR (aU (Wh g8 (Wi rfl (Wa (ln ⟨h2, Nat.lt_succ_self _, h1, U, ((IntKind.i64.wrap (x + 1))), _, (n.aF St), g2, g3, g4, g7, rfl, f2, f0⟩))))))
    refine fI (fD (fD (kz (aR (jW ?_)))))
    obtain rfl := sj u
    exact iC rfl ⟨_, _, _, rfl, (n.ej (Kr Sn)), (bO.refl _), Lo.refl, (ST.cJ n (eE.mem (Kr Sn))), J, rfl, rfl, c6⟩
theorem jA (x : Value) (a0 : List Formula) (t : LO) (G H a3 : Int) (a5 : Value) (f4 : ((Formula × Formula)) → Option Int) (r : List Formula) (w : World) {Y : bW} (h0 : gj Y (t ++ []) w) (c0 : cL 113 aD 5 Y x a0 t) (d5 : qP Tryz.prog a5 Y (oO aD aD) (fun (r : Int) => (.int .i64 r)) f4) (hm : ft a0 G H a3 f4 = some r) :
    dR true Tryz.prog 472 [x, (.int .i64 G), (.int .i64 H), (.int .i64 a3), a5] w Y (t ++ []) (fun v L1 μ1 => ∃ S1, v = (.tuple #[]) ∧ L1 = (S1 ++ []) ∧ cL 113 aD 5 μ1 x r S1) := by
  refine nm h0 38 func472 rfl (fun p => sg (Wa (ln (jO (dN (fB (fun m E W => ∃ D y c Z, ST true (keys (t ++ [])) w W Y (y ++ Z) ∧ E 0 = x ∧ E 1 = (.int .i64 G) ∧ E 2 = (.int .i64 H) ∧ E 3 = (.int .i64 a3) ∧ E 10 = (.int .i64 c) ∧ cL 113 aD 5 Y x D y ∧ ey a3 H G m D c = some r) bL ⟨a0, t, 0, _, (p.aF St), rfl, rfl, rfl, rfl, rfl, c0, hm⟩ ?_))))))
  rintro m E W ⟨D, y, c, Z, p, u, I, J, a4, k, j, a⟩
  cases m with
  | zero => rw [ey] at a; cases a
  | succ c1 =>
    refine aW (sg (Wh k (Wh a4 (Wi rfl (ln (CI a rfl (fun P a => ?_) (fun P a => ?_)))))))
    · refine kn (aW (dN ?_))
      replace p := p.drew
      have d := p.has.aF Sn
      have n := p.has.aF (Kr Sn)
      refine oE 21 d n cE (cY 0 rfl kr (.inl rfl) rfl dc (fun _ _ h => ⟨h.1, dW br h.2⟩) ⟨d, fun _ => n⟩ (fun _ _ _ _ => aQ u) (cY 1 rfl kr (.inl rfl) rfl dc (fun _ _ h => ⟨h.1, dW br h.2⟩) ⟨d, fun _ => n⟩ (fun _ _ _ _ => aQ I) (cY 2 rfl kr (.inl rfl) rfl dc (fun _ _ h => ⟨h.1, dW br h.2⟩) ⟨d, fun _ => n⟩ (fun _ _ _ _ => aQ k) (cY 3 rfl kr (.inl rfl) rfl dc (fun _ _ h => ⟨h.1, dW br h.2⟩) ⟨d, fun _ => n⟩ (fun _ _ _ _ => cF rfl rfl rfl) (cY 4 rfl kr (.inl rfl) rfl dc (fun _ _ h => ⟨h.1, dW br h.2⟩) ⟨d, fun _ => n⟩ (fun _ _ _ _ => aQ u) (cY 5 rfl kr (.inl rfl) rfl dc (fun _ _ h => ⟨h.1, dW br h.2⟩) ⟨d, fun _ => n⟩ (fun _ _ _ _ => aQ J) (cY 6 rfl kr (.inl rfl) rfl dc (fun _ _ h => ⟨h.1, dW br h.2⟩) ⟨d, fun _ => n⟩ (fun _ _ _ _ => aQ k) (cY 7 rfl kr (.inl rfl) rfl dc (fun _ _ h => ⟨h.1, dW br h.2⟩) ⟨d, fun _ => n⟩ (fun _ _ _ _ => cF rfl rfl rfl) (cY 8 rfl kr (.inl rfl) rfl dc (fun _ _ h => ⟨h.1, dW br h.2⟩) ⟨d, fun _ => n⟩ (fun _ _ _ _ => aQ u) (cY 9 rfl kr (.inl rfl) rfl dc (fun _ _ h => ⟨h.1, dW br h.2⟩) ⟨d, fun _ => n⟩ (fun _ _ _ _ => aQ J) (cY 10 rfl kr (.inl rfl) rfl dc (fun _ _ h => ⟨h.1, dW br h.2⟩) ⟨d, fun _ => n⟩ (fun _ _ _ _ => aQ k) (cY 11 rfl kr (.inl rfl) rfl dc (fun _ _ h => ⟨h.1, dW br h.2⟩) ⟨d, fun _ => n⟩ (fun _ _ _ _ => cF rfl rfl rfl) (bS a fun K T a => mB 12 rfl kr (.inl rfl) rfl dc (fun _ _ h => ⟨h.1, dW br h.2⟩) ⟨d, fun _ => n⟩ (cX (i := (IntKind.i64.wrap (H + c))) aD.out underlying111 sizeOf113 rfl rfl j (bV T) (bQ T)) (fun d6 ⟨_, ⟨e0, rfl, N⟩, b1, c4⟩ => ?_))))))))))))))
      refine cY 13 rfl kr (.inl rfl) rfl dc (fun _ _ h => ⟨h.1, dW br h.2⟩) ⟨d, fun _ => n⟩ (fun l W q F => have s := (F.2 (q.xJ 21 [13] kr rfl)); aH rfl (bE (gf.hp _) (b1.mono (ep (fun b o A => s.2 b o (Ml A)))) isAgg113 sizeOf113)) (cY 14 rfl kr (.inl rfl) rfl dc (fun _ _ h => ⟨h.1, dW br h.2⟩) ⟨d, fun _ => n⟩ (fun _ _ _ _ => aQ u) (cY 15 rfl kr (.inl rfl) rfl dc (fun _ _ h => ⟨h.1, dW br h.2⟩) ⟨d, fun _ => n⟩ (fun _ _ _ _ => aQ I) (cY 16 rfl kr (.inl rfl) rfl dc (fun _ _ h => ⟨h.1, dW br h.2⟩) ⟨d, fun _ => n⟩ (fun _ _ _ _ => aQ k) (cY 17 rfl kr (.inl rfl) rfl dc (fun _ _ h => ⟨h.1, dW br h.2⟩) ⟨d, fun _ => n⟩ (fun _ _ _ _ => cF rfl rfl rfl) (bS a fun g U a => mB 18 rfl kr (.inl rfl) rfl dc (fun _ _ h => ⟨h.1, dW br h.2⟩) ⟨d, fun _ => n⟩ (cX (i := (IntKind.i64.wrap (G + c))) aD.out underlying111 sizeOf113 rfl rfl j (bV U) (bQ U)) (fun d7 ⟨_, ⟨e1, rfl, Q⟩, b2, c5⟩ => cY 19 rfl kr (.inl rfl) rfl dc (fun _ _ h => ⟨h.1, dW br h.2⟩) ⟨d, fun _ => n⟩ (fun l W q F => have s := (F.2 (q.xJ 21 [19] kr rfl)); aH rfl (bE (gf.hp _) (b2.mono (ep (fun b o A => s.2 b o (Ml A)))) isAgg113 sizeOf113)) (bS a fun e5 z a => mB 20 rfl kr (.inl rfl) rfl dc (fun _ _ h => ⟨h.1, dW br h.2⟩) ⟨d, fun _ => n⟩ (cX (i := (IntKind.i64.wrap (G + c))) aD.out underlying111 sizeOf113 rfl rfl j (bV z) (bQ z)) (fun d8 ⟨_, ⟨e2, rfl, c8⟩, c6, a9⟩ => ?_))))))))
      let L := ((⟨g.Op, g.K, g.aA, g.Kids⟩ : Formula))
      obtain ⟨b3, b7, rfl⟩ := N.form
      refine XO 21 rfl (ke (x1 := K) aN p j rfl rfl (aD.mk ⟨(.slice b3 K.Kids.length b7), rfl, N⟩) a9 (bQ z) sizeOf113 (fun d2 d1 p M => ?_))
      have d := p.has.aF Sn
      refine ⟨⟨d, fun h => tX kr h⟩, (bS a fun e6 B a => mB 22 rfl kr (.inl rfl) rfl dc (fun _ _ h => ⟨h.1, dW br h.2⟩) ⟨d, fun h => tX kr h⟩ (cX (i := (IntKind.i64.wrap (H + c))) aD.out underlying111 sizeOf113 rfl rfl M (bV B) (bQ B)) (fun d9 ⟨_, ⟨e3, rfl, c9⟩, c7, R⟩ => ?_))⟩
      obtain ⟨b4, b9, rfl⟩ := Q.form
      refine XO 23 rfl (ke (x1 := L) aN p M rfl rfl (aD.mk ⟨(.slice b4 g.Kids.length b9), rfl, Q⟩) R (bQ B) sizeOf113 (fun d3 b5 p O => ?_))
      have d := p.has.aF Sn
      exact ⟨⟨d, fun h => tX kr h⟩, (dG kr (bY (aR (aU (Wh k (Wi rfl (Wa (ln ⟨c1, Nat.lt_succ_self _, ((((D.set (Int.toNat ((IntKind.i64.wrap (G + c)))) K)).set (Int.toNat ((IntKind.i64.wrap (H + c)))) L)), b5, ((IntKind.i64.wrap (c + 1))), _, (p.aF St), u, I, J, a4, rfl, O, a⟩))))))))⟩
    refine fI (fD (fD (kz (aR (jW ?_)))))
    obtain rfl := sj a
    exact iC rfl ⟨_, _, _, rfl, (p.ej (Kr Sn)), (bO.refl _), Lo.refl, (ST.cJ p (eE.mem (Kr Sn))), y, rfl, rfl, j⟩
theorem sh (k : Value) (a0 : List Formula) (y : LO) (q D a3 : Int) (B : Value) (U : ((Formula × Formula)) → Option Int) (r : List Formula) (w : World) {T : bW} (h0 : gj T (y ++ []) w) (c5 : cL 113 aD 5 T k a0 y) (Q : qP Tryz.prog B T (oO aD aD) (fun (r : Int) => (.int .i64 r)) U) (hm : fj a0 q D a3 U = some r) :
    dR true Tryz.prog 470 [k, (.int .i64 q), (.int .i64 D), (.int .i64 a3), B] w T (y ++ []) (fun v L1 μ1 => ∃ S1, v = (.tuple #[]) ∧ L1 = (S1 ++ []) ∧ cL 113 aD 5 μ1 k r S1) := by
  refine nm h0 58 func470 rfl (fun b => sg (Wm (Wm (Wi rfl (Wa (lr (Wm (Wm (Wi rfl (Wa ?_))))))))))
  refine ln (aW (dN (fB (fun m E W => ∃ z x c t I Y, bO T I ∧ Lo (keys (y ++ [])) w T I ∧ ST true (keys (y ++ [])) w W I (x ++ Y) ∧ E 0 = k ∧ E 2 = (.int .i64 D) ∧ E 4 = B ∧ E 10 = (.int .i64 c) ∧ E 11 = (.int .i64 t) ∧ cL 113 aD 5 I k z x ∧ eO D U m z c t = some r) bL ⟨a0, y, ((IntKind.i64.wrap (D - q))), ((IntKind.i64.wrap (a3 - D))), T, _, (bO.refl _), Lo.refl, (b.aF St), rfl, rfl, rfl, rfl, rfl, c5, hm⟩ ?_)))
  rintro m E W ⟨z, x, c, t, I, Y, i, d, b, G, j, H, g, u, J, a⟩
  let a2 := ((IntKind.i64.wrap (D - c)))
  cases m with
  | zero => rw [eO] at a; cases a
  | succ s =>
    refine aW (sg (Wh g (Wh u (Wi rfl (ln (CI a rfl (fun A a => ?_) (fun A a => ?_)))))))
    · refine kn (bg (Wh g (Wh u (Wi rfl (ln (CI a rfl (fun F a => ?_) (fun F a => ?_)))))))
      · refine sg (Wh G (Wh j (Wh g (Wi rfl (Wh j (Wh u (Wh H (bS a fun c6 L a => ?_))))))))
        refine VE (eD b (Cr Qz Cn) call472 (fun p => (jA k z x a2 D t B U _ _ p J (Q.mono i) L)) ?_)
        rintro _ e0 c8 d2 b Z h ⟨b9, K, rfl, R⟩
        obtain rfl := K.symm
        replace b := b.perm (Tr Tn)
        exact ln (aU (Wh g (Wh u (Wi rfl (Wa (bK (bY (aR ⟨s, Nat.lt_succ_self _, c6, b9, ((IntKind.i64.wrap (c - t))), t, c8, _, (i.trans Z), (d.trans h), (b.aF St), G, j, H, rfl, u, R, a⟩))))))))
      refine sg (Wh G (Wh j (Wh g (Wi rfl (Wh j (Wh u (Wi rfl (Wh g (Wi rfl (Wh g (Wh H (bS a fun c7 O a => ?_))))))))))))
      refine VE (eD b (Cr Qz Cn) call472 (fun p => (jA k z x a2 ((IntKind.i64.wrap (((IntKind.i64.wrap (D + t))) - c))) c B U _ _ p J (Q.mono i) O)) ?_)
      rintro _ e1 c9 d3 b a4 l ⟨c0, M, rfl, b6⟩
      obtain rfl := M.symm
      replace b := b.perm (Tr Tn)
      exact ln (aU (Wh u (Wh g (Wi rfl (Wa (bK (bY (aR ⟨s, Nat.lt_succ_self _, c7, c0, c, ((IntKind.i64.wrap (t - c))), c9, _, (i.trans a4), (d.trans l), (b.aF St), G, j, H, g, rfl, b6, a⟩))))))))
    refine fI (fD (fD (kz (aR (aU (Wh G (Wh j (Wh g (Wi rfl (Wh j (Wh g (Wh H (bS a fun d9 P a => ?_)))))))))))))
    refine VE (eD b (Cr Qz Cn) call472 (fun p => (jA k z x a2 D c B U _ _ p J (Q.mono i) P)) ?_)
    rintro _ e2 e4 d4 b a5 n ⟨c1, N, rfl, b7⟩
    obtain rfl := N.symm
    replace b := b.perm (Tr Tn)
    refine bK (jW ?_)
    obtain rfl := sj a
    exact iC rfl ⟨_, _, _, rfl, (b.ej (Kr Sn)), (i.trans a5), (d.trans n), (ST.cJ b (eE.mem (Kr Sn))), c1, rfl, rfl, b7⟩
set_option maxHeartbeats 1000000 in
theorem pO (t6 : (List Formula) → Int → Int → Int → (((Formula × Formula)) → Option Int) → Option (List Formula)) (s6 : ∀ (t : Value) (a0 : List Formula) (c : LO) (z : Int) (M : Int) (B : Int) (D : Value) (f4 : ((Formula × Formula)) → Option Int) (r : List Formula) (w : World) {U : bW} (h0 : gj U (c ++ []) w) (a5 : cL 113 aD 5 U t a0 c) (c6 : qP Tryz.prog D U (oO aD aD) (fun (r : Int) => (.int .i64 r)) f4), t6 a0 z M B f4 = some r → dR false Tryz.prog 468 [t, (.int .i64 z), (.int .i64 M), (.int .i64 B), D] w U (c ++ []) (fun v L1 μ1 => ∃ S1, v = (.tuple #[]) ∧ L1 = (S1 ++ []) ∧ cL 113 aD 5 μ1 t r S1)) (t : Value) (a0 : List Formula) (c : LO) (z M B : Int) (D : Value) (f4 : ((Formula × Formula)) → Option Int) (r : List Formula) (w : World) {U : bW} (h0 : gj U (c ++ []) w) (a5 : cL 113 aD 5 U t a0 c) (c6 : qP Tryz.prog D U (oO aD aD) (fun (r : Int) => (.int .i64 r)) f4) (hm : iE t6 a0 z M B f4 = some r) :
    dR false Tryz.prog 468 [t, (.int .i64 z), (.int .i64 M), (.int .i64 B), D] w U (c ++ []) (fun v L1 μ1 => ∃ S1, v = (.tuple #[]) ∧ L1 = (S1 ++ []) ∧ cL 113 aD 5 μ1 t r S1) := by
  refine nm h0 220 func468 rfl (fun d => aW (sg (Wm (Wm (Wi rfl (Wi rfl (ln (CI hm rfl (fun ae hm => ?_) (fun ae hm => ?_)))))))))
  · refine sg (Wm (Wa (lr (Wm (Wa (ln (aW (dN (fB (fun m E W => ∃ T a9 o3, ST false (keys (c ++ [])) w W U (c ++ o3) ∧ E 0 = t ∧ E 1 = (.int .i64 z) ∧ E 4 = D ∧ E 10 = (.int .i64 T) ∧ E 11 = (.int .i64 a9) ∧ dD a0 z f4 m T a9 = some r) bL ⟨M, B, _, (d.aF St), rfl, rfl, rfl, rfl, rfl, hm⟩ ?_)))))))))
    rintro m E W ⟨T, a9, o3, d, e4, h8, k3, h9, k4, y⟩
    cases m with
    | zero => rw [dD] at y; cases y
    | succ t5 =>
      refine aW (sg (Wh h9 (Wh k4 (Wi rfl (ln (CI y rfl (fun w9 y => ?_) (fun w9 y => ?_)))))))
      · refine kn (bg (Wh h9 (Wh k4 (Wi rfl (V (kF (k' := .i64) (a := (IntKind.i64.wrap (T + a9))) underlying3 underlying353 rfl) (V (Bv (a := ((IntKind.u64.wrap ((IntKind.i64.wrap (T + a9)))))) (b := 1) rfl rfl dc) (V (kF (k' := .u64) (a := (Int.fdiv ((IntKind.u64.wrap ((IntKind.i64.wrap (T + a9))))) (2 ^ min (Int.toNat 1) (IntKind.bits .u64)))) underlying353 underlying3 rfl) (Wa (ln (aW ?_))))))))))
        let e3 := ((Int.fdiv ((IntKind.u64.wrap ((IntKind.i64.wrap (T + a9))))) (2 ^ min (Int.toNat 1) (IntKind.bits .u64))))
        replace d := d.drew
        have n := d.has.aF (Kr Sn)
        refine cT n cE (X 0 rfl n (aQ k3) (X 1 rfl n (aQ e4) (X 2 rfl n (aQ rfl) (bS y fun aa n1 y => XQ 3 rfl n (cX (i := (IntKind.i64.wrap e3)) aD.out underlying111 sizeOf113 rfl rfl a5 (bV n1) (bQ n1)) (fun dh ⟨_, ⟨z7, rfl, x7⟩, x4, bo⟩ => XH 4 rfl n (fun _ s => aH rfl (bE (gf.hp _) (x4.mono (ep (fun b o A => s.2 b o (Ml A)))) isAgg113 sizeOf113)) (X 5 rfl n (aQ e4) (X 6 rfl n (aQ h8) (bS y fun ab n2 y => XQ 7 rfl n (cX (i := z) aD.out underlying111 sizeOf113 rfl rfl a5 (bV n2) (bQ n2)) (fun di ⟨_, ⟨z8, rfl, x8⟩, x5, bp⟩ => XH 8 rfl n (fun _ s => aH rfl (bE (gf.hp _) (x5.mono (ep (fun b o A => s.2 b o (Ml A)))) isAgg113 sizeOf113)) (bS y fun dj x6 y => XE 9 rfl (rT ((aa, ab)) d c6 (bO.refl _) (oO.mk aN aN (aD.mk ⟨z7, rfl, x7⟩) (aD.mk ⟨z8, rfl, x8⟩) d.aP) rfl (pC rfl rfl) x6 (fun df d => ?_))))))))))))
        have n := d.has.aF (Kr Sn)
        refine ⟨n, (X 10 rfl n (cF rfl rfl rfl) (dG kr (aR (CI y rfl (fun x0 y => ?_) (fun x0 y => ?_)))))⟩
        · exact aU (Wm (Wi rfl (Wa (bK (bY (aR ⟨t5, Nat.lt_succ_self _, ((IntKind.i64.wrap (((IntKind.i64.wrap e3)) + 1))), a9, _, (d.aF St), e4, h8, k3, rfl, k4, y⟩))))))
        exact aU (Wm (Wa (bK (bY (aR ⟨t5, Nat.lt_succ_self _, T, ((IntKind.i64.wrap e3)), _, (d.aF St), e4, h8, k3, h9, rfl, y⟩)))))
      refine fI (fD (fD (kz (aR (aW (sg (Wh h8 (Wa (ln (CJ y (fun k5 E W => ∃ f7 o4, ST false (keys (c ++ [])) w W U (f7 ++ o4) ∧ cL 113 aD 5 U t k5 f7) (fun k5 x3 => ?_) ?_))))))))))
      · refine dN (fB (fun m E W => ∃ i0 f8 R k6, ST false (keys (c ++ [])) w W U (f8 ++ k6) ∧ E 0 = t ∧ E 10 = (.int .i64 T) ∧ E 13 = (.int .i64 R) ∧ cL 113 aD 5 U t i0 f8 ∧ eB T m i0 R = some k5) bL ⟨a0, c, z, _, (d.aF St), e4, h9, rfl, a5, x3⟩ ?_)
        rintro m E W ⟨i0, f8, R, k6, d, c7, l7, c0, d1, u⟩
        cases m with
        | zero => rw [eB] at u; cases u
        | succ y2 =>
          refine aW (sg (Wh c0 (Wh l7 (Wi rfl (Wi rfl (ln (CI u rfl (fun p1 u => ?_) (fun p1 u => ?_))))))))
          · refine kn (aW (dN ?_))
            replace d := d.drew
            have n := d.has.aF Sn
            have p := d.has.aF (Kr Sn)
            refine oE 15 n p cE (cY 0 rfl kr (.inl rfl) rfl dc (fun _ _ h => ⟨h.1, dW (by rfl) h.2⟩) ⟨n, fun _ => p⟩ (fun _ _ _ _ => aQ c7) (cY 1 rfl kr (.inl rfl) rfl dc (fun _ _ h => ⟨h.1, dW (by rfl) h.2⟩) ⟨n, fun _ => p⟩ (fun _ _ _ _ => aQ c0) (cY 2 rfl kr (.inl rfl) rfl dc (fun _ _ h => ⟨h.1, dW (by rfl) h.2⟩) ⟨n, fun _ => p⟩ (fun _ _ _ _ => aQ c7) (cY 3 rfl kr (.inl rfl) rfl dc (fun _ _ h => ⟨h.1, dW (by rfl) h.2⟩) ⟨n, fun _ => p⟩ (fun _ _ _ _ => aQ c0) (cY 4 rfl kr (.inl rfl) rfl dc (fun _ _ h => ⟨h.1, dW (by rfl) h.2⟩) ⟨n, fun _ => p⟩ (fun _ _ _ _ => cF rfl rfl rfl) (cY 5 rfl kr (.inl rfl) rfl dc (fun _ _ h => ⟨h.1, dW (by rfl) h.2⟩) ⟨n, fun _ => p⟩ (fun _ _ _ _ => aQ c7) (cY 6 rfl kr (.inl rfl) rfl dc (fun _ _ h => ⟨h.1, dW (by rfl) h.2⟩) ⟨n, fun _ => p⟩ (fun _ _ _ _ => aQ c0) (cY 7 rfl kr (.inl rfl) rfl dc (fun _ _ h => ⟨h.1, dW (by rfl) h.2⟩) ⟨n, fun _ => p⟩ (fun _ _ _ _ => cF rfl rfl rfl) (bS u fun i3 j5 u => mB 8 rfl kr (.inl rfl) rfl dc (fun _ _ h => ⟨h.1, dW (by rfl) h.2⟩) ⟨n, fun _ => p⟩ (cX (i := (IntKind.i64.wrap (R + 1))) aD.out underlying111 sizeOf113 rfl rfl d1 (bV j5) (bQ j5)) (fun bs ⟨_, ⟨ck, rfl, i7⟩, r3, af⟩ => cY 9 rfl kr (.inl rfl) rfl dc (fun _ _ h => ⟨h.1, dW (by rfl) h.2⟩) ⟨n, fun _ => p⟩ (fun l W F hs => have s := (hs.2 (F.xJ 15 [9] kr rfl)); aH rfl (bE (gf.hp _) (r3.mono (ep (fun b o A => s.2 b o (Ml A)))) isAgg113 sizeOf113)) (cY 10 rfl kr (.inl rfl) rfl dc (fun _ _ h => ⟨h.1, dW (by rfl) h.2⟩) ⟨n, fun _ => p⟩ (fun _ _ _ _ => aQ c7) (cY 11 rfl kr (.inl rfl) rfl dc (fun _ _ h => ⟨h.1, dW (by rfl) h.2⟩) ⟨n, fun _ => p⟩ (fun _ _ _ _ => aQ c0) (bS u fun Y j6 u => ?_)))))))))))))
            refine mB 12 rfl kr (.inl rfl) rfl dc (fun _ _ h => ⟨h.1, dW (by rfl) h.2⟩) ⟨n, fun _ => p⟩ (cX (i := R) aD.out underlying111 sizeOf113 rfl rfl d1 (bV j6) (bQ j6)) (fun bt ⟨_, ⟨cl, rfl, i8⟩, r4, ag⟩ => cY 13 rfl kr (.inl rfl) rfl dc (fun _ _ h => ⟨h.1, dW (by rfl) h.2⟩) ⟨n, fun _ => p⟩ (fun l W F hs => have s := (hs.2 (F.xJ 15 [13] kr rfl)); aH rfl (bE (gf.hp _) (r4.mono (ep (fun b o A => s.2 b o (Ml A)))) isAgg113 sizeOf113)) (bS u fun cv e9 u => mB 14 rfl kr (.inl rfl) rfl dc (fun _ _ h => ⟨h.1, dW (by rfl) h.2⟩) ⟨n, fun _ => p⟩ (cX (i := R) aD.out underlying111 sizeOf113 rfl rfl d1 (bV e9) (bQ e9)) (fun bu ⟨_, ⟨cm, rfl, ar⟩, an, q2⟩ => ?_)))
            obtain ⟨t7, u6, rfl⟩ := i7.form
            refine XO 15 rfl (ke (x1 := i3) aN d d1 rfl rfl (aD.mk ⟨(.slice t7 i3.Kids.length u6), rfl, i7⟩) q2 (bQ e9) sizeOf113 (fun bd bb d i5 => ?_))
            have n := d.has.aF Sn
            refine ⟨⟨n, fun h => tX kr h⟩, (bS u fun cw f0 u => mB 16 rfl kr (.inl rfl) rfl dc (fun _ _ h => ⟨h.1, dW (by rfl) h.2⟩) ⟨n, fun h => tX kr h⟩ (cX (i := (IntKind.i64.wrap (R + 1))) aD.out underlying111 sizeOf113 rfl rfl i5 (bV f0) (bQ f0)) (fun bv ⟨_, ⟨cn, rfl, au⟩, ao, q3⟩ => ?_))⟩
            obtain ⟨t8, u7, rfl⟩ := i8.form
            refine XO 17 rfl (ke (x1 := ((⟨Y.Op, Y.K, Y.aA, Y.Kids⟩ : Formula))) aN d i5 rfl rfl (aD.mk ⟨(.slice t8 Y.Kids.length u7), rfl, i8⟩) q3 (bQ f0) sizeOf113 (fun be u1 d o9 => ?_))
            have n := d.has.aF Sn
            exact ⟨⟨n, fun h => tX kr h⟩, (dG kr (bY (aR (aU (Wh c0 (Wi rfl (Wa (ln ⟨y2, Nat.lt_succ_self _, ((((i0.set (Int.toNat R) i3)).set (Int.toNat ((IntKind.i64.wrap (R + 1)))) ((⟨Y.Op, Y.K, Y.aA, Y.Kids⟩ : Formula)))), u1, ((IntKind.i64.wrap (R + 1))), _, (d.aF St), c7, l7, rfl, o9, u⟩))))))))⟩
          refine fI (fD (fD (kz (aR ?_))))
          have q := sj u; subst q
          exact ⟨f8, _, (d.aF St), d1⟩
      rintro dg E W ⟨f7, o4, d, x9⟩ x2
      refine bH (bU ?_)
      have q := sj x2; subst q
      exact iC rfl ⟨_, _, _, rfl, (d.ej (Kr Sn)), (bO.refl _), Lo.refl, (ST.cJ d (eE.mem (Kr Sn))), f7, rfl, rfl, x9⟩
  refine kS (Wm (Wm (Wi rfl (Wi rfl (ln (CI hm rfl (fun p2 hm => ?_) (fun p2 hm => ?_)))))))
  · refine sg (Wm (Wa (lr (Wm (Wa (ln (aW (dN (fB (fun m E W => ∃ G N k7, ST false (keys (c ++ [])) w W U (c ++ k7) ∧ E 0 = t ∧ E 2 = (.int .i64 M) ∧ E 4 = D ∧ E 14 = (.int .i64 G) ∧ E 15 = (.int .i64 N) ∧ dC a0 M f4 m G N = some r) bL ⟨z, M, _, (d.aF St), rfl, rfl, rfl, rfl, rfl, hm⟩ ?_)))))))))
    rintro m E W ⟨G, N, k7, d, c8, d5, f9, d6, g0, j⟩
    let j1 := ((IntKind.u64.wrap ((IntKind.i64.wrap (G + N)))))
    let b8 := ((Int.fdiv j1 (2 ^ min (Int.toNat 1) (IntKind.bits .u64))))
    cases m with
    | zero => rw [dC] at j; cases j
    | succ n3 =>
      refine aW (sg (Wh d6 (Wh g0 (Wi rfl (ln (CI j rfl (fun p3 j => ?_) (fun p3 j => ?_)))))))
      · refine kn (bg (Wh d6 (Wh g0 (Wi rfl (V (kF (k' := .i64) (a := (IntKind.i64.wrap (G + N))) underlying3 underlying353 rfl) (V (Bv (a := j1) (b := 1) rfl rfl dc) (V (kF (k' := .u64) (a := (Int.fdiv j1 (2 ^ min (Int.toNat 1) (IntKind.bits .u64)))) underlying353 underlying3 rfl) (Wa (ln (aW ?_))))))))))
        replace d := d.drew
        have n := d.has.aF (Kr Sn)
        refine cT n cE (X 0 rfl n (aQ f9) (X 1 rfl n (aQ c8) (X 2 rfl n (aQ d5) (bS j fun y8 j7 j => XQ 3 rfl n (cX (i := M) aD.out underlying111 sizeOf113 rfl rfl a5 (bV j7) (bQ j7)) (fun bw ⟨_, ⟨y4, rfl, s7⟩, r5, ah⟩ => XH 4 rfl n (fun _ s => aH rfl (bE (gf.hp _) (r5.mono (ep (fun b o A => s.2 b o (Ml A)))) isAgg113 sizeOf113)) (X 5 rfl n (aQ c8) (X 6 rfl n (aQ rfl) (bS j fun y9 j8 j => XQ 7 rfl n (cX (i := (IntKind.i64.wrap b8)) aD.out underlying111 sizeOf113 rfl rfl a5 (bV j8) (bQ j8)) (fun bx ⟨_, ⟨y5, rfl, s8⟩, r6, ai⟩ => XH 8 rfl n (fun _ s => aH rfl (bE (gf.hp _) (r6.mono (ep (fun b o A => s.2 b o (Ml A)))) isAgg113 sizeOf113)) (bS j fun cf s1 j => XE 9 rfl (rT ((y8, y9)) d c6 (bO.refl _) (oO.mk aN aN (aD.mk ⟨y4, rfl, s7⟩) (aD.mk ⟨y5, rfl, s8⟩) d.aP) rfl (pC rfl rfl) s1 (fun bf d => ?_))))))))))))
        have n := d.has.aF (Kr Sn)
        refine ⟨n, (X 10 rfl n (cF rfl rfl rfl) (X 11 rfl n (gn rfl) (dG kr (aR (CI j rfl (fun p4 j => ?_) (fun p4 j => ?_))))))⟩
        · exact aU (Wm (Wi rfl (Wa (bK (bY (aR ⟨n3, Nat.lt_succ_self _, ((IntKind.i64.wrap (((IntKind.i64.wrap b8)) + 1))), N, _, (d.aF St), c8, d5, f9, rfl, g0, j⟩))))))
        exact aU (Wm (Wa (bK (bY (aR ⟨n3, Nat.lt_succ_self _, G, ((IntKind.i64.wrap b8)), _, (d.aF St), c8, d5, f9, d6, rfl, j⟩)))))
      refine fI (fD (fD (kz (aR (aW (sg (Wh d5 (Wa (ln (CJ j (fun i1 E W => ∃ d3 k8, ST false (keys (c ++ [])) w W U (d3 ++ k8) ∧ cL 113 aD 5 U t i1 d3) (fun i1 q7 => ?_) ?_))))))))))
      · refine dN (fB (fun m E W => ∃ e2 d4 Q k9, ST false (keys (c ++ [])) w W U (d4 ++ k9) ∧ E 0 = t ∧ E 14 = (.int .i64 G) ∧ E 17 = (.int .i64 Q) ∧ cL 113 aD 5 U t e2 d4 ∧ eC G m e2 Q = some i1) bL ⟨a0, c, M, _, (d.aF St), c8, d6, rfl, a5, q7⟩ ?_)
        rintro m E W ⟨e2, d4, Q, k9, d, c9, l8, c1, b6, x⟩
        cases m with
        | zero => rw [eC] at x; cases x
        | succ y3 =>
          refine aW (sg (Wh c1 (Wh l8 (Wi rfl (ln (CI x rfl (fun p5 x => ?_) (fun p5 x => ?_)))))))
          · refine kn (aW (dN ?_))
            replace d := d.drew
            have n := d.has.aF Sn
            have p := d.has.aF (Kr Sn)
            refine oE 15 n p cE (cY 0 rfl kr (.inl rfl) rfl dc (fun _ _ h => ⟨h.1, dW (by rfl) h.2⟩) ⟨n, fun _ => p⟩ (fun _ _ _ _ => aQ c9) (cY 1 rfl kr (.inl rfl) rfl dc (fun _ _ h => ⟨h.1, dW (by rfl) h.2⟩) ⟨n, fun _ => p⟩ (fun _ _ _ _ => aQ c1) (cY 2 rfl kr (.inl rfl) rfl dc (fun _ _ h => ⟨h.1, dW (by rfl) h.2⟩) ⟨n, fun _ => p⟩ (fun _ _ _ _ => aQ c9) (cY 3 rfl kr (.inl rfl) rfl dc (fun _ _ h => ⟨h.1, dW (by rfl) h.2⟩) ⟨n, fun _ => p⟩ (fun _ _ _ _ => aQ c1) (cY 4 rfl kr (.inl rfl) rfl dc (fun _ _ h => ⟨h.1, dW (by rfl) h.2⟩) ⟨n, fun _ => p⟩ (fun _ _ _ _ => cF rfl rfl rfl) (cY 5 rfl kr (.inl rfl) rfl dc (fun _ _ h => ⟨h.1, dW (by rfl) h.2⟩) ⟨n, fun _ => p⟩ (fun _ _ _ _ => aQ c9) (cY 6 rfl kr (.inl rfl) rfl dc (fun _ _ h => ⟨h.1, dW (by rfl) h.2⟩) ⟨n, fun _ => p⟩ (fun _ _ _ _ => aQ c1) (cY 7 rfl kr (.inl rfl) rfl dc (fun _ _ h => ⟨h.1, dW (by rfl) h.2⟩) ⟨n, fun _ => p⟩ (fun _ _ _ _ => cF rfl rfl rfl) (bS x fun i4 j9 x => mB 8 rfl kr (.inl rfl) rfl dc (fun _ _ h => ⟨h.1, dW (by rfl) h.2⟩) ⟨n, fun _ => p⟩ (cX (i := (IntKind.i64.wrap (Q - 1))) aD.out underlying111 sizeOf113 rfl rfl b6 (bV j9) (bQ j9)) (fun bz ⟨_, ⟨co, rfl, i9⟩, r7, aj⟩ => cY 9 rfl kr (.inl rfl) rfl dc (fun _ _ h => ⟨h.1, dW (by rfl) h.2⟩) ⟨n, fun _ => p⟩ (fun l W F hs => have s := (hs.2 (F.xJ 15 [9] kr rfl)); aH rfl (bE (gf.hp _) (r7.mono (ep (fun b o A => s.2 b o (Ml A)))) isAgg113 sizeOf113)) (cY 10 rfl kr (.inl rfl) rfl dc (fun _ _ h => ⟨h.1, dW (by rfl) h.2⟩) ⟨n, fun _ => p⟩ (fun _ _ _ _ => aQ c9) (cY 11 rfl kr (.inl rfl) rfl dc (fun _ _ h => ⟨h.1, dW (by rfl) h.2⟩) ⟨n, fun _ => p⟩ (fun _ _ _ _ => aQ c1) (bS x fun Z k0 x => ?_)))))))))))))
            refine mB 12 rfl kr (.inl rfl) rfl dc (fun _ _ h => ⟨h.1, dW (by rfl) h.2⟩) ⟨n, fun _ => p⟩ (cX (i := Q) aD.out underlying111 sizeOf113 rfl rfl b6 (bV k0) (bQ k0)) (fun ca ⟨_, ⟨cp, rfl, j0⟩, r8, ak⟩ => cY 13 rfl kr (.inl rfl) rfl dc (fun _ _ h => ⟨h.1, dW (by rfl) h.2⟩) ⟨n, fun _ => p⟩ (fun l W F hs => have s := (hs.2 (F.xJ 15 [13] kr rfl)); aH rfl (bE (gf.hp _) (r8.mono (ep (fun b o A => s.2 b o (Ml A)))) isAgg113 sizeOf113)) (bS x fun cx f1 x => mB 14 rfl kr (.inl rfl) rfl dc (fun _ _ h => ⟨h.1, dW (by rfl) h.2⟩) ⟨n, fun _ => p⟩ (cX (i := Q) aD.out underlying111 sizeOf113 rfl rfl b6 (bV f1) (bQ f1)) (fun cb ⟨_, ⟨cq, rfl, av⟩, ap, q4⟩ => ?_)))
            obtain ⟨t9, u8, rfl⟩ := i9.form
            refine XO 15 rfl (ke (x1 := i4) aN d b6 rfl rfl (aD.mk ⟨(.slice t9 i4.Kids.length u8), rfl, i9⟩) q4 (bQ f1) sizeOf113 (fun bh bc d i6 => ?_))
            have n := d.has.aF Sn
            refine ⟨⟨n, fun h => tX kr h⟩, (bS x fun cy f2 x => mB 16 rfl kr (.inl rfl) rfl dc (fun _ _ h => ⟨h.1, dW (by rfl) h.2⟩) ⟨n, fun h => tX kr h⟩ (cX (i := (IntKind.i64.wrap (Q - 1))) aD.out underlying111 sizeOf113 rfl rfl i6 (bV f2) (bQ f2)) (fun cc ⟨_, ⟨cr, rfl, aw⟩, aq, q5⟩ => ?_))⟩
            obtain ⟨u0, u9, rfl⟩ := j0.form
            refine XO 17 rfl (ke (x1 := ((⟨Z.Op, Z.K, Z.aA, Z.Kids⟩ : Formula))) aN d i6 rfl rfl (aD.mk ⟨(.slice u0 Z.Kids.length u9), rfl, j0⟩) q5 (bQ f2) sizeOf113 (fun bi u2 d p0 => ?_))
            have n := d.has.aF Sn
            exact ⟨⟨n, fun h => tX kr h⟩, (dG kr (bY (aR (aU (Wh c1 (Wi rfl (Wa (ln ⟨y3, Nat.lt_succ_self _, ((((e2.set (Int.toNat Q) i4)).set (Int.toNat ((IntKind.i64.wrap (Q - 1)))) ((⟨Z.Op, Z.K, Z.aA, Z.Kids⟩ : Formula)))), u2, ((IntKind.i64.wrap (Q - 1))), _, (d.aF St), c9, l8, rfl, p0, x⟩))))))))⟩
          refine fI (fD (fD (kz (aR ?_))))
          have q := sj x; subst q
          exact ⟨d4, _, (d.aF St), b6⟩
      rintro bq E W ⟨d3, k8, d, s9⟩ q6
      refine bH (bU ?_)
      have q := sj q6; subst q
      exact iC rfl ⟨_, _, _, rfl, (d.ej (Kr Sn)), (bO.refl _), Lo.refl, (ST.cJ d (eE.mem (Kr Sn))), d3, rfl, rfl, s9⟩
  let g5 := ((IntKind.u64.wrap ((IntKind.i64.wrap (z + B)))))
  refine kg (Wm (Wm (Wi rfl (V (kF (k' := .i64) (a := (IntKind.i64.wrap (z + B))) underlying3 underlying353 rfl) (V (Bv (a := g5) (b := 1) rfl rfl dc) (V (kF (k' := .u64) (a := (Int.fdiv g5 (2 ^ min (Int.toNat 1) (IntKind.bits .u64)))) underlying353 underlying3 rfl) (Wa (lr ?_))))))))
  let P := ((IntKind.i64.wrap ((Int.fdiv g5 (2 ^ min (Int.toNat 1) (IntKind.bits .u64))))))
  let e5 := ((IntKind.i64.wrap (P + M)))
  refine Wm (Wm (Wi rfl (Wa (lr (Wa (Wa (ln (aW (CJ hm (fun i2 E W => ∃ l0, ST false (keys (c ++ [])) w W U (c ++ l0) ∧ E 0 = t ∧ E 1 = (.int .i64 z) ∧ E 2 = (.int .i64 M) ∧ E 3 = (.int .i64 B) ∧ E 4 = D ∧ E 18 = (.int .i64 P) ∧ E 19 = (.int .i64 e5) ∧ E 20 = (.int .i64 i2.1) ∧ E 21 = (.int .i64 i2.2)) (fun i2 b5 => ?_) ?_)))))))))
  · refine sg (Wm (Wm (Wi rfl (ln (CI b5 rfl (fun q1 b5 => ?_) (fun q1 b5 => ?_))))))
    · refine sg (Wm (Wm (Wi rfl (Wa (ln (aU (Wm (Wa (ln ?_)))))))))
      have q := sj b5; subst q
      exact ⟨_, (d.aF St), rfl, rfl, rfl, rfl, rfl, rfl, rfl, rfl, rfl⟩
    refine sg (Wm (Wa (ln (aU (Wm (Wa (ln ?_)))))))
    have q := sj b5; subst q
    exact ⟨_, (d.aF St), rfl, rfl, rfl, rfl, rfl, rfl, rfl, rfl, rfl⟩
  rintro ⟨z0, z1⟩ E W ⟨l0, d, v0, v1, v2, v3, v4, v5, l9, v6, v7⟩ q8
  refine sg (Wh l9 (Wi rfl (Wa (ln (aW (dN (fB (fun m E W => ∃ g K l1, ST false (keys (c ++ [])) w W U (c ++ l1) ∧ E 0 = t ∧ E 1 = (.int .i64 z) ∧ E 2 = (.int .i64 M) ∧ E 3 = (.int .i64 B) ∧ E 4 = D ∧ E 18 = (.int .i64 P) ∧ E 19 = (.int .i64 e5) ∧ E 20 = (.int .i64 g) ∧ E 21 = (.int .i64 K) ∧ E 22 = (.int .i64 ((IntKind.i64.wrap (e5 - 1)))) ∧ cQ a0 z B M f4 t6 m g K = some r) bL ⟨z0, z1, _, (d.aF St), v0, v1, v2, v3, v4, v5, l9, v6, v7, rfl, q8⟩ ?_)))))))
  rintro m E W ⟨g, K, l1, d, c2, d7, c3, d8, d0, d9, g1, b1, g2, g3, k⟩
  let g6 := ((IntKind.u64.wrap ((IntKind.i64.wrap (g + K)))))
  let a3 := ((Int.fdiv g6 (2 ^ min (Int.toNat 1) (IntKind.bits .u64))))
  let j2 := ((IntKind.i64.wrap a3))
  let a2 := ((IntKind.i64.wrap (e5 - g)))
  cases m with
  | zero => rw [cQ] at k; cases k
  | succ n4 =>
    refine aW (sg (Wh b1 (Wh g2 (Wi rfl (ln (CI k rfl (fun p6 k => ?_) (fun p6 k => ?_)))))))
    · refine kn (bg (Wh b1 (Wh g2 (Wi rfl (V (kF (k' := .i64) (a := (IntKind.i64.wrap (g + K))) underlying3 underlying353 rfl) (V (Bv (a := g6) (b := 1) rfl rfl dc) (V (kF (k' := .u64) (a := (Int.fdiv g6 (2 ^ min (Int.toNat 1) (IntKind.bits .u64)))) underlying353 underlying3 rfl) (Wa (ln (aW ?_))))))))))
      replace d := d.drew
      have n := d.has.aF (Kr Sn)
      refine cT n cE (X 0 rfl n (aQ d0) (X 1 rfl n (aQ c2) (X 2 rfl n (aQ g3) (X 3 rfl n (aQ rfl) (X 4 rfl n (cF rfl rfl rfl) (bS k fun z2 k1 k => XQ 5 rfl n (cX (i := (IntKind.i64.wrap (((IntKind.i64.wrap (e5 - 1))) - j2))) aD.out underlying111 sizeOf113 rfl rfl a5 (bV k1) (bQ k1)) (fun cd ⟨_, ⟨y6, rfl, t0⟩, r9, al⟩ => XH 6 rfl n (fun _ s => aH rfl (bE (gf.hp _) (r9.mono (ep (fun b o A => s.2 b o (Ml A)))) isAgg113 sizeOf113)) (X 7 rfl n (aQ c2) (X 8 rfl n (aQ rfl) (bS k fun z3 k2 k => XQ 9 rfl n (cX (i := (IntKind.i64.wrap a3)) aD.out underlying111 sizeOf113 rfl rfl a5 (bV k2) (bQ k2)) (fun ce ⟨_, ⟨y7, rfl, t1⟩, s0, am⟩ => XH 10 rfl n (fun _ s => aH rfl (bE (gf.hp _) (s0.mono (ep (fun b o A => s.2 b o (Ml A)))) isAgg113 sizeOf113)) (bS k fun cg s2 k => ?_))))))))))))
      refine XE 11 rfl (rT ((z2, z3)) d c6 (bO.refl _) (oO.mk aN aN (aD.mk ⟨y6, rfl, t0⟩) (aD.mk ⟨y7, rfl, t1⟩) d.aP) rfl (pC rfl rfl) s2 (fun bj d => ?_))
      have n := d.has.aF (Kr Sn)
      refine ⟨n, (X 12 rfl n (cF rfl rfl rfl) (X 13 rfl n (gn rfl) (dG kr (aR (CI k rfl (fun p7 k => ?_) (fun p7 k => ?_))))))⟩
      · exact aU (Wm (Wi rfl (Wa (bK (bY (aR ⟨n4, Nat.lt_succ_self _, ((IntKind.i64.wrap (j2 + 1))), K, _, (d.aF St), c2, d7, c3, d8, d0, d9, g1, rfl, g2, g3, k⟩))))))
      exact aU (Wm (Wa (bK (bY (aR ⟨n4, Nat.lt_succ_self _, g, j2, _, (d.aF St), c2, d7, c3, d8, d0, d9, g1, b1, rfl, g3, k⟩)))))
    refine fI (fD (fD (kz (aR (sg (Wh g1 (Wh b1 (Wi rfl (Wa (ln (aW (CJ k (fun n8 E W => ∃ b7 a4 l2, bO U a4 ∧ Lo (keys (c ++ [])) w U a4 ∧ ST false (keys (c ++ [])) w W a4 (b7 ++ l2) ∧ E 0 = t ∧ E 1 = (.int .i64 z) ∧ E 3 = (.int .i64 B) ∧ E 4 = D ∧ E 18 = (.int .i64 P) ∧ E 20 = (.int .i64 g) ∧ E 24 = (.int .i64 a2) ∧ cL 113 aD 5 a4 t n8 b7) (fun n8 r2 => ?_) ?_))))))))))))
    · refine sg (Wh b1 (Wh c3 (Wi rfl (Wm (LJ r2 (fun n9 E W => ∃ l6, ST false (keys (c ++ [])) w W U (c ++ l6) ∧ E 0 = t ∧ E 1 = (.int .i64 z) ∧ E 2 = (.int .i64 M) ∧ E 3 = (.int .i64 B) ∧ E 4 = D ∧ E 18 = (.int .i64 P) ∧ E 20 = (.int .i64 g) ∧ E 24 = (.int .i64 a2) ∧ E 185 = (.bool n9)) 4 ?_ (fun n9 b4 f6 => ?_))))))
      · rintro db E W ⟨l6, d, h4, m8, w7, m9, h5, n0, h6, h7, w8⟩ a8
        refine ln (CI a8 w8 (fun q0 a8 => ?_) (fun q0 a8 => ?_))
        · refine aU (Wh h4 (Wh h6 (Wh w7 (Wh h7 (Wh h5 (bS a8 fun cj s5 a8 => ?_))))))
          refine VE (eD d (Cr Qz Cn) call470 (fun hh => dR.dK (sh t a0 c g M a2 D f4 _ _ hh a5 (c6.mono (bO.refl _)) s5)) ?_)
          rintro _ cu z5 ba d o2 bk ⟨u5, e8, rfl, t4⟩
          obtain rfl := e8.symm
          replace d := d.perm (Tr Tn)
          refine ln ?_
          have q := sj a8; subst q
          exact ⟨u5, z5, _, o2, bk, (d.aF St), h4, m8, m9, h5, n0, h6, h7, t4⟩
        refine kn ?_
        have q := sj a8; subst q
        exact ⟨c, U, _, (bO.refl _), Lo.refl, (d.aF St), h4, m8, m9, h5, n0, h6, h7, a5⟩
      refine bC b4 (fun J b4 => ?_) (fun J b4 => ?_)
      · refine ug J (aQ c3) (ug J (aQ rfl) (ug J (cF rfl rfl rfl) (V (aY (cB J) rfl) ?_)))
        have q := sj b4; subst q
        exact f6 _ _ ⟨_, (d.aF St), c2, d7, c3, d8, d0, d9, b1, rfl, rfl⟩
      refine un J (un J (un J (V (aZ (cB J) rfl) ?_)))
      have q := sj b4; subst q
      exact f6 _ _ ⟨_, (d.aF St), c2, d7, c3, d8, d0, d9, b1, rfl, rfl⟩
    rintro y0 E W ⟨b7, a4, l2, c4, L, d, m0, g4, m1, m2, g7, e0, m3, j3⟩ q9
    refine aW (CJ q9 (fun n6 E W => ∃ b9 c5 l3, bO a4 c5 ∧ Lo (keys (c ++ [])) w a4 c5 ∧ ST false (keys (c ++ [])) w W c5 (b9 ++ l3) ∧ E 0 = t ∧ E 3 = (.int .i64 B) ∧ E 4 = D ∧ E 18 = (.int .i64 P) ∧ E 24 = (.int .i64 a2) ∧ cL 113 aD 5 c5 t n6 b9) (fun n6 r1 => ?_) ?_)
    · refine sg (Wh g4 (Wh e0 (Wi rfl (Wm (LJ r1 (fun n7 E W => ∃ l5, ST false (keys (c ++ [])) w W a4 (b7 ++ l5) ∧ E 0 = t ∧ E 1 = (.int .i64 z) ∧ E 3 = (.int .i64 B) ∧ E 4 = D ∧ E 18 = (.int .i64 P) ∧ E 20 = (.int .i64 g) ∧ E 24 = (.int .i64 a2) ∧ E 199 = (.bool n7)) 4 ?_ (fun n7 b3 f5 => ?_))))))
      · rintro da E W ⟨l5, d, h1, w4, m6, h2, h3, w5, m7, w6⟩ a7
        refine ln (CI a7 w6 (fun p9 a7 => ?_) (fun p9 a7 => ?_))
        · refine aU (Wh h1 (Wh w4 (Wh w5 (Wh h3 (Wh h2 (bS a7 fun ci s4 a7 => ?_))))))
          refine VE (eD d (Cr Qz Cn) call468 (fun hh => (s6 t y0 b7 z g P D f4 _ _ hh j3 (c6.mono c4) s4)) ?_)
          rintro _ ct z4 az d o1 aE ⟨u4, e7, rfl, t3⟩
          obtain rfl := e7.symm
          replace d := d.perm (Tr Tn)
          refine ln ?_
          have q := sj a7; subst q
          exact ⟨u4, z4, _, o1, aE, (d.aF St), h1, m6, h2, h3, m7, t3⟩
        refine kn ?_
        have q := sj a7; subst q
        exact ⟨b7, a4, _, (bO.refl _), Lo.refl, (d.aF St), h1, m6, h2, h3, m7, j3⟩
      refine bC b3 (fun I b3 => ?_) (fun I b3 => ?_)
      · refine ug I (aQ e0) (ug I (aQ g7) (ug I (cF rfl rfl rfl) (V (aY (cB I) rfl) ?_)))
        have q := sj b3; subst q
        exact f5 _ _ ⟨_, (d.aF St), m0, g4, m1, m2, g7, e0, m3, rfl⟩
      refine un I (un I (un I (V (aZ (cB I) rfl) ?_)))
      have q := sj b3; subst q
      exact f5 _ _ ⟨_, (d.aF St), m0, g4, m1, m2, g7, e0, m3, rfl⟩
    rintro y1 E W ⟨b9, c5, l3, d2, O, d, m4, g8, m5, g9, e1, j4⟩ r0
    refine sg (Wh g9 (Wh e1 (Wi rfl (Wm (LJ r0 (fun n5 E W => ∃ l4, ST false (keys (c ++ [])) w W c5 (b9 ++ l4) ∧ E 0 = t ∧ E 3 = (.int .i64 B) ∧ E 4 = D ∧ E 18 = (.int .i64 P) ∧ E 24 = (.int .i64 a2) ∧ E 213 = (.bool n5)) 4 ?_ (fun n5 b2 f3 => ?_))))))
    · rintro cz E W ⟨l4, d, v8, v9, w0, w1, w2, w3⟩ a6
      refine ln (CI a6 w3 (fun p8 a6 => ?_) (fun p8 a6 => ?_))
      · refine aU (Wh v8 (Wh w1 (Wh w2 (Wh v9 (Wh w0 (bS a6 fun ch s3 a6 => ?_))))))
        refine VE (eD d (Cr Qz Cn) call468 (fun hh => (s6 t y1 b9 P a2 B D f4 _ _ hh j4 (c6.mono (c4.trans d2)) s3)) ?_)
        rintro _ cs de ay d o0 ad ⟨u3, e6, rfl, t2⟩
        obtain rfl := e6.symm
        replace d := d.perm (Tr Tn)
        refine bK (jW ?_)
        have q := sj a6; subst q
        exact iC rfl ⟨_, _, _, rfl, (d.ej (Kr Sn)), ((c4.trans d2).trans o0), ((L.trans O).trans ad), (ST.cJ d (eE.mem (Kr Sn))), u3, rfl, rfl, t2⟩
      refine cZ (jW ?_)
      have q := sj a6; subst q
      exact iC rfl ⟨_, _, _, rfl, (d.ej (Kr Sn)), (c4.trans d2), (L.trans O), (ST.cJ d (eE.mem (Kr Sn))), b9, rfl, rfl, j4⟩
    refine bC b2 (fun H b2 => ?_) (fun H b2 => ?_)
    · refine ug H (aQ e1) (ug H (aQ g8) (ug H (cF rfl rfl rfl) (V (aY (cB H) rfl) ?_)))
      have q := sj b2; subst q
      exact f3 _ _ ⟨_, (d.aF St), m4, g8, m5, g9, e1, rfl⟩
    refine un H (un H (un H (V (aZ (cB H) rfl) ?_)))
    have q := sj b2; subst q
    exact f3 _ _ ⟨_, (d.aF St), m4, g8, m5, g9, e1, rfl⟩
theorem jI : ∀ (n : Nat) (c : Value) (k : List Formula) (a : LO) (t : Int) (u : Int) (x : Int) (g : Value) (y : ((Formula × Formula)) → Option Int) (r : List Formula) (w : World) {i : bW} (H : gj i (a ++ []) w) (B : cL 113 aD 5 i c k a) (D : qP Tryz.prog g i (oO aD aD) (fun (r : Int) => (.int .i64 r)) y) (_ : dQ n k t u x y = some r),
    dR false Tryz.prog 468 [c, (.int .i64 t), (.int .i64 u), (.int .i64 x), g] w i (a ++ []) (fun v z G => ∃ j, v = (.tuple #[]) ∧ z = (j ++ []) ∧ cL 113 aD 5 G c r j)
  | 0 => by intros; rename_i h; simp only [dQ] at h; cases h
  | n + 1 => pO (dQ n) (jI n)
theorem rY (a : Value) (a0 : List Formula) (c : LO) (Q : Int) (x : Value) (f2 : ((Formula × Formula)) → Option Int) (r : List Formula) (w : World) {μ0 : bW} (h0 : gj μ0 (c ++ []) w) (k4 : cL 113 aD 5 μ0 a a0 c) (c7 : qP Tryz.prog x μ0 (oO aD aD) (fun (r : Int) => (.int .i64 r)) f2) (hm : kp a0 Q f2 = some r) :
    dR false Tryz.prog 464 [a, (.int .i64 Q), x] w μ0 (c ++ []) (fun v L1 μ1 => ∃ S1, v = (.tuple #[]) ∧ L1 = (S1 ++ []) ∧ cL 113 aD 5 μ1 a r S1) := by
  refine nm h0 63 func464 rfl (fun b => sg (Wa (lr (Wm (Wa (Wa (ln (aW (dN (fB (fun m E W => ∃ d4 d0 d5 P d6 f1, bO μ0 d6 ∧ Lo (keys (c ++ [])) w μ0 d6 ∧ ST false (keys (c ++ [])) w W d6 (d0 ++ f1) ∧ E 0 = a ∧ E 1 = (.int .i64 Q) ∧ E 2 = x ∧ E 6 = (.int .i64 20) ∧ E 7 = (.int .i64 d5) ∧ E 8 = (.int .i64 P) ∧ cL 113 aD 5 d6 a d4 d0 ∧ er Q f2 m d4 d5 P = some r) bL ⟨a0, c, 0, 20, μ0, _, (bO.refl _), Lo.refl, (b.aF St), rfl, rfl, rfl, rfl, rfl, rfl, k4, hm⟩ ?_))))))))))
  rintro m E W ⟨d4, d0, d5, P, d6, f1, z, l, b, b4, b5, b6, d7, f4, b7, h1, i⟩
  cases m with
  | zero => rw [er] at i; cases i
  | succ k5 =>
    refine aW (sg (Wh b7 (Wh b5 (Wi rfl (ln (CI i rfl (fun i4 i => ?_) (fun i4 i => ?_)))))))
    · refine kn (bg (Wh b4 (Wh f4 (Wh b7 (Wh b6 (bS i fun k6 i7 i => ?_))))))
      refine VE (eD b (Cr Qz Cn) call467 (fun A => (lD a d4 d0 d5 P x f2 _ _ A h1 (c7.mono z) i7)) ?_)
      rintro _ m4 k8 l8 b g0 F ⟨k1, c8, rfl, j0⟩
      obtain rfl := c8.symm
      replace b := b.perm (Tr Tn)
      refine lr (Wh b7 (Wa (ln (aU (Wh b7 (Wh d7 (Wi rfl (Wa (bK (bY ?_))))))))))
      exact aR ⟨k5, Nat.lt_succ_self _, k6, k1, P, ((IntKind.i64.wrap (P + 20))), k8, _, (z.trans g0), (l.trans F), (b.aF St), b4, b5, b6, d7, rfl, rfl, j0, i⟩
    refine fI (fD (fD (kz (aR (sg (Wh b4 (Wh f4 (Wh b5 (Wh b6 (bS i fun k7 i8 i => ?_))))))))))
    refine VE (eD b (Cr Qz Cn) call467 (fun A => (lD a d4 d0 d5 Q x f2 _ _ A h1 (c7.mono z) i8)) ?_)
    rintro _ m5 R l9 b a5 L ⟨k2, c9, rfl, j3⟩
    obtain rfl := c9.symm
    replace b := b.perm (Tr Tn)
    refine ln (jO (CJ i (fun d8 E W => ∃ b2 a9 f3, bO R a9 ∧ Lo (keys (c ++ [])) w R a9 ∧ ST false (keys (c ++ [])) w W a9 (b2 ++ f3) ∧ cL 113 aD 5 a9 a d8 b2) (fun d8 i6 => ?_) ?_))
    · refine dN (fB (fun m E W => ∃ a2 I j k e0, bO R k ∧ Lo (keys (c ++ [])) w R k ∧ ST false (keys (c ++ [])) w W k (I ++ e0) ∧ E 0 = a ∧ E 1 = (.int .i64 Q) ∧ E 2 = x ∧ E 6 = (.int .i64 j) ∧ cL 113 aD 5 k a a2 I ∧ eo Q f2 m a2 j = some d8) bL ⟨k7, k2, 20, R, _, (bO.refl _), Lo.refl, (b.aF St), b4, b5, b6, d7, j3, i6⟩ ?_)
      rintro m E W ⟨a2, I, j, k, e0, B, d, b, h6, e4, h7, b3, d1, t⟩
      cases m with
      | zero => rw [eo] at t; cases t
      | succ j6 =>
        refine aW (sg (Wh b3 (Wh e4 (Wi rfl (ln (CI t rfl (fun f7 t => ?_) (fun f7 t => ?_)))))))
        · refine kn (bg (Wh b3 (Wi rfl (Wa (Wa (ln (aW (CJ t (fun a4 E W => ∃ J y e1, bO k y ∧ Lo (keys (c ++ [])) w k y ∧ ST false (keys (c ++ [])) w W y (J ++ e1) ∧ E 0 = a ∧ E 1 = (.int .i64 Q) ∧ E 2 = x ∧ E 6 = (.int .i64 j) ∧ E 7 = (.int .i64 a4.2) ∧ cL 113 aD 5 y a a4.1 J) (fun a4 g4 => ?_) ?_))))))))
          · refine dN (fB (fun m E W => ∃ a3 K M D H e3, bO k H ∧ Lo (keys (c ++ [])) w k H ∧ ST false (keys (c ++ [])) w W H (K ++ e3) ∧ E 0 = a ∧ E 1 = (.int .i64 Q) ∧ E 2 = x ∧ E 6 = (.int .i64 j) ∧ E 7 = (.int .i64 M) ∧ E 8 = (.int .i64 D) ∧ cL 113 aD 5 H a a3 K ∧ eL Q j f2 m a3 M D = some a4) bL ⟨a2, I, 0, ((IntKind.i64.wrap (2 * j))), k, _, (bO.refl _), Lo.refl, (b.aF St), h6, e4, h7, b3, rfl, rfl, d1, g4⟩ ?_)
            rintro m E W ⟨a3, K, M, D, H, e3, N, h, b, c2, c3, c4, Y, c5, Z, d3, g⟩
            cases m with
            | zero => rw [eL] at g; cases g
            | succ j7 =>
              refine aW (sg (Wh Z (Wh c3 (Wi rfl (ln (CI g rfl (fun f9 g => ?_) (fun f9 g => ?_)))))))
              · refine kn (bg (Wh c2 (Wh c5 (Wh c5 (Wh Y (Wi rfl (Wh Z (Wh c4 (bS g fun j8 g8 g => ?_)))))))))
                refine VE (eD b (Cr Qz Cn) call468 (fun A => ((jI bL) a a3 K M ((IntKind.i64.wrap (M + j))) D x f2 _ _ A d3 (c7.mono (((z.trans a5).trans B).trans N)) g8)) ?_)
                rintro _ l6 k0 l1 b f0 s ⟨h5, a7, rfl, h3⟩
                obtain rfl := a7.symm
                replace b := b.perm (Tr Tn)
                refine lr (Wh Z (Wa (ln (aU (Wh Z (Wh Y (Wi rfl (Wi rfl (Wa (bK ?_))))))))))
                exact bY (aR ⟨j7, Nat.lt_succ_self _, j8, h5, D, ((IntKind.i64.wrap (D + ((IntKind.i64.wrap (2 * j)))))), k0, _, (N.trans f0), (h.trans s), (b.aF St), c2, c3, c4, Y, rfl, rfl, h3, g⟩)
              refine fI (fD (fD (kz (aR ?_))))
              obtain rfl := sj g
              exact ⟨K, H, _, N, h, (b.aF St), c2, c3, c4, Y, c5, d3⟩
          rintro ⟨j4, e7⟩ E W ⟨J, y, e1, b0, n, b, b9, U, c0, c1, e5, d2⟩ g2
          refine aW (CJ g2 (fun e6 E W => ∃ T G e2, bO y G ∧ Lo (keys (c ++ [])) w y G ∧ ST false (keys (c ++ [])) w W G (T ++ e2) ∧ E 0 = a ∧ E 1 = (.int .i64 Q) ∧ E 2 = x ∧ E 6 = (.int .i64 j) ∧ cL 113 aD 5 G a e6 T) (fun e6 u => ?_) ?_)
          · refine sg (Wh e5 (Wh c1 (Wi rfl (Wa (lr (Wm (Wh U (Wi rfl (ln ?_)))))))))
            refine CI u rfl (fun f8 u => ?_) (fun f8 u => ?_)
            · refine aU (Wh b9 (Wh e5 (Wm (Wh U (Wh c0 (bS u fun l4 g7 u => ?_))))))
              refine VE (eD b (Cr Qz Cn) call468 (fun A => ((jI bL) a j4 J e7 ((IntKind.i64.wrap (e7 + j))) Q x f2 _ _ A d2 (c7.mono (((z.trans a5).trans B).trans b0)) g7)) ?_)
              rintro _ l5 j9 l0 b e9 q ⟨h4, a6, rfl, h2⟩
              obtain rfl := a6.symm
              replace b := b.perm (Tr Tn)
              refine ln ?_
              obtain rfl := sj u
              exact ⟨h4, j9, _, e9, q, (b.aF St), b9, U, c0, c1, h2⟩
            refine kn ?_
            obtain rfl := sj u
            exact ⟨J, y, _, (bO.refl _), Lo.refl, (b.aF St), b9, U, c0, c1, d2⟩
          rintro j5 E W ⟨T, G, e2, e8, p, b, h8, h9, i0, i1, g9⟩ g3
          exact aU (Wh i1 (Wi rfl (Wa (bK (bY (aR ⟨j6, Nat.lt_succ_self _, j5, T, ((IntKind.i64.wrap (j * 2))), G, _, ((B.trans b0).trans e8), ((d.trans n).trans p), (b.aF St), h8, h9, i0, rfl, g9, g3⟩))))))
        refine fI (fD (fD (kz (aR ?_))))
        obtain rfl := sj t
        exact ⟨I, k, _, B, d, (b.aF St), d1⟩
    rintro m3 E W ⟨b2, a9, f3, g1, O, b, i9⟩ i5
    refine jW ?_
    obtain rfl := sj i5
    exact iC rfl ⟨_, _, _, rfl, (b.ej (Kr Sn)), ((z.trans a5).trans g1), ((l.trans L).trans O), (ST.cJ b (eE.mem (Kr Sn))), b2, rfl, rfl, i9⟩
theorem rR (c : Value) (k : List Formula) (a : LO) (i : Value) (u : ((Formula × Formula)) → Option Int) (r : List Formula) (w : World) {t : bW} (J : gj t (a ++ []) w) (j : cL 113 aD 5 t c k a) (x : qP Tryz.prog i t (oO aD aD) (fun (r : Int) => (.int .i64 r)) u) (hm : iq k u = some r) :
    dR false Tryz.prog 457 [c, i] w t (a ++ []) (fun v I K => ∃ B, v = (.tuple #[]) ∧ I = (B ++ []) ∧ cL 113 aD 5 K c r B) := by
  refine nm J 9 func457 rfl (fun b => aU (Wm (Wm (V (lN underlying111 rfl j) (Wm (bS hm fun Q H hm => ?_))))))
  refine VE (eD b (Cr Qz Cn) call464 (fun h => (rY c k a ((k.length : Int)) i u _ _ h j (x.mono (bO.refl _)) H)) ?_)
  rintro _ T U M b y d ⟨D, g, rfl, z⟩
  obtain rfl := g.symm
  replace b := b.perm (Tr Tn)
  refine bK (jW ?_)
  obtain rfl := sj hm
  exact iC rfl ⟨_, _, _, rfl, (b.ej (Kr Sn)), y, d, (ST.cJ b (eE.mem (Kr Sn))), D, rfl, rfl, z⟩
theorem xH (A : (List Int) → Formula → Option (List Int)) (f2 : ∀ (a : Nat) (k : Value) (B : List Int) (g : LO) (j : Formula) (u : Value) (r : List Int) (w : World) {μ0 : bW} (h0 : gj μ0 ((a, Ob #[k] 92) :: (g ++ [])) w) (T : bG 5 (dM .u8) 1 k B g) (t : Sl aD 5 μ0 u j.Kids), A B j = some r → dV false Tryz.prog 471 [(.pointer (some ⟨a, 0, none⟩)), (.agg #[(.int .i64 j.Op), (.int .i64 j.K), (.string j.aA.aC), (.string j.aA.aJ), u])] w ((a, Ob #[k] 92) :: (g ++ [])) (fun v L1 W' => ∃ m S2, v = (.tuple #[]) ∧ L1 = ((a, Ob #[m] 92) :: (S2 ++ [])) ∧ bG 5 (dM .u8) 1 m r S2)) (a : Nat) (k : Value) (B : List Int) (g : LO) (j : Formula) (u : Value) (r : List Int) (w : World) {μ0 : bW} (h0 : gj μ0 ((a, Ob #[k] 92) :: (g ++ [])) w) (T : bG 5 (dM .u8) 1 k B g) (t : Sl aD 5 μ0 u j.Kids) (hm : oG A B j = some r) :
    dV false Tryz.prog 471 [(.pointer (some ⟨a, 0, none⟩)), (.agg #[(.int .i64 j.Op), (.int .i64 j.K), (.string j.aA.aC), (.string j.aA.aJ), u])] w ((a, Ob #[k] 92) :: (g ++ [])) (fun v L1 W' => ∃ m S2, v = (.tuple #[]) ∧ L1 = ((a, Ob #[m] 92) :: (S2 ++ [])) ∧ bG 5 (dM .u8) 1 m r S2) := by
  let b0 := ((a, Ob #[k] 92) :: (g ++ []))
  refine uY h0 40 func471 rfl (fun b => sg ?_)
  obtain ⟨A1, c2, rfl⟩ := t.form
  refine VE (bX b rfl (fun W4 b3 b => lr (Wm (Wf fq (VB b Mh rfl rfl isAgg3 (bS hm fun r5 g8 hm => ?_))))))
  refine VE (eM b (Cb (Pb Pz) (Cr (Qb Qz) Cn)) call268 (fun l _ => dV.dK (kP a k B g j.Op _ _ l T g8)) ?_)
  rintro _ j8 n j0 b e9 ad d ⟨F, a9, a2, rfl, a5⟩
  obtain rfl := a2.symm
  replace b := b.perm (Tb (Tr Tn))
  refine lS (Wf fq (VB b (Mt (Ma Mh)) rfl rfl isAgg3 (Wi rfl (ln (CI hm rfl (fun e8 hm => ?_) (fun e8 hm => ?_))))))
  · refine sg (Wm (Wf kU (VA b (Mt (Ma Mh)) (aM j.aA) isAgg28 sizeOf28 (bS hm fun j7 f0 hm => ?_))))
    refine VE (eM b (Cb Pz (Cr Qz Cn)) call269 (fun l _ => dV.dK (om a F r5.2 a9 j.aA _ _ l a5 f0)) ?_)
    rintro _ j9 k1 j3 b h6 ae d ⟨h3, g2, a3, rfl, f4⟩
    obtain rfl := a3.symm
    replace b := b.perm (Tb (Tr Tn))
    refine ln ?_
    replace b := b.aF (Kb (Kr (Db St)))
    refine bH (bU ?_)
    obtain rfl := sj hm
    exact iC rfl ⟨_, _, rfl, (b.ej (Kb (Kr Sn))), h3, g2, rfl, rfl, f4⟩
  refine kn (aW (CJ hm (fun b5 E W => ∃ q p L d6, bO n L ∧ ST false (keys b0) w W L ((a, Ob #[q] 92) :: ((b3, Ol (C1 j.Op j.K j.aA.aC j.aA.aJ A1 j.Kids.length c2) 113) :: (p ++ d6))) ∧ E 0 = (.pointer (some ⟨a, 0, none⟩)) ∧ E 3 = (.pointer (some ⟨b3, 0, none⟩)) ∧ bG 5 (dM .u8) 1 q b5 p) (fun b5 y => ?_) ?_))
  · refine sg (Wf fq (VB b (Mt (Ma Mh)) rfl rfl isAgg3 (Wi rfl (ln (CI y rfl (fun c4 y => ?_) (fun c4 y => ?_))))))
    · refine aU (Wm (Wf jm (VB b (Mt (Ma Mh)) rfl rfl isAgg3 (bS y fun i6 d0 y => ?_))))
      refine VE (eM b (Cb Pz (Cr Qz Cn)) call268 (fun l _ => dV.dK (kP a F r5.2 a9 j.K _ _ l a5 d0)) ?_)
      rintro _ i9 g1 h9 b b2 aa d ⟨f9, e3, N, rfl, d5⟩
      obtain rfl := N.symm
      replace b := b.perm (Tb (Tr Tn))
      refine ln ?_
      obtain rfl := sj y
      exact ⟨f9, e3, g1, _, b2, (b.aF (Kb (Sb (Pr Pz) St))), rfl, rfl, d5⟩
    refine kn ?_
    obtain rfl := sj y
    exact ⟨F, a9, n, _, (bO.refl _), (b.aF (Kb (Sb (Pr Pz) St))), rfl, rfl, a5⟩
  rintro g9 E W ⟨q, p, L, d6, c6, b, d7, d8, f3⟩ a0
  refine sg (Wh d7 (V (aO fu d8) (VB b (Mt Mh) rfl rfl isAgg111 (V (cU underlying111 rfl t) (bS a0 fun h2 f1 a0 => ?_)))))
  refine VE (eM b (Cb Pz (Cr (Qb Qz) Cn)) call268 (fun l _ => dV.dK (kP a q g9 p ((j.Kids.length : Int)) _ _ l f3 f1)) ?_)
  rintro _ k0 d9 j4 b c7 af d ⟨h4, g3, a4, rfl, f5⟩
  obtain rfl := a4.symm
  replace b := b.perm (Tb (Tr Tn))
  refine lr (V (aO fu d8) (VB b (Mt (Ma Mh)) rfl rfl isAgg111 (V (cU underlying111 rfl t) (Wm (ln ?_)))))
  replace b := b.aF (Kb (Kr (Db St)))
  refine jO (cK (fun i E W => ∃ D H z Q U, (E 32 = .int .i64 (i : Nat) ∧ E 31 = .int .i64 (j.Kids.length : Nat)) ∧ bO d9 Q ∧ ST false (keys b0) w W Q ((a, Ob #[D] 92) :: (z ++ U)) ∧ E 0 = (.pointer (some ⟨a, 0, none⟩)) ∧ E 30 = (.slice A1 j.Kids.length c2) ∧ bG 5 (dM .u8) 1 D H z ∧ jP A (j.Kids.drop i) H = some r) j.Kids.length t.len ⟨h4, h2.2, g3, d9, _, ⟨rfl, rfl⟩, (bO.refl _), (b.aF St), d7, rfl, f5, a0⟩ dc dc dc (fun _ _ _ h => by obtain ⟨_, _, _, _, _, P, _⟩ := h; exact P) ?_ ?_)
  · rintro f6 E W c5 ⟨D, H, z, Q, U, ⟨O, eN⟩, G, b, Y, Z, K, x⟩
    obtain ⟨c, h7, d2, d1, d3⟩ := cC c5
    rw [d2] at x
    refine bg (VQ (ei (i := (f6 : Int)) (x0 := c) aD.out underlying111 sizeOf113 Z O (t.mono aN.mono (((e9.trans c6).trans c7).trans G)) (Int.natCast_nonneg _) d1) (fun i5 ⟨_, ⟨i7, rfl, a7⟩, c8⟩ => V (aH rfl (bE b.has c8 isAgg113 sizeOf113)) (VE (bR b zeroValue113 (fun i0 i4 b => ?_)))))
    obtain ⟨I, J, rfl⟩ := a7.form
    let s := (C1 c.Op c.K c.aA.aC c.aA.aJ I c.Kids.length J)
    refine VO (aX (.agg s.toArray) (s.toArray) b rfl rfl sizeOf113 oc nb rfl (fun i1 b => ln (aU (Wh Y (VA b Mh s isAgg113 sizeOf113 (bS x fun f7 c9 x => ?_))))))
    refine VE (eM b (Cb (Pb Pz) (Cr (Qb Qz) Cn)) call471 (fun l ab => (f2 a D H z c (.slice I c.Kids.length J) _ _ l K (a7.mono aN.mono ab) c9)) ?_)
    rintro _ i8 g0 h8 b b1 R d ⟨f8, e2, M, rfl, d4⟩
    obtain rfl := M.symm
    replace b := b.perm (Tb (Tr Tn))
    refine bK (bY (aR ?_))
    replace b := b.aF (Kb (Kr (Db St)))
    exact ⟨O, f8, f7, e2, g0, _, ⟨rfl, eN⟩, (G.trans b1), (b.aF St), Y, Z, d4, (by rw [d3]; exact x)⟩
  rintro E W ⟨D, H, z, Q, U, ⟨O, eN⟩, G, b, Y, Z, K, x⟩
  rw [List.drop_length] at x
  refine aR (jW ?_)
  obtain rfl := sj x
  exact iC rfl ⟨_, _, rfl, (b.ej (Kb (Kr Sn))), D, z, rfl, rfl, K⟩
end Go.Proofs.YtmlncblocfcmiaaGreat
