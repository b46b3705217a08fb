/- a part of a proof of StuckWaits -/
import Derived.Test.YtmlncblocfcmiaaGreatSWMw
import Derived.Test.YtmlncblocfcmiaaGreatProg
set_option linter.all false
namespace Go.Proofs.YtmlncblocfcmiaaGreat
open Go.RowKit
set_option maxRecDepth 10000
abbrev K0 : Role := ⟨zS, zS⟩
abbrev K1 : ByteArray := ⟨#[120]⟩
abbrev K2 : ByteArray := ⟨#[99, 108, 105]⟩
abbrev K3 : ByteArray := ⟨#[121]⟩
abbrev K4 : ByteArray := ⟨#[111, 119, 110]⟩
abbrev K5 : ByteArray := ⟨#[122]⟩
abbrev K6 : bK := ⟨0⟩
abbrev K7 : Role := ⟨K1, K3⟩
abbrev K9 : Role := ⟨K1, K5⟩
abbrev Fk : Cred := ⟨0, K0, zS, K0, K0, zS⟩
abbrev qN : Cred := ⟨1, K7, K2, K0, K0, zS⟩
abbrev wv : Cred := ⟨1, K9, K4, K0, K0, zS⟩
abbrev C1 (p0 : ByteArray) (p1 : Option Addr) (p2 : Nat) (p3 : Nat) (p4 : Option Addr) (p5 : Nat) (p6 : Nat) (p7 : ByteArray) (p8 : Option Addr) (p9 : Nat) (p10 : Nat) (p11 : Option Addr) (p12 : Nat) (p13 : Nat) (p14 : Int) (p15 : Int) (p16 : ByteArray) (p17 : ByteArray) (p18 : Option Addr) (p19 : Nat) (p20 : Nat) (p21 : Int) (p22 : Int) (p23 : Int) (p24 : Int) (p25 : Int) (p26 : Int) (p27 : Option Addr) (p28 : Nat) (p29 : Nat) : List Value := [(.string p0), (.slice p1 p2 p3), (.slice p4 p5 p6), (.string p7), (.slice p8 p9 p10), (.slice p11 p12 p13), (.int .i64 p14), (.int .i64 p15), (.string p16), (.string p17), (.slice p18 p19 p20), (.int .i64 p21), (.int .i64 p22), (.int .i64 p23), (.int .i64 p24), (.int .i64 p25), (.int .i64 p26), (.slice p27 p28 p29)]
abbrev C2 (p0 : Int) (p1 : Int) (p2 : ByteArray) (p3 : ByteArray) (p4 : Option Addr) (p5 : Nat) (p6 : Nat) : List Value := [(.int .i64 p0), (.int .i64 p1), (.string p2), (.string p3), (.slice p4 p5 p6)]
abbrev C3 (p0 : Int) (p1 : ByteArray) (p2 : ByteArray) (p3 : ByteArray) (p4 : ByteArray) (p5 : ByteArray) (p6 : ByteArray) (p7 : ByteArray) (p8 : ByteArray) (p9 : Option Addr) (p10 : Nat) (p11 : Nat) (p12 : Int) (p13 : Int) (p14 : ByteArray) (p15 : ByteArray) (p16 : Option Addr) (p17 : Nat) (p18 : Nat) : List Value := [(.int .i64 p0), (.string p1), (.string p2), (.string p3), (.string p4), (.string p5), (.string p6), (.string p7), (.string p8), (.slice p9 p10 p11), (.int .i64 p12), (.int .i64 p13), (.string p14), (.string p15), (.slice p16 p17 p18)]
abbrev C4 (p0 : Int) (p1 : ByteArray) (p2 : ByteArray) (p3 : ByteArray) (p4 : ByteArray) (p5 : ByteArray) (p6 : ByteArray) (p7 : ByteArray) (p8 : ByteArray) (p9 : Option Addr) (p10 : Nat) (p11 : Nat) : List Value := [(.int .i64 p0), (.string p1), (.string p2), (.string p3), (.string p4), (.string p5), (.string p6), (.string p7), (.string p8), (.slice p9 p10 p11)]
abbrev C5 : List Value := [(.int .i64 0), (.int .i64 0), (.string zS), (.string zS), (.slice none 0 0)]
abbrev C6 (p0 : ByteArray) (p1 : Option Addr) (p2 : Nat) (p3 : Nat) (p4 : Option Addr) (p5 : Nat) (p6 : Nat) : List Value := [(.string p0), (.slice p1 p2 p3), (.slice p4 p5 p6)]
abbrev C7 (p0 : Int) (p1 : ByteArray) (p2 : ByteArray) (p3 : ByteArray) (p4 : ByteArray) (p5 : ByteArray) (p6 : ByteArray) (p7 : ByteArray) (p8 : ByteArray) (p9 : Option Addr) (p10 : Nat) (p11 : Nat) (p12 : ByteArray) (p13 : ByteArray) : List Value := [(.int .i64 p0), (.string p1), (.string p2), (.string p3), (.string p4), (.string p5), (.string p6), (.string p7), (.string p8), (.slice p9 p10 p11), (.int .i64 1), (.int .i64 0), (.string p12), (.string p13), (.slice none 0 0)]
abbrev C8 : List Value := [(.int .i64 0), (.string (K0.Owner)), (.string (K0.Word)), (.string zS), (.string (K0.Owner)), (.string (K0.Word)), (.string (K0.Owner)), (.string (K0.Word)), (.string zS), (.slice none 0 0), (.int .i64 0), (.int .i64 0), (.string zS), (.string zS), (.slice none 0 0)]
abbrev C9 (p0 : ByteArray) (p1 : ByteArray) (p2 : Int) (p3 : Int) (p4 : ByteArray) (p5 : ByteArray) (p6 : Option Addr) (p7 : Nat) (p8 : Nat) (p9 : Option Addr) (p10 : Nat) (p11 : Nat) : List Value := [(.string p0), (.string p1), (.int .i64 p2), (.int .i64 p3), (.string p4), (.string p5), (.slice p6 p7 p8), (.slice p9 p10 p11)]
abbrev Ep (p0 : Option Addr) (p1 : Nat) (p2 : Nat) (p3 : Option Addr) (p4 : Nat) (p5 : Nat) : List Value := [(.string K4), (.slice p0 p1 p2), (.slice none 0 0), (.string K2), (.slice p3 p4 p5), (.slice none 0 0), (.int .i64 0), (.int .i64 0), (.string zS), (.string zS), (.slice none 0 0), (.int .i64 0), (.int .i64 0), (.int .i64 0), (.int .i64 0), (.int .i64 0), (.int .i64 0), (.slice none 0 0)]
abbrev wo : List Value := [(.int .i64 2), (.int .i64 0), (.string zS), (.string zS), (.slice none 0 0)]
abbrev Bo (p0 : Int) : List Value := [(.int .i64 p0), (.int .i64 0), (.string zS), (.string zS), (.slice none 0 0)]
abbrev BL : List Value := [(.int .i64 3), (.int .i64 0), (.string zS), (.string zS), (.slice none 0 0)]
theorem bO : Tryz.prog.follows .mixedOrders = true := by rfl
theorem kE : Tryz.prog.info? 5 = some Tryz.t5 ∧ Tryz.t5.zero = some (.int .u8 0) ∧ Tryz.t5.size = 1 ∧ Tryz.t5.bytes = 1 := ⟨by kernel_rfl, by kernel_rfl, by kernel_rfl, by kernel_rfl⟩
theorem pK : Tryz.prog.info? 28 = some Tryz.t28 ∧ Tryz.t28.zero = some (.agg #[(.string ⟨#[]⟩), (.string ⟨#[]⟩)]) ∧ Tryz.t28.size = 2 ∧ Tryz.t28.bytes = 32 := ⟨by kernel_rfl, by kernel_rfl, by kernel_rfl, by kernel_rfl⟩
theorem wx : Tryz.prog.info? 38 = some Tryz.t38 ∧ Tryz.t38.zero = some (.agg #[(.string ⟨#[]⟩), (.string ⟨#[]⟩), (.string ⟨#[]⟩)]) ∧ Tryz.t38.size = 3 ∧ Tryz.t38.bytes = 48 := ⟨by kernel_rfl, by kernel_rfl, by kernel_rfl, by kernel_rfl⟩
theorem io : Tryz.prog.info? 53 = some Tryz.t53 ∧ Tryz.t53.zero = some (.agg #[(.int .i64 0), (.string ⟨#[]⟩), (.string ⟨#[]⟩), (.string ⟨#[]⟩), (.string ⟨#[]⟩), (.string ⟨#[]⟩), (.string ⟨#[]⟩), (.string ⟨#[]⟩), (.string ⟨#[]⟩)]) ∧ Tryz.t53.size = 9 ∧ Tryz.t53.bytes = 136 := ⟨by kernel_rfl, by kernel_rfl, by kernel_rfl, by kernel_rfl⟩
theorem gB : Tryz.prog.info? 113 = some Tryz.t113 ∧ Tryz.t113.zero = some (.agg #[(.int .i64 0), (.int .i64 0), (.string ⟨#[]⟩), (.string ⟨#[]⟩), (.slice none 0 0)]) ∧ Tryz.t113.size = 5 ∧ Tryz.t113.bytes = 72 := ⟨by kernel_rfl, by kernel_rfl, by kernel_rfl, by kernel_rfl⟩
theorem ul : Tryz.prog.info? 138 = some Tryz.t138 ∧ Tryz.t138.zero = some (.agg #[(.int .i64 0), (.string ⟨#[]⟩), (.string ⟨#[]⟩), (.string ⟨#[]⟩), (.string ⟨#[]⟩), (.string ⟨#[]⟩), (.string ⟨#[]⟩), (.string ⟨#[]⟩), (.string ⟨#[]⟩), (.slice none 0 0), (.int .i64 0), (.int .i64 0), (.string ⟨#[]⟩), (.string ⟨#[]⟩), (.slice none 0 0)]) ∧ Tryz.t138.size = 15 ∧ Tryz.t138.bytes = 232 := ⟨by kernel_rfl, by kernel_rfl, by kernel_rfl, by kernel_rfl⟩
theorem ut : Tryz.prog.info? 263 = some Tryz.t263 ∧ Tryz.t263.zero = some (.agg #[(.string ⟨#[]⟩), (.string ⟨#[]⟩), (.int .i64 0), (.int .i64 0), (.string ⟨#[]⟩), (.string ⟨#[]⟩), (.slice none 0 0), (.slice none 0 0)]) ∧ Tryz.t263.size = 8 ∧ Tryz.t263.bytes = 128 := ⟨by kernel_rfl, by kernel_rfl, by kernel_rfl, by kernel_rfl⟩
theorem ne : dH Tryz.prog 28 0 0 := cJ Tryz.underlying28 rfl Tryz.sizeOf9 (by decide) rfl
theorem oa : dH Tryz.prog 28 1 1 := cJ Tryz.underlying28 rfl Tryz.sizeOf9 (by decide) rfl
theorem B7 : (Tryz.prog.fieldsOf 28).toList = (match Tryz.prog.underlying 28 with | some (.struct fs) => fs.toList | _ => []) := by rw [Tryz.underlying28]; simp [Program.fieldsOf, Tryz.underlying28]
theorem ot (d : Nat) (x y : Role) (W : World) : (Op.equalIn (d + 2) 28 (.agg (aO x).toArray) (.agg (aO y).toArray)).run Tryz.prog W = .ok (bF x y) W := by
  rw [run_equalIn_struct W (d + 1) 28 _ _ (by kernel_rfl) Tryz.stoodInHeld28, B7, Tryz.underlying28]
  exact (jP (by decide) (kH Tryz.isAgg9 rfl) (kH Tryz.isAgg9 rfl) (Dh Tryz.underlying9 _ _ _ _) (jP (by decide) (kH Tryz.isAgg9 rfl) (kH Tryz.isAgg9 rfl) (Dh Tryz.underlying9 _ _ _ _) (tT _ _ _)))
theorem AG : ∀ fs, Tryz.prog.underlying 28 = some (.struct fs) → ∀ w, (fs.mapM (fun (f : Field) => do pure (f.offset, ← sizeOf f.type)) : Sem (Array (Nat × Nat))).run Tryz.prog w = .ok #[(0, 1), (1, 1)] w := by
  intro fs h w
  rw [Tryz.underlying28] at h
  cases h
  kernel_rfl
theorem oV : dH Tryz.prog 53 0 0 := cJ Tryz.underlying53 rfl Tryz.sizeOf3 (by decide) rfl
theorem lR : dH Tryz.prog 53 1 1 := cJ Tryz.underlying53 rfl Tryz.sizeOf28 (by decide) rfl
theorem rM : dH Tryz.prog 53 2 3 := cJ Tryz.underlying53 rfl Tryz.sizeOf9 (by decide) rfl
theorem jb : dH Tryz.prog 53 3 4 := cJ Tryz.underlying53 rfl Tryz.sizeOf28 (by decide) rfl
theorem oP : dH Tryz.prog 53 4 6 := cJ Tryz.underlying53 rfl Tryz.sizeOf28 (by decide) rfl
theorem pC : dH Tryz.prog 53 5 8 := cJ Tryz.underlying53 rfl Tryz.sizeOf9 (by decide) rfl
theorem Da : (Tryz.prog.fieldsOf 53).toList = (match Tryz.prog.underlying 53 with | some (.struct fs) => fs.toList | _ => []) := by rw [Tryz.underlying53]; simp [Program.fieldsOf, Tryz.underlying53]
theorem ov (d : Nat) (x y : Cred) (W : World) : (Op.equalIn (d + 3) 53 (.agg (aJ x).toArray) (.agg (aJ y).toArray)).run Tryz.prog W = .ok (bG x y) W := by
  rw [run_equalIn_struct W (d + 2) 53 _ _ (by kernel_rfl) Tryz.stoodInHeld53, Da, Tryz.underlying53]
  exact (jP (by decide) (kH Tryz.isAgg3 rfl) (kH Tryz.isAgg3 rfl) (FP Tryz.underlying3 _ _ _ _) (jP (by decide) (pn Tryz.isAgg28 Tryz.sizeOf28 rfl) (pn Tryz.isAgg28 Tryz.sizeOf28 rfl) (ot _ x.Head y.Head W) (jP (by decide) (kH Tryz.isAgg9 rfl) (kH Tryz.isAgg9 rfl) (Dh Tryz.underlying9 _ _ _ _) (jP (by decide) (pn Tryz.isAgg28 Tryz.sizeOf28 rfl) (pn Tryz.isAgg28 Tryz.sizeOf28 rfl) (ot _ x.B y.B W) (jP (by decide) (pn Tryz.isAgg28 Tryz.sizeOf28 rfl) (pn Tryz.isAgg28 Tryz.sizeOf28 rfl) (ot _ x.C y.C W) (jP (by decide) (kH Tryz.isAgg9 rfl) (kH Tryz.isAgg9 rfl) (Dh Tryz.underlying9 _ _ _ _) (tT _ _ _)))))))
theorem Cz : ∀ fs, Tryz.prog.underlying 53 = some (.struct fs) → ∀ w, (fs.mapM (fun (f : Field) => do pure (f.offset, ← sizeOf f.type)) : Sem (Array (Nat × Nat))).run Tryz.prog w = .ok #[(0, 1), (1, 2), (3, 1), (4, 2), (6, 2), (8, 1)] w := by
  intro fs h w
  rw [Tryz.underlying53] at h
  cases h
  kernel_rfl
theorem yF : dH Tryz.prog 38 0 0 := cJ Tryz.underlying38 rfl Tryz.sizeOf28 (by decide) rfl
theorem rN : dH Tryz.prog 38 1 2 := cJ Tryz.underlying38 rfl Tryz.sizeOf9 (by decide) rfl
theorem ED : ∀ fs, Tryz.prog.underlying 38 = some (.struct fs) → ∀ w, (fs.mapM (fun (f : Field) => do pure (f.offset, ← sizeOf f.type)) : Sem (Array (Nat × Nat))).run Tryz.prog w = .ok #[(0, 2), (2, 1)] w := by
  intro fs h w
  rw [Tryz.underlying38] at h
  cases h
  kernel_rfl
theorem zX : dH Tryz.prog 376 0 0 := cJ Tryz.underlying376 rfl Tryz.sizeOf57 (by decide) rfl
theorem E9 : ∀ fs, Tryz.prog.underlying 376 = some (.struct fs) → ∀ w, (fs.mapM (fun (f : Field) => do pure (f.offset, ← sizeOf f.type)) : Sem (Array (Nat × Nat))).run Tryz.prog w = .ok #[(0, 1)] w := by
  intro fs h w
  rw [Tryz.underlying376] at h
  cases h
  kernel_rfl
theorem D1 : dH Tryz.prog 196 0 0 := cJ Tryz.underlying196 rfl Tryz.sizeOf9 (by decide) rfl
theorem DJ : dH Tryz.prog 196 1 1 := cJ Tryz.underlying196 rfl Tryz.sizeOf54 (by decide) rfl
theorem rK : dH Tryz.prog 56 0 0 := cJ Tryz.underlying56 rfl Tryz.sizeOf53 (by decide) rfl
theorem Ej : dH Tryz.prog 56 1 9 := cJ Tryz.underlying56 rfl Tryz.sizeOf54 (by decide) rfl
theorem FD : ∀ fs, Tryz.prog.underlying 56 = some (.struct fs) → ∀ w, (fs.mapM (fun (f : Field) => do pure (f.offset, ← sizeOf f.type)) : Sem (Array (Nat × Nat))).run Tryz.prog w = .ok #[(0, 9), (9, 1)] w := by
  intro fs h w
  rw [Tryz.underlying56] at h
  cases h
  kernel_rfl
theorem qk : dH Tryz.prog 92 0 0 := cJ Tryz.underlying92 rfl Tryz.sizeOf54 (by decide) rfl
theorem EJ : ∀ fs, Tryz.prog.underlying 92 = some (.struct fs) → ∀ w, (fs.mapM (fun (f : Field) => do pure (f.offset, ← sizeOf f.type)) : Sem (Array (Nat × Nat))).run Tryz.prog w = .ok #[(0, 1)] w := by
  intro fs h w
  rw [Tryz.underlying92] at h
  cases h
  kernel_rfl
theorem kC : dH Tryz.prog 113 0 0 := cJ Tryz.underlying113 rfl Tryz.sizeOf3 (by decide) rfl
theorem nK : dH Tryz.prog 113 1 1 := cJ Tryz.underlying113 rfl Tryz.sizeOf3 (by decide) rfl
theorem nL : dH Tryz.prog 113 2 2 := cJ Tryz.underlying113 rfl Tryz.sizeOf28 (by decide) rfl
theorem jL : dH Tryz.prog 113 3 4 := cJ Tryz.underlying113 rfl Tryz.sizeOf111 (by decide) rfl
theorem nQ : ∀ fs, Tryz.prog.underlying 113 = some (.struct fs) → ∀ w, (fs.mapM (fun (f : Field) => do pure (f.offset, ← sizeOf f.type)) : Sem (Array (Nat × Nat))).run Tryz.prog w = .ok #[(0, 1), (1, 1), (2, 2), (4, 1)] w := by
  intro fs h w
  rw [Tryz.underlying113] at h
  cases h
  kernel_rfl
theorem qh : dH Tryz.prog 138 0 0 := cJ Tryz.underlying138 rfl Tryz.sizeOf56 (by decide) rfl
theorem uv : dH Tryz.prog 138 1 10 := cJ Tryz.underlying138 rfl Tryz.sizeOf113 (by decide) rfl
theorem Dm : ∀ fs, Tryz.prog.underlying 138 = some (.struct fs) → ∀ w, (fs.mapM (fun (f : Field) => do pure (f.offset, ← sizeOf f.type)) : Sem (Array (Nat × Nat))).run Tryz.prog w = .ok #[(0, 10), (10, 5)] w := by
  intro fs h w
  rw [Tryz.underlying138] at h
  cases h
  kernel_rfl
theorem Ac : dH Tryz.prog 263 0 0 := cJ Tryz.underlying263 rfl Tryz.sizeOf28 (by decide) rfl
theorem Al : dH Tryz.prog 263 1 2 := cJ Tryz.underlying263 rfl Tryz.sizeOf113 (by decide) rfl
theorem zK : dH Tryz.prog 263 2 7 := cJ Tryz.underlying263 rfl Tryz.sizeOf22 (by decide) rfl
theorem pk : dH Tryz.prog 110 0 0 := cJ Tryz.underlying110 rfl Tryz.sizeOf9 (by decide) rfl
theorem kZ : dH Tryz.prog 110 1 1 := cJ Tryz.underlying110 rfl Tryz.sizeOf107 (by decide) rfl
theorem ur : dH Tryz.prog 110 2 2 := cJ Tryz.underlying110 rfl Tryz.sizeOf108 (by decide) rfl
theorem vF : ∀ fs, Tryz.prog.underlying 110 = some (.struct fs) → ∀ w, (fs.mapM (fun (f : Field) => do pure (f.offset, ← sizeOf f.type)) : Sem (Array (Nat × Nat))).run Tryz.prog w = .ok #[(0, 1), (1, 1), (2, 1)] w := by
  intro fs h w
  rw [Tryz.underlying110] at h
  cases h
  kernel_rfl
theorem mr : dH Tryz.prog 116 0 0 := cJ Tryz.underlying116 rfl Tryz.sizeOf110 (by decide) rfl
theorem mG : dH Tryz.prog 116 1 3 := cJ Tryz.underlying116 rfl Tryz.sizeOf110 (by decide) rfl
theorem D8 : dH Tryz.prog 116 2 6 := cJ Tryz.underlying116 rfl Tryz.sizeOf113 (by decide) rfl
theorem Dq : dH Tryz.prog 116 8 17 := cJ Tryz.underlying116 rfl Tryz.sizeOf49 (by decide) rfl
theorem AJ : ∀ fs, Tryz.prog.underlying 116 = some (.struct fs) → ∀ w, (fs.mapM (fun (f : Field) => do pure (f.offset, ← sizeOf f.type)) : Sem (Array (Nat × Nat))).run Tryz.prog w = .ok #[(0, 3), (3, 3), (6, 5), (11, 1), (12, 2), (14, 1), (15, 1), (16, 1), (17, 1)] w := by
  intro fs h w
  rw [Tryz.underlying116] at h
  cases h
  kernel_rfl
theorem nJ : dH Tryz.prog 294 0 0 := cJ Tryz.underlying294 rfl Tryz.sizeOf290 (by decide) rfl
theorem xe : dH Tryz.prog 294 1 1 := cJ Tryz.underlying294 rfl Tryz.sizeOf22 (by decide) rfl
theorem Af : dH Tryz.prog 294 2 2 := cJ Tryz.underlying294 rfl Tryz.sizeOf291 (by decide) rfl
theorem wG : dH Tryz.prog 294 3 3 := cJ Tryz.underlying294 rfl Tryz.sizeOf292 (by decide) rfl
theorem qe : dH Tryz.prog 294 4 4 := cJ Tryz.underlying294 rfl Tryz.sizeOf68 (by decide) rfl
theorem uB : dH Tryz.prog 294 5 5 := cJ Tryz.underlying294 rfl Tryz.sizeOf3 (by decide) rfl
theorem E1 : ∀ fs, Tryz.prog.underlying 294 = some (.struct fs) → ∀ w, (fs.mapM (fun (f : Field) => do pure (f.offset, ← sizeOf f.type)) : Sem (Array (Nat × Nat))).run Tryz.prog w = .ok #[(0, 1), (1, 1), (2, 1), (3, 1), (4, 1), (5, 1)] w := by
  intro fs h w
  rw [Tryz.underlying294] at h
  cases h
  kernel_rfl
def iN : iX Key := fun μ ys x => ∃ (v0 : Value), ys = [.string x.Who, v0] ∧ Sl (Pl (cT .u8)) 1 μ v0 x.Key
theorem iN.out {μ : aY} {ys : List Value} {x : Key} (h : iN μ ys x) : ∃ (v0 : Value), ys = [.string x.Who, v0] ∧ Sl (Pl (cT .u8)) 1 μ v0 x.Key := h
theorem iN.mk {μ : aY} {ys : List Value} {x : Key} (h : ∃ (v0 : Value), ys = [.string x.Who, v0] ∧ Sl (Pl (cT .u8)) 1 μ v0 x.Key) : iN μ ys x := h
theorem ns : Deep iN 2 where
  mono := by rintro _ _ _ _ hs ⟨v0, rfl, h0⟩; exact ⟨v0, rfl, h0.mono (Pl.mono _) hs⟩
  len := by rintro _ _ _ ⟨v0, rfl, h0⟩; rfl
  one := by
    rintro _ _ _ ⟨v0, rfl, h0⟩
    intro u hu; simp only [List.mem_cons, List.not_mem_nil, or_false] at hu; rcases hu with rfl | rfl
    · rfl
    · exact h0.cell1
def kV : iX Signed := fun μ ys x => ∃ (v0 : Value), ys = [.int .i64 x.Cred.Kind, .string x.Cred.Head.Owner, .string x.Cred.Head.Word, .string x.Cred.Who, .string x.Cred.B.Owner, .string x.Cred.B.Word, .string x.Cred.C.Owner, .string x.Cred.C.Word, .string x.Cred.Word2, v0] ∧ Sl (Pl (cT .u8)) 1 μ v0 x.Tag
theorem kV.out {μ : aY} {ys : List Value} {x : Signed} (h : kV μ ys x) : ∃ (v0 : Value), ys = [.int .i64 x.Cred.Kind, .string x.Cred.Head.Owner, .string x.Cred.Head.Word, .string x.Cred.Who, .string x.Cred.B.Owner, .string x.Cred.B.Word, .string x.Cred.C.Owner, .string x.Cred.C.Word, .string x.Cred.Word2, v0] ∧ Sl (Pl (cT .u8)) 1 μ v0 x.Tag := h
theorem kV.mk {μ : aY} {ys : List Value} {x : Signed} (h : ∃ (v0 : Value), ys = [.int .i64 x.Cred.Kind, .string x.Cred.Head.Owner, .string x.Cred.Head.Word, .string x.Cred.Who, .string x.Cred.B.Owner, .string x.Cred.B.Word, .string x.Cred.C.Owner, .string x.Cred.C.Word, .string x.Cred.Word2, v0] ∧ Sl (Pl (cT .u8)) 1 μ v0 x.Tag) : kV μ ys x := h
theorem qf : Deep kV 10 where
  mono := by rintro _ _ _ _ hs ⟨v0, rfl, h0⟩; exact ⟨v0, rfl, h0.mono (Pl.mono _) hs⟩
  len := by rintro _ _ _ ⟨v0, rfl, h0⟩; rfl
  one := by
    rintro _ _ _ ⟨v0, rfl, h0⟩
    intro u hu; simp only [List.mem_cons, List.not_mem_nil, or_false] at hu; rcases hu with rfl | rfl | rfl | rfl | rfl | rfl | rfl | rfl | rfl | rfl
    · rfl
    · rfl
    · rfl
    · rfl
    · rfl
    · rfl
    · rfl
    · rfl
    · rfl
    · exact h0.cell1
def nU : Nat → iX Formula
  | 0 => fun _ _ _ => False
  | n + 1 => fun μ ys x => ∃ (v0 : Value), ys = [.int .i64 x.Op, .int .i64 x.K, .string x.Role.Owner, .string x.Role.Word, v0] ∧ Sl (nU n) 5 μ v0 x.Kids
def aH : iX Formula := fun μ ys x => ∃ n, nU n μ ys x
theorem tS : ∀ n, xT (nU n)
  | 0 => fun _ _ _ _ _ h => h
  | n + 1 => by rintro _ _ _ _ hs ⟨v0, rfl, h0⟩; exact ⟨v0, rfl, h0.mono (tS n) hs⟩
theorem wu : ∀ n m (μ : aY) (ys : List Value) (x : Formula), n ≤ m → nU n μ ys x → nU m μ ys x
  | 0, _, _, _, _, _, h => h.elim
  | n + 1, 0, _, _, _, hl, _ => absurd hl (by omega)
  | n + 1, m + 1, μ, ys, x, hl, h => by
    obtain ⟨v0, rfl, h0⟩ := h
    exact ⟨v0, rfl, h0.imp fun ys x h => wu n m μ ys x (by omega) h⟩
theorem aH.out {μ : aY} {ys : List Value} {x : Formula} (h : aH μ ys x) : ∃ (v0 : Value), ys = [.int .i64 x.Op, .int .i64 x.K, .string x.Role.Owner, .string x.Role.Word, v0] ∧ Sl aH 5 μ v0 x.Kids := by
  obtain ⟨n, h⟩ := h
  cases n with
  | zero => exact h.elim
  | succ n =>
    obtain ⟨v0, rfl, h0⟩ := h
    exact ⟨v0, rfl, h0.imp fun ys x h => ⟨n, h⟩⟩
theorem aH.mk {μ : aY} {ys : List Value} {x : Formula} (h : ∃ (v0 : Value), ys = [.int .i64 x.Op, .int .i64 x.K, .string x.Role.Owner, .string x.Role.Word, v0] ∧ Sl aH 5 μ v0 x.Kids) : aH μ ys x := by
  obtain ⟨v0, rfl, h0⟩ := h
  obtain ⟨n, hn⟩ := h0.bound (fun _ _ h => h) (fun a b ys x hl h => wu a b _ ys x hl h)
  exact ⟨n + 1, v0, rfl, hn⟩
theorem aQ : Deep aH 5 where
  mono := fun _ _ _ _ hs ⟨n, h⟩ => ⟨n, tS n _ _ _ _ hs h⟩
  len := by rintro _ _ _ h; obtain ⟨v0, rfl, h0⟩ := h.out; rfl
  one := by
    rintro _ _ _ h
    obtain ⟨v0, rfl, h0⟩ := h.out
    intro u hu; simp only [List.mem_cons, List.not_mem_nil, or_false] at hu; rcases hu with rfl | rfl | rfl | rfl | rfl
    · rfl
    · rfl
    · rfl
    · rfl
    · exact h0.cell1
def bB : iX aV := fun μ ys x => ∃ (v0 : Value) (v1 : Value), ys = [.int .i64 x.Signed.Cred.Kind, .string x.Signed.Cred.Head.Owner, .string x.Signed.Cred.Head.Word, .string x.Signed.Cred.Who, .string x.Signed.Cred.B.Owner, .string x.Signed.Cred.B.Word, .string x.Signed.Cred.C.Owner, .string x.Signed.Cred.C.Word, .string x.Signed.Cred.Word2, v0, .int .i64 x.Release.Op, .int .i64 x.Release.K, .string x.Release.Role.Owner, .string x.Release.Role.Word, v1] ∧ Sl (Pl (cT .u8)) 1 μ v0 x.Signed.Tag ∧ Sl aH 5 μ v1 x.Release.Kids
theorem bB.out {μ : aY} {ys : List Value} {x : aV} (h : bB μ ys x) : ∃ (v0 : Value) (v1 : Value), ys = [.int .i64 x.Signed.Cred.Kind, .string x.Signed.Cred.Head.Owner, .string x.Signed.Cred.Head.Word, .string x.Signed.Cred.Who, .string x.Signed.Cred.B.Owner, .string x.Signed.Cred.B.Word, .string x.Signed.Cred.C.Owner, .string x.Signed.Cred.C.Word, .string x.Signed.Cred.Word2, v0, .int .i64 x.Release.Op, .int .i64 x.Release.K, .string x.Release.Role.Owner, .string x.Release.Role.Word, v1] ∧ Sl (Pl (cT .u8)) 1 μ v0 x.Signed.Tag ∧ Sl aH 5 μ v1 x.Release.Kids := h
theorem bB.mk {μ : aY} {ys : List Value} {x : aV} (h : ∃ (v0 : Value) (v1 : Value), ys = [.int .i64 x.Signed.Cred.Kind, .string x.Signed.Cred.Head.Owner, .string x.Signed.Cred.Head.Word, .string x.Signed.Cred.Who, .string x.Signed.Cred.B.Owner, .string x.Signed.Cred.B.Word, .string x.Signed.Cred.C.Owner, .string x.Signed.Cred.C.Word, .string x.Signed.Cred.Word2, v0, .int .i64 x.Release.Op, .int .i64 x.Release.K, .string x.Release.Role.Owner, .string x.Release.Role.Word, v1] ∧ Sl (Pl (cT .u8)) 1 μ v0 x.Signed.Tag ∧ Sl aH 5 μ v1 x.Release.Kids) : bB μ ys x := h
theorem bD : Deep bB 15 where
  mono := by rintro _ _ _ _ hs ⟨v0, v1, rfl, h0, h1⟩; exact ⟨v0, v1, rfl, h0.mono (Pl.mono _) hs, h1.mono aQ.mono hs⟩
  len := by rintro _ _ _ ⟨v0, v1, rfl, h0, h1⟩; rfl
  one := by
    rintro _ _ _ ⟨v0, v1, rfl, h0, h1⟩
    intro u hu; simp only [List.mem_cons, List.not_mem_nil, or_false] at hu; rcases hu with rfl | rfl | rfl | rfl | rfl | rfl | rfl | rfl | rfl | rfl | rfl | rfl | rfl | rfl | rfl
    · rfl
    · rfl
    · rfl
    · rfl
    · rfl
    · rfl
    · rfl
    · rfl
    · rfl
    · exact h0.cell1
    · rfl
    · rfl
    · rfl
    · rfl
    · exact h1.cell1
def cN : iX eS := fun μ ys x => ∃ (v0 : Value) (v1 : Value), ys = [.string x.Role.Owner, .string x.Role.Word, .int .i64 x.Release.Op, .int .i64 x.Release.K, .string x.Release.Role.Owner, .string x.Release.Role.Word, v0, v1] ∧ Sl aH 5 μ v0 x.Release.Kids ∧ Sl (Pl aJ) 9 μ v1 x.Closure
theorem cN.out {μ : aY} {ys : List Value} {x : eS} (h : cN μ ys x) : ∃ (v0 : Value) (v1 : Value), ys = [.string x.Role.Owner, .string x.Role.Word, .int .i64 x.Release.Op, .int .i64 x.Release.K, .string x.Release.Role.Owner, .string x.Release.Role.Word, v0, v1] ∧ Sl aH 5 μ v0 x.Release.Kids ∧ Sl (Pl aJ) 9 μ v1 x.Closure := h
theorem cN.mk {μ : aY} {ys : List Value} {x : eS} (h : ∃ (v0 : Value) (v1 : Value), ys = [.string x.Role.Owner, .string x.Role.Word, .int .i64 x.Release.Op, .int .i64 x.Release.K, .string x.Release.Role.Owner, .string x.Release.Role.Word, v0, v1] ∧ Sl aH 5 μ v0 x.Release.Kids ∧ Sl (Pl aJ) 9 μ v1 x.Closure) : cN μ ys x := h
theorem dV : Deep cN 8 where
  mono := by rintro _ _ _ _ hs ⟨v0, v1, rfl, h0, h1⟩; exact ⟨v0, v1, rfl, h0.mono aQ.mono hs, h1.mono (Pl.mono _) hs⟩
  len := by rintro _ _ _ ⟨v0, v1, rfl, h0, h1⟩; rfl
  one := by
    rintro _ _ _ ⟨v0, v1, rfl, h0, h1⟩
    intro u hu; simp only [List.mem_cons, List.not_mem_nil, or_false] at hu; rcases hu with rfl | rfl | rfl | rfl | rfl | rfl | rfl | rfl
    · rfl
    · rfl
    · rfl
    · rfl
    · rfl
    · rfl
    · exact h0.cell1
    · exact h1.cell1
theorem wB : iM Tryz.prog 9 Value.string eT := iM.string Tryz.underlying9
theorem pL : iM Tryz.prog 28 (fun (x : Role) => (.agg (aO x).toArray)) bF :=
  iM.struct Tryz.underlying28 (fun d x y W => ot (d + 8) x y W) (fun b k W => we Tryz.underlying28 rfl (List.forall_mem_cons.2 ⟨fun _ => ⟨.string k.Owner, kH Tryz.isAgg9 rfl, oM Tryz.underlying9 _ _ _ _⟩, (List.forall_mem_cons.2 ⟨fun _ => ⟨.string k.Word, kH Tryz.isAgg9 rfl, oM Tryz.underlying9 _ _ _ _⟩, (fun _ h => by cases h)⟩)⟩))
    (fun k x h => (bA.1 h).symm) (fun k => by simp [Instr.sameBits, aO, tV, fT])
theorem lh (a : Cred) (c : Role) (r : List aV) (w : World) {I : aY} (K : ie I [] w)  (hm : gx a c = some r) :
    dO true Tryz.prog 172 [(.agg (aJ a).toArray), (.agg (aO c).toArray)] w I [] (fun v J M => ∃ (H : Value), v = H ∧ J = [] ∧ Sl bB 15 M H (r)) := by
  have hST := ST.startE (dd := true) K
  unfold gx at hm
  refine cF 12 Tryz.func172 rfl (aC (aA (VE (cH (v := (.agg (aJ a).toArray)) hST rfl (fun W2 b1 hST => VE (cH (v := (.agg (aO c).toArray)) hST rfl (fun W4 b3 hST => V (aF rfl) (aD (aG (aC ?_))))))))))
  replace hST := hST.drew
  have hS0 := hST.has.sel (Kb (Kb Sn))
  refine cU hS0 bO (XH 0 rfl hS0 (fun _ hS => aI rfl (aK hS (Mt Mh) (aJ a) rfl Tryz.isAgg53 Tryz.sizeOf53)) (XH 3 rfl hS0 (fun _ hS => aI rfl (aK hS Mh (aO c) rfl Tryz.isAgg28 Tryz.sizeOf28)) (X 4 rfl hS0 (dX (qs := #[(0, (.int .i64 1)), (2, (.agg (aO c).toArray))]) (v := (.agg #[(.int .i64 1), (.int .i64 0), (.string c.Owner), (.string c.Word), (.slice none 0 0)])) (iK rfl rfl) (cV Tryz.zeroValue113 Tryz.underlying113 (nQ _ Tryz.underlying113) (by kernel_rfl))) (bS hm fun g y hm => XE 1 rfl (zk (enc := (cT .u8)) (z := 0) hST (fun _ => rfl) (by decide) Tryz.underlying54 kE.1 kE.2.1 kE.2.2.1 kE.2.2.2 rfl rfl rfl y (fun Q U N hST u => ?_))))))
  have hS0 := hST.has.sel (Dr (Kb (Kb Sn)))
  refine ⟨hS0, ?_⟩
  obtain ⟨i, j, rfl⟩ := u.form
  refine X 2 rfl hS0 (dX (qs := #[(0, (.agg (aJ a).toArray)), (1, (.slice i g.length j))]) (v := (.agg (C4 a.Kind a.Head.Owner a.Head.Word a.Who a.B.Owner a.B.Word a.C.Owner a.C.Word a.Word2 i g.length j).toArray)) (iK rfl rfl) (cV Tryz.zeroValue56 Tryz.underlying56 (FD _ Tryz.underlying56) (by kernel_rfl))) (X 5 rfl hS0 (dX (qs := #[(0, (.agg (C4 a.Kind a.Head.Owner a.Head.Word a.Who a.B.Owner a.B.Word a.C.Owner a.C.Word a.Word2 i g.length j).toArray)), (1, (.agg #[(.int .i64 1), (.int .i64 0), (.string c.Owner), (.string c.Word), (.slice none 0 0)]))]) (v := (.agg (C7 a.Kind a.Head.Owner a.Head.Word a.Who a.B.Owner a.B.Word a.C.Owner a.C.Word a.Word2 i g.length j c.Owner c.Word).toArray)) (iK rfl rfl) (cV Tryz.zeroValue138 Tryz.underlying138 (Dm _ Tryz.underlying138) (by kernel_rfl))) ?_)
  obtain ⟨Y, hST, k, hl43, D⟩ := ST.pub1 hST u (fun _ => rfl)
  refine XE 6 rfl (bU (qs := #[(0, (.agg (C7 a.Kind a.Head.Owner a.Head.Word a.Who a.B.Owner a.B.Word a.C.Owner a.C.Word a.Word2 i g.length j c.Owner c.Word).toArray))]) (cs := (C7 a.Kind a.Head.Owner a.Head.Word a.Who a.B.Owner a.B.Word a.C.Owner a.C.Word a.Word2 i g.length j c.Owner c.Word).toArray) hST (fH rfl) (eF [(.agg (C7 a.Kind a.Head.Owner a.Head.Word a.Who a.B.Owner a.B.Word a.C.Owner a.C.Word a.Word2 i g.length j c.Owner c.Word).toArray)] Tryz.underlying107 Tryz.sizeOf138 Tryz.zeroValue138 (by decide) rfl (by intro v hv; simp only [List.mem_cons, List.not_mem_nil, or_false] at hv; rcases hv with rfl <;> rfl) rfl rfl) (fun T t hST => ?_))
  have hS0 := hST.has.selS k (Db (Kb (Kb Sn)))
  refine ⟨hS0, (X 7 rfl hS0 (aF rfl) (dC (by kernel_rfl) (aG ?_)))⟩
  replace hST := hST.sel (Kb (Db (Db St)))
  refine aS ?_
  have hx := sj hm; subst hx
  refine dI (v := (.slice (some ⟨t, 0, none⟩) 1 1)) rfl rfl ?_
  obtain ⟨Z, hST, x, hl49, G⟩ := ST.pubD (B := [(t, Obj.cells ((C7 a.Kind a.Head.Owner a.Head.Word a.Who a.B.Owner a.B.Word a.C.Owner a.C.Word a.Word2 i g.length j c.Owner c.Word).toArray : Array Value) 138 (0, 0))]) bD hST (bX.lit bD (l := [(⟨(⟨a, g⟩ : Signed), (⟨1, 0, c, []⟩ : Formula)⟩ : aV)]) (.cons (ys := C7 a.Kind a.Head.Owner a.Head.Word a.Who a.B.Owner a.B.Word a.C.Owner a.C.Word a.Word2 i g.length j c.Owner c.Word) (bB.mk ⟨(.slice i g.length j), (.slice none 0 0), rfl, D, (Sl.nil _ _ _)⟩) .nil) rfl nb rfl)
  exact ⟨_, _, _, rfl, (hST.bkM Sn), (k.trans x), (hl43.trans hl49), (ST.sub_hpx hST (eQ.mem Sn)), (.slice (some ⟨t, 0, none⟩) 1 1), rfl, rfl, G⟩
theorem nj (g : Value) (i : List Cred) (r : List Cred) (w : World) (a : Sl (Pl aJ) 9 (hp w) g i) (hm : ic i = some r) :
    fD true Tryz.prog 228 [g] w 53 aJ 9 r := by
  have hST := ST.start (dd := true) w
  unfold ic at hm
  refine cF 8 Tryz.func228 rfl (aC (aA (V (aF rfl) (aD (aG (aC (aC (aA (V (aB rfl) ?_)))))))))
  obtain ⟨y, B, rfl⟩ := a.form
  refine V (pI Tryz.underlying22 rfl rfl) (aD (aG ?_))
  rcases y with _ | z
  · have u := a.isNil
    replace hm : some [] = some r := by rw [u] at hm; simpa [gT, maxLen] using hm
    refine nF (rfl) (aC (aA (V (aF rfl) (aD (aG (aS (cR ?_)))))))
    have hx := sj hm; subst hx
    exact dI (v := (.slice none 0 0)) rfl rfl ⟨_, [], rfl, hST.backRow (fun p hq => by cases hq) (by simp), bE.nil _ _ _⟩
  · refine kp (rfl) (aT (aG (aC (aA (VE (bU (qs := #[]) (cs := #[]) hST lT (eF [] Tryz.underlying22 Tryz.sizeOf53 Tryz.zeroValue53 (by decide) rfl (by simp) rfl rfl) (fun G k hST => V (aB rfl) (bS hm fun H t hm => VE (kj (enc := aJ) (v := (.slice (some ⟨k, 0, none⟩) 0 0)) (vs := (.slice (some z) i.length B)) (R := [(k, Obj.cells (#[] : Array Value) 53 (0, 0))]) hST bV (by decide) gC Tryz.underlying22 io.1 io.2.1 rfl io.2.2.1 io.2.2.2 rfl rfl (bE.lit (l := []) (enc := aJ) rfl (by decide) rfl rfl) (a.mono (Pl.mono _) hST.sub_hp) t (fun D x j hST c => V (aF rfl) (aD (aG (aS ?_)))))))))))))
    have hx := sj hm; subst hx
    exact dI (v := x) rfl rfl ⟨_, j, rfl, hST.backRow (fun p hq => (Ml hq)) c.nd, c⟩
theorem qD (g : Value) (t : List Cred) (j : Value) (B : Cred → Option Bool) (r : Int) (w : World) (c : Sl (Pl aJ) 9 (hp w) g t) (D : pQ Tryz.prog j (hp w) (fun (x : Cred) => [(.agg (aJ x).toArray)]) (fun (r : Bool) => (.bool r)) B) (hm : jU t B = some r) :
    bW false Tryz.prog 260 [g, j] w (.int .i64 r) := by
  have hST := ST.start (dd := false) w
  unfold jU at hm
  refine cF 19 Tryz.func260 rfl (aC (aA (V (aF rfl) (aD (aG (aC (aC (aA (V (aB rfl) (V (eH Tryz.underlying22 rfl c) (V (aB rfl) (aD (aG (dP (fun i E W => ∃  (k : List (Nat × Obj)), (E 8 = .int .i64 (i : Nat) ∧ E 7 = .int .i64 (t.length : Nat)) ∧ ST false dW w W (hp w) k ∧ E 0 = g ∧ E 1 = j ∧ eY B (t.drop i) i = some r) t.length c.len ⟨_, ⟨rfl, rfl⟩, (hST.sel St), rfl, rfl, hm⟩ (by decide) (by decide) (by decide) (fun _ _ _ h => by obtain ⟨_, eIN, _⟩ := h; exact eIN) ?_ ?_))))))))))))))
  · rintro Q E W H ⟨k, ⟨eI, eN⟩, hST, u, y, a⟩
    obtain ⟨z, T, M, K, N⟩ := dB H
    rw [M] at a
    rw [eY] at a
    refine aU (aC (aA (V (aB eI) (V (aF rfl) (aD (aG (aC (aA (V (aB y) (V (aB u) (V (aB rfl) (VQ (lm (enc := aJ) (i := (Q : Int)) (x0 := z) Tryz.underlying22 Tryz.sizeOf53 rfl rfl c (Int.natCast_nonneg _) K) (fun Y I => V (aI rfl (bN hST.has I Tryz.isAgg53 Tryz.sizeOf53)) (bS a fun Z J a => ?_))))))))))))))
    refine VE (CA z hST D (aW.refl _) rfl (lQ rfl) J (fun U hST => aD (aG (CI a rfl (fun G a => ?_) (fun G a => ?_)))))
    · refine aC (aA (V (aB rfl) (V (aF rfl) (aD (aG (aS (gA (cR (gA (cR ?_))))))))))
      have hx := sj a; subst hx
      exact rP hST
    exact aT (cM (aG ⟨eI, _, ⟨rfl, eN⟩, (hST.sel St), u, y, (by rw [N]; exact a)⟩))
  rintro E W ⟨k, ⟨eI, eN⟩, hST, u, y, a⟩
  rw [List.drop_length] at a
  rw [eY] at a
  refine aG (aC (aA (V (aF rfl) (aD (aG (aS ?_))))))
  have hx := sj a; subst hx
  exact rP hST
theorem ll (j : Value) (a0 : List Cred) (t : List (Nat × Obj)) (H : Value) (f1 : Cred → Option Bool) (r : List Cred) (w : World) {μ0 : aY} (h0 : ie μ0 (t ++ []) w) (T : bE 53 aJ 9 j a0 t) (a4 : pQ Tryz.prog H μ0 (fun (x : Cred) => [(.agg (aJ x).toArray)]) (fun (r : Bool) => (.bool r)) f1) (hm : fR a0 f1 = some r) :
    dJ false Tryz.prog 143 [j, H] w (t ++ []) (fun v L1 W' => ∃ (y1 : Value) (S2 : List (Nat × Obj)), v = y1 ∧ L1 = (S2 ++ []) ∧ bE 53 aJ 9 y1 r S2) := by
  have hST := ST.startE (dd := false) h0
  unfold fR at hm
  refine cF 42 Tryz.func143 rfl (aC (aA (V (aF rfl) (aD (aG (aC (aA (V (aB rfl) (V (aB rfl) (bS hm fun r1 d3 hm => VE (Eg hST Tryz.call260 ((qD j a0 H f1 _ _ (T.sl bV (fun b o hq => hST.at_ (Ml hq))) (a4.mono hST.sub_hp) d3)) (fun W3 hST => V (aF rfl) (aD (aG ?_))))))))))))))
  refine aC (aC (aA (V (aB rfl) (V (aP rfl rfl rfl) (aD (aG (CI hm rfl (fun d2 hm => ?_) (fun d2 hm => ?_))))))))
  · refine aC (aA (V (aB rfl) (V (aF rfl) (aD (aG (aS (cR ?_)))))))
    have hx := sj hm; subst hx
    exact dI (v := j) rfl rfl ⟨_, _, rfl, (hST.bkM (Kr Sn)), j, t, rfl, rfl, T⟩
  refine aT (aG (aC (aC (aA (V (aB rfl) (V (aP rfl rfl rfl) (V (aF rfl) (aD (aG (aU (gH (fun m E W => ∃ (U : List Cred) (I : List (Nat × Obj)) (B : Int) (D : Int) (a2 : List (Nat × Obj)), ST false (keys (t ++ [])) w W μ0 (I ++ a2) ∧ E 0 = j ∧ E 1 = H ∧ E 5 = (.int .i64 B) ∧ E 6 = (.int .i64 D) ∧ bE 53 aJ 9 j U I ∧ eV f1 m U B D = some r) bR ⟨a0, t, r1, ((IntKind.i64.wrap (r1 + 1))), _, (hST.sel St), rfl, rfl, rfl, rfl, T, hm⟩ ?_)))))))))))
  rintro m E W ⟨U, I, B, D, a2, hST, y, Q, G, K, g, a⟩
  cases m with
  | zero => rw [eV] at a; cases a
  | succ c8 =>
    rw [eV] at a
    refine aC (aC (aA (V (aB K) (V (aB y) (V (eP Tryz.underlying22 rfl g) (V (aP rfl rfl rfl) (aD (aG (CI a rfl (fun b0 a => ?_) (fun b0 a => ?_))))))))))
    · refine aT (aG (aC (CJ a (fun Y E W => ∃ (J : List (Nat × Obj)) (a3 : List (Nat × Obj)), ST false (keys (t ++ [])) w W μ0 (J ++ a3) ∧ E 0 = j ∧ E 1 = H ∧ E 5 = (.int .i64 Y.2) ∧ E 6 = (.int .i64 D) ∧ bE 53 aJ 9 j Y.1 J) (fun Y c => ?_) ?_)))
      · refine aU (aC (aA (V (aB y) (V (aB K) (bS c fun k M c => VQ (jh (i := D) (x0 := k) Tryz.underlying22 Tryz.sizeOf53 rfl rfl g (bM M) (bJ M)) (fun e4 b3 => V (aI rfl (mc hST.has (fun p hq => (Ml hq)) g bV b3 (bJ M) Tryz.isAgg53 Tryz.sizeOf53)) (VE (cA hST Tryz.zeroValue53 (fun d7 e2 hST => VO (aX (.agg (aJ k).toArray) ((aJ k).toArray) hST rfl rfl Tryz.sizeOf53 (gC k) nb rfl (fun d8 hST => aD (aG (aC (aA (V (aB Q) ?_)))))))))))))))
        refine V (aI rfl (aK hST.has Mh (aJ k) rfl Tryz.isAgg53 Tryz.sizeOf53)) (bS c fun e6 b5 c => VE (CA k hST a4 (aW.refl _) rfl (lQ rfl) b5 (fun d9 hST => V (iS rfl) (aD (aG (CI c rfl (fun b1 c => ?_) (fun b1 c => ?_)))))))
        · refine aC (aA (V (aB y) (V (aB G) (V (aI rfl (aK hST.has Mh (aJ k) rfl Tryz.isAgg53 Tryz.sizeOf53)) (bS c fun d0 N c => VQ (jh (i := B) (x0 := d0) Tryz.underlying22 Tryz.sizeOf53 rfl rfl g (bM N) (bJ N)) (fun e5 b4 => ?_))))))
          replace hST := hST.perm (Nr (Qb Qz) Nz)
          refine VO (sw (u := (.agg (aJ k).toArray)) (x1 := k)  hST g bV gC rfl rfl rfl b4 (bJ N) Tryz.sizeOf53 (fun e0 c1 hST a8 => aD (aG ?_)))
          replace hST := hST.sel (Kr (Db St))
          refine aA (V (aB G) (V (aP rfl rfl rfl) (V (aF rfl) (aD (cM (aG ?_))))))
          have hx := sj c; subst hx
          exact ⟨c1, _, (hST.sel St), y, Q, rfl, K, a8⟩
        refine aT (cM (aG ?_))
        have hx := sj c; subst hx
        exact ⟨I, _, (hST.sel (Db St)), y, Q, G, K, g⟩
      rintro ⟨c7, c9⟩ E W ⟨J, a3, hST, c3, c4, c5, c6, b6⟩ b2
      exact aA (V (aB c6) (V (aP rfl rfl rfl) (V (aF rfl) (aD (aG ⟨c8, Nat.lt_succ_self _, c7, J, c9, ((IntKind.i64.wrap (D + 1))), _, (hST.sel St), c3, c4, c5, rfl, b6, b2⟩)))))
    refine gI (gc (gc (li (aG (aC (aA (V (aB y) (V (aB G) (bS a fun _ Z a => VQ (pu (i := B) Tryz.underlying22 Tryz.sizeOf53 rfl rfl g (nE Z) (nR Z)) (fun e7 b7 => VO (ra (z := Fk)  hST g bV gC Tryz.underlying22 Tryz.zeroValue53 b7 rfl rfl (fun e1 c2 hST a9 => aD (aG (aC (aA (V (aB y) ?_))))))))))))))))
    refine V (aB G) (bS a fun _ a1 a => VQ (tw (i := B) Tryz.underlying22 Tryz.sizeOf53 rfl rfl a9 bV (nE a1) (nR a1)) (fun a5 b9 => V (aF rfl) (aD (aG (aS ?_)))))
    have hx := sj a; subst hx
    exact dI (v := a5) rfl rfl ⟨_, _, rfl, (hST.bkM (Kr Sn)), a5, c2, rfl, rfl, b9⟩
theorem EW (w : World) (s : ByteArray) (c : Int) : (callFunc 395 [Value.string s, .int .u8 c].toArray).run Tryz.prog w = .ok (.value (.int .i64 (nM s c))) w := wI Tryz.func395 (by kernel_rfl) (by kernel_rfl) (by kernel_rfl) (by kernel_rfl) s c w
theorem oq (a : ByteArray) (c : Int) (r : Int) (w : World)  (hm : fS a c = some r) :
    bW true Tryz.prog 341 [(.string a), (.int .u8 c)] w (.int .i64 r) := by
  have hST := ST.start (dd := true) w
  unfold fS at hm
  refine cF 8 Tryz.func341 rfl (aC (aA (V (aF rfl) (aD (aG (aC (aA (V (aB rfl) (V (aB rfl) (VE (AB (args := [(.string a), (.int .u8 c)]) (v := .int .i64 (nM a c)) rfl (by exact no rfl rfl) (EW _ a c) (V (aF rfl) (aD (aG (aS ?_)))))))))))))))
  have hx := sj hm; subst hx
  exact rP hST
theorem pa (a : ByteArray) (c : Int) (r : Int) (w : World)  (hm : iW a c = some r) :
    bW true Tryz.prog 266 [(.string a), (.int .u8 c)] w (.int .i64 r) := by
  have hST := ST.start (dd := true) w
  unfold iW at hm
  refine cF 8 Tryz.func266 rfl (aC (aA (V (aF rfl) (aD (aG (aC (aA (V (aB rfl) (V (aB rfl) (bS hm fun j g hm => VE (Eg hST Tryz.call341 ((oq a c _ _  g)) (fun i hST => V (aF rfl) (aD (aG ?_))))))))))))))
  refine aS ?_
  have hx := sj hm; subst hx
  exact rP hST
theorem zu (I : ByteArray) (r : Bool) (w : World)  (hm : pv I = some r) :
    bW true Tryz.prog 267 [(.string I)] w (.bool r) := by
  have hST := ST.start (dd := true) w
  unfold pv at hm
  refine cF 16 Tryz.func267 rfl (aC (aA (V (aF rfl) (aD (aG (aC (aC (aA (V (aB rfl) (bS hm fun H J hm => VE (xy hST Tryz.underlying9 Tryz.underlying54 Tryz.underlying5 rfl J (fun W3 N T hST M hl7 j Y => V (eH Tryz.underlying54 rfl j) (V (aB rfl) (aD ?_))))))))))))))
  refine aG (dP (fun i E W => ∃  (c : List (Nat × Obj)), (E 8 = .int .i64 (i : Nat) ∧ E 7 = .int .i64 (H.length : Nat)) ∧ ST true dW w W T c ∧ E 6 = N ∧ ke (H.drop i) = some r) H.length j.len ⟨_, ⟨rfl, rfl⟩, (hST.sel St), rfl, hm⟩ (by decide) (by decide) (by decide) (fun _ _ _ h => by obtain ⟨_, eIN, _⟩ := h; exact eIN) ?_ ?_)
  · rintro K E W u ⟨c, ⟨eI, eN⟩, hST, g, a⟩
    obtain ⟨k, Q, D, B, G⟩ := dB u
    rw [D] at a
    rw [ke] at a
    refine aU (aC (aA (VQ (lm (enc := (cT .u8)) (i := (K : Int)) (x0 := k) Tryz.underlying54 Tryz.sizeOf5 g eI j (Int.natCast_nonneg _) B) (fun Z x => V (aI rfl (lZ hST.has (y := (.int .u8 k)) x Tryz.isAgg5)) (V (aF rfl) (aD (aG (aC (aA (V (aB rfl) (bS a fun a1 z a => VE (Eg hST Tryz.call266 ((pa ((⟨#[97, 98, 99, 100, 101, 102, 103, 104, 105, 106, 107, 108, 109, 110, 111, 112, 113, 114, 115, 116, 117, 118, 119, 120, 121, 122, 48, 49, 50, 51, 52, 53, 54, 55, 56, 57, 45]⟩ : ByteArray)) k _ _  z)) (fun U hST => V (aP rfl rfl rfl) (aD ?_))))))))))))))
    refine aG (CI a rfl (fun t a => ?_) (fun t a => ?_))
    · refine aC (aA (V (aF rfl) (aD (aG (aS (gA (cR (gA (cR ?_)))))))))
      have hx := sj a; subst hx
      exact rP hST
    exact aT (cM (aG ⟨eI, _, ⟨rfl, eN⟩, (hST.sel St), g, (by rw [G]; exact a)⟩))
  rintro E W ⟨c, ⟨eI, eN⟩, hST, g, a⟩
  rw [List.drop_length] at a
  rw [ke] at a
  refine aG (aC (aA (V (aF rfl) (aD (aG (aS ?_))))))
  have hx := sj a; subst hx
  exact rP hST
theorem nx (z : ByteArray) (r : Bool) (w : World)  (hm : jG z = some r) :
    bW true Tryz.prog 152 [(.string z)] w (.bool r) := by
  have hST := ST.start (dd := true) w
  unfold jG at hm
  refine cF 21 Tryz.func152 rfl (aC (aA (V (aF rfl) (aD (aG (aC (aA (V (aB rfl) (V (iO Tryz.underlying9 rfl) (V (aP rfl rfl rfl) (V (aB rfl) (LJ hm (fun K E W => ∃  (Y : List (Nat × Obj)), ST true dW w W (hp w) Y ∧ E 0 = (.string z) ∧ E 2 = (.bool false) ∧ E 10 = (.bool K)) 4 ?_ (fun K t y => ?_)))))))))))))
  · rintro x2 E W ⟨Y, hST, M, e6, e7⟩ a5
    refine V (aB e7) (LJ a5 (fun J E W => ∃  (D : List (Nat × Obj)), ST true dW w W (hp w) D ∧ E 0 = (.string z) ∧ E 2 = (.bool false) ∧ E 16 = (.bool J)) 5 ?_ (fun J a x => ?_))
    · rintro b2 E W ⟨D, hST, a1, H, a2⟩ N
      refine V (aB a2) (LJ N (fun I E W => ∃  (G : List (Nat × Obj)), ST true dW w W (hp w) G ∧ E 2 = (.bool false) ∧ E 20 = (.bool I)) 3 ?_ (fun I j u => ?_))
      · rintro b3 E W ⟨G, hST, a9, a3⟩ Q
        refine V (aF a3) (aD (aG (aS ?_)))
        have hx := sj Q; subst hx
        exact rP hST
      refine bC j (fun g j => ?_) (fun g j => ?_)
      · refine Vg rfl (cB g) (aB a1) (bS j fun b0 T j => np rfl (cB g) (Eg hST Tryz.call267 ((zu z _ _  T)) (fun a7 hST => V (cD (cB g) rfl) ?_)))
        have hx := sj j; subst hx
        exact u _ _ ⟨_, (hST.sel St), H, rfl⟩
      refine Vn rfl (cB g) (Vn rfl (cB g) (V (cI (cB g) rfl) ?_))
      have hx := sj j; subst hx
      exact u _ _ ⟨_, (hST.sel St), H, rfl⟩
    refine bC a (fun c a => ?_) (fun c a => ?_)
    · refine Vg rfl (cB c) (aB M) (bS a fun Z B a => Vg rfl (cB c) (Av (i := 0) Tryz.underlying9 rfl rfl (zB B) (CT B)) (bS a fun b1 U a => np rfl (cB c) (Eg hST Tryz.call266 ((pa ((⟨#[97, 98, 99, 100, 101, 102, 103, 104, 105, 106, 107, 108, 109, 110, 111, 112, 113, 114, 115, 116, 117, 118, 119, 120, 121, 122]⟩ : ByteArray)) ((Z.toNat : Int)) _ _  U)) (fun a8 hST => Vg rfl (cB c) (aP rfl rfl rfl) (V (cD (cB c) rfl) ?_)))))
      have hx := sj a; subst hx
      exact x _ _ ⟨_, (hST.sel St), M, e6, rfl⟩
    refine Vn rfl (cB c) (Vn rfl (cB c) (Vn rfl (cB c) (Vn rfl (cB c) (V (cI (cB c) rfl) ?_))))
    have hx := sj a; subst hx
    exact x _ _ ⟨_, (hST.sel St), M, e6, rfl⟩
  refine bC t (fun k t => ?_) (fun k t => ?_)
  · refine Vg rfl (cB k) (aB rfl) (Vg rfl (cB k) (iO Tryz.underlying9 rfl) (Vg rfl (cB k) (aP rfl rfl rfl) (V (cD (cB k) rfl) ?_)))
    have hx := sj t; subst hx
    exact y _ _ ⟨_, (hST.sel St), rfl, rfl, rfl⟩
  refine Vn rfl (cB k) (Vn rfl (cB k) (Vn rfl (cB k) (V (cI (cB k) rfl) ?_)))
  have hx := sj t; subst hx
  exact y _ _ ⟨_, (hST.sel St), rfl, rfl, rfl⟩
theorem lw (i : Role) (r : Bool) (w : World)  (hm : iF i = some r) :
    bW true Tryz.prog 254 [(.agg (aO i).toArray)] w (.bool r) := by
  have hST := ST.start (dd := true) w
  unfold iF at hm
  refine cF 11 Tryz.func254 rfl (aC (aA (VE (cH (v := (.agg (aO i).toArray)) hST rfl (fun H J hST => V (aF rfl) (aD (aG (aC (aA (V (aM ne rfl) (V (aI rfl (aN hST.has Mh rfl Tryz.isAgg9)) (bS hm fun K y hm => VE (Eg hST Tryz.call152 ((nx i.Owner _ _  y)) (fun I hST => V (aB rfl) (LJ hm (fun k E W => ∃  (j : List (Nat × Obj)), ST true dW w W (hp w) j ∧ E 2 = (.bool false) ∧ E 10 = (.bool k)) 4 ?_ (fun k a g => ?_))))))))))))))))
  · rintro G E W ⟨j, hST, B, x⟩ t
    refine V (aF x) (aD (aG (aS ?_)))
    have hx := sj t; subst hx
    exact rP hST
  refine bC a (fun c a => ?_) (fun c a => ?_)
  · refine Vg rfl (cB c) (aM oa rfl) (Vg rfl (cB c) (aI rfl (aN hST.has Mh rfl Tryz.isAgg9)) (bS a fun D u a => np rfl (cB c) (Eg hST Tryz.call152 ((nx i.Word _ _  u)) (fun z hST => V (cD (cB c) rfl) ?_))))
    have hx := sj a; subst hx
    exact g _ _ ⟨_, (hST.sel (Db St)), rfl, rfl⟩
  refine Vn rfl (cB c) (Vn rfl (cB c) (Vn rfl (cB c) (V (cI (cB c) rfl) ?_)))
  have hx := sj a; subst hx
  exact g _ _ ⟨_, (hST.sel (Db St)), rfl, rfl⟩
theorem EM (w : World) (a b : ByteArray) : (callFunc 380 [Value.string a, .string b].toArray).run Tryz.prog w = .ok (.value (.int .i64 (lY a b))) w := CM Tryz.func380 (by kernel_rfl) (by kernel_rfl) (by kernel_rfl) (by kernel_rfl) a b w
theorem ow (a : ByteArray) (c : ByteArray) (r : Int) (w : World)  (hm : gV a c = some r) :
    bW true Tryz.prog 330 [(.string a), (.string c)] w (.int .i64 r) := by
  have hST := ST.start (dd := true) w
  unfold gV at hm
  refine cF 8 Tryz.func330 rfl (aC (aA (V (aF rfl) (aD (aG (aC (aA (V (aB rfl) (V (aB rfl) (VE (AB (args := [(.string a), (.string c)]) (v := .int .i64 (lY a c)) rfl (by exact no rfl rfl) (EM _ a c) (V (aF rfl) (aD (aG (aS ?_)))))))))))))))
  have hx := sj hm; subst hx
  exact rP hST
theorem pS (a : ByteArray) (c : ByteArray) (r : Int) (w : World)  (hm : kK a c = some r) :
    bW true Tryz.prog 239 [(.string a), (.string c)] w (.int .i64 r) := by
  have hST := ST.start (dd := true) w
  unfold kK at hm
  refine cF 8 Tryz.func239 rfl (aC (aA (V (aF rfl) (aD (aG (aC (aA (V (aB rfl) (V (aB rfl) (bS hm fun j g hm => VE (Eg hST Tryz.call330 ((ow a c _ _  g)) (fun i hST => V (aF rfl) (aD (aG ?_))))))))))))))
  refine aS ?_
  have hx := sj hm; subst hx
  exact rP hST
theorem yX (g : Value) (t : List Int) (r : Int) (w : World) (c : Sl (Pl (cT .i64)) 1 (hp w) g t) (hm : oI t = some r) :
    bW true Tryz.prog 238 [g] w (.int .i64 r) := by
  have hST := ST.start (dd := true) w
  unfold oI at hm
  refine cF 18 Tryz.func238 rfl (aC (aA (V (aF rfl) (aD (aG (aC (aA (V (aF rfl) (aD (aG (aC (aC (aA (V (aB rfl) ?_))))))))))))))
  refine V (eH Tryz.underlying256 rfl c) (V (aB rfl) (aD (aG (dP (fun i E W => ∃  (k : List (Nat × Obj)), (E 8 = .int .i64 (i : Nat) ∧ E 7 = .int .i64 (t.length : Nat)) ∧ ST true dW w W (hp w) k ∧ E 3 = (.int .i64 0) ∧ E 6 = g ∧ kB (t.drop i) = some r) t.length c.len ⟨_, ⟨rfl, rfl⟩, (hST.sel St), rfl, rfl, hm⟩ (by decide) (by decide) (by decide) (fun _ _ _ h => by obtain ⟨_, eIN, _⟩ := h; exact eIN) ?_ ?_))))
  · rintro J E W B ⟨k, ⟨eI, eN⟩, hST, j, u, a⟩
    obtain ⟨x, K, H, G, I⟩ := dB B
    rw [H] at a
    rw [kB] at a
    refine aU (aC (aA (VQ (lm (enc := (cT .i64)) (i := (J : Int)) (x0 := x) Tryz.underlying256 Tryz.sizeOf3 u eI c (Int.natCast_nonneg _) G) (fun M D => V (aI rfl (lZ hST.has (y := (.int .i64 x)) D Tryz.isAgg3)) (V (aF rfl) (aD (aG (aC (aA (V (aB rfl) (V (aB j) (V (aP rfl rfl rfl) (aD (aG ?_))))))))))))))
    refine CI a rfl (fun z a => ?_) (fun z a => ?_)
    · refine aC (aA (V (aB rfl) (V (aF rfl) (aD (aG (aS (gA (cR (gA (cR ?_))))))))))
      have hx := sj a; subst hx
      exact rP hST
    exact aT (cM (aG ⟨eI, _, ⟨rfl, eN⟩, (hST.sel St), j, u, (by rw [I]; exact a)⟩))
  rintro E W ⟨k, ⟨eI, eN⟩, hST, j, u, a⟩
  rw [List.drop_length] at a
  rw [kB] at a
  refine aG (aC (aA (V (aB j) (V (aF rfl) (aD (aG (aS ?_)))))))
  have hx := sj a; subst hx
  exact rP hST
theorem wL (g : Role) (i : Role) (r : Int) (w : World)  (hm : mo g i = some r) :
    bW true Tryz.prog 123 [(.agg (aO g).toArray), (.agg (aO i).toArray)] w (.int .i64 r) := by
  have hST := ST.start (dd := true) w
  unfold mo at hm
  refine cF 17 Tryz.func123 rfl (aC (aA (VE (cH (v := (.agg (aO g).toArray)) hST rfl (fun G I hST => VE (cH (v := (.agg (aO i).toArray)) hST rfl (fun H J hST => V (aF rfl) (aD (aG (aC ?_))))))))))
  replace hST := hST.drew
  have hS0 := hST.has.sel (Kb (Kb Sn))
  refine cU hS0 bO (X 0 rfl hS0 (aM ne rfl) (XH 1 rfl hS0 (fun _ hS => aI rfl (aN hS (Mt Mh) rfl Tryz.isAgg9)) (X 2 rfl hS0 (aM ne rfl) (XH 3 rfl hS0 (fun _ hS => aI rfl (aN hS Mh rfl Tryz.isAgg9)) (X 5 rfl hS0 (aM oa rfl) (XH 6 rfl hS0 (fun _ hS => aI rfl (aN hS (Mt Mh) rfl Tryz.isAgg9)) (X 7 rfl hS0 (aM oa rfl) (XH 8 rfl hS0 (fun _ hS => aI rfl (aN hS Mh rfl Tryz.isAgg9)) (bS hm fun a j hm => XE 4 rfl (Eg hST Tryz.call239 ((pS g.Owner i.Owner _ _  j)) (fun x hST => ?_)))))))))))
  have hS0 := hST.has.sel (Kb (Kb Sn))
  refine ⟨hS0, (bS hm fun c k hm => XE 9 rfl (Eg hST Tryz.call239 ((pS g.Word i.Word _ _  k)) (fun y hST => ?_)))⟩
  have hS0 := hST.has.sel (Kb (Kb Sn))
  refine ⟨hS0, (XE 10 rfl (bU (qs := #[(0, (.int .i64 a)), (1, (.int .i64 c))]) (cs := #[(.int .i64 a), (.int .i64 c)]) hST (iK rfl rfl) (eF [(.int .i64 a), (.int .i64 c)] Tryz.underlying256 Tryz.sizeOf3 Tryz.zeroValue3 (by decide) rfl (by intro v hv; simp only [List.mem_cons, List.not_mem_nil, or_false] at hv; rcases hv with rfl | rfl <;> rfl) rfl rfl) (fun z u hST => ?_)))⟩
  have hS0 := hST.has.sel (Db (Kb (Kb Sn)))
  refine ⟨hS0, (bS hm fun D t hm => XE 11 rfl (Eg hST Tryz.call238 ((yX (.slice (some ⟨u, 0, none⟩) 2 2) ([a, c]) _ _ (Sl.lit (enc := (cT .i64)) (l := [a, c]) (fun _ => rfl) rfl nb rfl (hST.at_ Mh)) t)) (fun B hST => ?_)))⟩
  have hS0 := hST.has.sel (Db (Kb (Kb Sn)))
  refine ⟨hS0, (X 12 rfl hS0 (aF rfl) (dC (by kernel_rfl) (aG ?_)))⟩
  replace hST := hST.sel (Db (Db (Db St)))
  refine aS ?_
  have hx := sj hm; subst hx
  exact rP hST
set_option maxHeartbeats 1000000 in
theorem oJ (a : Cred) (r : Bool) (w : World)  (hm : ku a = some r) :
    bW true Tryz.prog 137 [(.agg (aJ a).toArray)] w (.bool r) := by
  have hST := ST.start (dd := true) w
  unfold ku at hm
  refine cF 98 Tryz.func137 rfl (aC (aA (VE (cH (v := (.agg (aJ a).toArray)) hST rfl (fun W2 N hST => V (aF rfl) (aD (aG (aC (aA (V (aM oV rfl) (V (aI rfl (aN hST.has Mh rfl Tryz.isAgg3)) (V (aM lR rfl) (V (aI rfl (aK hST.has Mh (aO a.Head) rfl Tryz.isAgg28 Tryz.sizeOf28)) (V (dX (qs := #[(0, (.int .i64 a.Kind)), (1, (.agg (aO a.Head).toArray))]) (v := (.agg (aJ ((⟨a.Kind, a.Head, zS, K0, K0, zS⟩ : Cred))).toArray)) (iK rfl rfl) (cV Tryz.zeroValue53 Tryz.underlying53 (Cz _ Tryz.underlying53) (by kernel_rfl))) (VE (cA hST Tryz.zeroValue53 (fun W4 B hST => ?_)))))))))))))))))
  refine VO (aX (.agg (aJ ((⟨a.Kind, a.Head, zS, K0, K0, zS⟩ : Cred))).toArray) ((aJ ((⟨a.Kind, a.Head, zS, K0, K0, zS⟩ : Cred))).toArray) hST rfl rfl Tryz.sizeOf53 (gC ((⟨a.Kind, a.Head, zS, K0, K0, zS⟩ : Cred))) nb rfl (fun W5 hST => aD (aG (aC (aA (V (aM lR rfl) (V (aI rfl (aK hST.has (Mt Mh) (aO a.Head) rfl Tryz.isAgg28 Tryz.sizeOf28)) (bS hm fun r6 j0 hm => VE (Eg hST Tryz.call254 ((lw a.Head _ _  j0)) (fun W8 hST => V (aF rfl) (aD (aG (aC (Dg hm (fun b5 E W => ∃  (b6 : List (Nat × Obj)), ST true dW w W (hp w) ((B, Obj.cells ((aJ b5.2).toArray : Array Value) 53 (0, 0)) :: ((N, Obj.cells ((aJ a).toArray : Array Value) 53 (0, 0)) :: b6)) ∧ E 1 = (.pointer (some ⟨N, 0, none⟩)) ∧ E 3 = (.pointer (some ⟨B, 0, none⟩)) ∧ E 4 = (.bool b5.1)) (fun b5 g Z => ?_) ?_))))))))))))))
  · refine aC (aA (V (aM oV rfl) (V (aI rfl (aN hST.has (Mt Mh) rfl Tryz.isAgg3)) (aD (aG (aU (aC (aA (V (aP rfl rfl rfl) (V (aF rfl) (aD (aG (CI g rfl (fun e5 g => ?_) (fun e5 g => ?_))))))))))))))
    · replace hST := hST.drew
      have hS0 := hST.has.sel (Db (Kb Sn))
      refine cU hS0 bO (X 0 rfl hS0 (aM rM rfl) (XH 1 rfl hS0 (fun _ hS => aI rfl (aN hS Mh rfl Tryz.isAgg9)) (X 2 rfl hS0 (aB rfl) (X 3 rfl hS0 (aB rfl) (X 8 rfl hS0 (aM rM rfl) (PJ g (fun d6 E W => ∃  (b9 : List (Nat × Obj)), ST true dW w W (hp w) ((B, Obj.cells ((aJ ((⟨a.Kind, a.Head, zS, K0, K0, zS⟩ : Cred))).toArray : Array Value) 53 (0, 0)) :: ((N, Obj.cells ((aJ a).toArray : Array Value) 53 (0, 0)) :: b9)) ∧ E 1 = (.pointer (some ⟨N, 0, none⟩)) ∧ E 3 = (.pointer (some ⟨B, 0, none⟩)) ∧ E 4 = (.bool r6) ∧ E 18 = (.string a.Who) ∧ E 24 = (.bool d6) ∧ E 25 = (.pointer (some ⟨B, 3, none⟩))) (bm 11 511) 2 ?_ (fun d6 D a2 => ?_)))))))
      · rintro l9 E W ⟨b9, hST, h0, h1, k6, h2, h3, h4⟩ f1
        have hS0 := hST.has.sel (Db (Kb Sn))
        refine XO 9 rfl (aX (.string a.Who) ((aJ ((⟨a.Kind, a.Head, a.Who, K0, K0, zS⟩ : Cred))).toArray) hST h4 h2 Tryz.sizeOf9 (Ey a.Who) nb rfl (fun j3 hST => ?_))
        have hS0 := hST.has.sel (Db (Kb Sn))
        refine ⟨hS0, (X 10 rfl hS0 (aF h3) (dC (by kernel_rfl) (cM (aG ?_))))⟩
        have hx := sj f1; subst hx
        exact ⟨_, rfl, _, (hST.sel St), h0, h1, rfl⟩
      refine bC D (fun k D => ?_) (fun k D => ?_)
      · refine Xg 4 rfl rfl (cB k) hS0 (aM rM rfl) (ql 5 rfl rfl (cB k) hS0 (fun _ hS => aI rfl (aN hS Mh rfl Tryz.isAgg9)) (bS D fun l0 f9 D => Do 6 rfl rfl (cB k) (Eg hST Tryz.call152 ((nx a.Who _ _  f9)) (fun j4 hST => ?_))))
        have hS0 := hST.has.sel (Db (Kb Sn))
        refine ⟨hS0, (X 7 rfl hS0 (cD (cB k) rfl) ?_)⟩
        have hx := sj D; subst hx
        refine kL (by kernel_rfl) (a2 _ _ ⟨_, (hST.sel St), rfl, rfl, rfl, rfl, rfl, rfl⟩)
      refine Xn 4 rfl rfl (cB k) hS0 (Xn 5 rfl rfl (cB k) hS0 (Xn 6 rfl rfl (cB k) hS0 (X 7 rfl hS0 (cI (cB k) rfl) ?_)))
      have hx := sj D; subst hx
      refine kL (by kernel_rfl) (a2 _ _ ⟨_, (hST.sel St), rfl, rfl, rfl, rfl, rfl, rfl⟩)
    refine aC (aA (V (aP rfl rfl rfl) (V (aF rfl) (aD (aG (CI g rfl (fun e6 g => ?_) (fun e6 g => ?_)))))))
    · replace hST := hST.drew
      have hS0 := hST.has.sel (Db (Kb Sn))
      refine cU hS0 bO (X 0 rfl hS0 (aM jb rfl) (XH 1 rfl hS0 (fun _ hS => aI rfl (aK hS Mh (aO a.B) rfl Tryz.isAgg28 Tryz.sizeOf28)) (X 2 rfl hS0 (aB rfl) (X 3 rfl hS0 (aB rfl) (X 8 rfl hS0 (aM jb rfl) (PJ g (fun d7 E W => ∃  (c0 : List (Nat × Obj)), ST true dW w W (hp w) ((B, Obj.cells ((aJ ((⟨a.Kind, a.Head, zS, K0, K0, zS⟩ : Cred))).toArray : Array Value) 53 (0, 0)) :: ((N, Obj.cells ((aJ a).toArray : Array Value) 53 (0, 0)) :: c0)) ∧ E 1 = (.pointer (some ⟨N, 0, none⟩)) ∧ E 3 = (.pointer (some ⟨B, 0, none⟩)) ∧ E 4 = (.bool r6) ∧ E 29 = (.agg (aO a.B).toArray) ∧ E 35 = (.bool d7) ∧ E 36 = (.pointer (some ⟨B, 4, none⟩))) (bm 11 511) 2 ?_ (fun d7 G a3 => ?_)))))))
      · rintro m0 E W ⟨c0, hST, h5, h6, k7, h7, h8, h9⟩ f2
        have hS0 := hST.has.sel (Db (Kb Sn))
        refine XO 9 rfl (aX (.agg (aO a.B).toArray) ((aJ ((⟨a.Kind, a.Head, zS, a.B, K0, zS⟩ : Cred))).toArray) hST h9 h7 Tryz.sizeOf28 (oC a.B) nb rfl (fun j5 hST => ?_))
        have hS0 := hST.has.sel (Db (Kb Sn))
        refine ⟨hS0, (X 10 rfl hS0 (aF h8) (dC (by kernel_rfl) (cM (aG ?_))))⟩
        have hx := sj f2; subst hx
        exact ⟨_, rfl, _, (hST.sel St), h5, h6, rfl⟩
      refine bC G (fun t G => ?_) (fun t G => ?_)
      · refine Xg 4 rfl rfl (cB t) hS0 (aM jb rfl) (ql 5 rfl rfl (cB t) hS0 (fun _ hS => aI rfl (aK hS Mh (aO a.B) rfl Tryz.isAgg28 Tryz.sizeOf28)) (bS G fun l1 g0 G => Do 6 rfl rfl (cB t) (Eg hST Tryz.call254 ((lw a.B _ _  g0)) (fun j6 hST => ?_))))
        have hS0 := hST.has.sel (Db (Kb Sn))
        refine ⟨hS0, (X 7 rfl hS0 (cD (cB t) rfl) ?_)⟩
        have hx := sj G; subst hx
        refine kL (by kernel_rfl) (a3 _ _ ⟨_, (hST.sel St), rfl, rfl, rfl, rfl, rfl, rfl⟩)
      refine Xn 4 rfl rfl (cB t) hS0 (Xn 5 rfl rfl (cB t) hS0 (Xn 6 rfl rfl (cB t) hS0 (X 7 rfl hS0 (cI (cB t) rfl) ?_)))
      have hx := sj G; subst hx
      refine kL (by kernel_rfl) (a3 _ _ ⟨_, (hST.sel St), rfl, rfl, rfl, rfl, rfl, rfl⟩)
    refine aC (aA (V (aP rfl rfl rfl) (V (aF rfl) (aD (aG (CI g rfl (fun e7 g => ?_) (fun e7 g => ?_)))))))
    · refine aC ?_
      replace hST := hST.drew
      have hS0 := hST.has.sel (Db (Kb Sn))
      refine cU hS0 bO (X 0 rfl hS0 (aM jb rfl) (XH 1 rfl hS0 (fun _ hS => aI rfl (aK hS Mh (aO a.B) rfl Tryz.isAgg28 Tryz.sizeOf28)) (X 2 rfl hS0 (aM pC rfl) (XH 3 rfl hS0 (fun _ hS => aI rfl (aN hS Mh rfl Tryz.isAgg9)) (X 4 rfl hS0 (aM jb rfl) (XO 5 rfl (aX (.agg (aO a.B).toArray) ((aJ ((⟨a.Kind, a.Head, zS, a.B, K0, zS⟩ : Cred))).toArray) hST rfl rfl Tryz.sizeOf28 (oC a.B) nb rfl (fun j7 hST => ?_))))))))
      have hS0 := hST.has.sel (Db (Kb Sn))
      refine ⟨hS0, (X 6 rfl hS0 (aM pC rfl) (XO 7 rfl (aX (.string a.Word2) ((aJ ((⟨a.Kind, a.Head, zS, a.B, K0, a.Word2⟩ : Cred))).toArray) hST rfl rfl Tryz.sizeOf9 (Ey a.Word2) nb rfl (fun j8 hST => ?_))))⟩
      have hS0 := hST.has.sel (Db (Kb Sn))
      refine ⟨hS0, (dC (by kernel_rfl) (aG (aA (V (aB rfl) (V (aB rfl) (LJ g (fun e0 E W => ∃  (c1 : List (Nat × Obj)), ST true dW w W (hp w) ((B, Obj.cells ((aJ ((⟨a.Kind, a.Head, zS, a.B, K0, a.Word2⟩ : Cred))).toArray : Array Value) 53 (0, 0)) :: ((N, Obj.cells ((aJ a).toArray : Array Value) 53 (0, 0)) :: c1)) ∧ E 1 = (.pointer (some ⟨N, 0, none⟩)) ∧ E 3 = (.pointer (some ⟨B, 0, none⟩)) ∧ E 4 = (.bool r6) ∧ E 50 = (.bool e0)) 4 ?_ (fun e0 I a6 => ?_)))))))⟩
      · rintro m1 E W ⟨c1, hST, U, c7, c8, i0⟩ f3
        refine V (aB i0) (LJ f3 (fun d9 E W => ∃  (c2 : List (Nat × Obj)), ST true dW w W (hp w) ((B, Obj.cells ((aJ ((⟨a.Kind, a.Head, zS, a.B, K0, a.Word2⟩ : Cred))).toArray : Array Value) 53 (0, 0)) :: ((N, Obj.cells ((aJ a).toArray : Array Value) 53 (0, 0)) :: c2)) ∧ E 1 = (.pointer (some ⟨N, 0, none⟩)) ∧ E 3 = (.pointer (some ⟨B, 0, none⟩)) ∧ E 4 = (.bool r6) ∧ E 59 = (.bool d9)) 8 ?_ (fun d9 T a5 => ?_))
        · rintro m2 E W ⟨c2, hST, b2, c9, d0, i1⟩ f4
          refine V (aB i1) (LJ f4 (fun d8 E W => ∃  (c3 : List (Nat × Obj)), ST true dW w W (hp w) ((B, Obj.cells ((aJ ((⟨a.Kind, a.Head, zS, a.B, K0, a.Word2⟩ : Cred))).toArray : Array Value) 53 (0, 0)) :: ((N, Obj.cells ((aJ a).toArray : Array Value) 53 (0, 0)) :: c3)) ∧ E 1 = (.pointer (some ⟨N, 0, none⟩)) ∧ E 3 = (.pointer (some ⟨B, 0, none⟩)) ∧ E 4 = (.bool r6) ∧ E 64 = (.bool d8)) 4 ?_ (fun d8 H a4 => ?_))
          · rintro m3 E W ⟨c3, hST, i2, i3, k8, i4⟩ f5
            refine V (aF i4) (aD (cM (aG ?_)))
            have hx := sj f5; subst hx
            exact ⟨_, rfl, _, (hST.sel St), i2, i3, rfl⟩
          refine bC H (fun x H => ?_) (fun x H => ?_)
          · refine Vg rfl (cB x) (aM pC b2) (Vg rfl (cB x) (aI rfl (aN hST.has (Mt Mh) rfl Tryz.isAgg9)) (bS H fun l2 g1 H => np rfl (cB x) (Eg hST Tryz.call152 ((nx a.Word2 _ _  g1)) (fun j9 hST => V (cD (cB x) rfl) ?_))))
            have hx := sj H; subst hx
            exact a4 _ _ ⟨_, (hST.sel St), b2, c9, d0, rfl⟩
          refine Vn rfl (cB x) (Vn rfl (cB x) (Vn rfl (cB x) (V (cI (cB x) rfl) ?_)))
          have hx := sj H; subst hx
          exact a4 _ _ ⟨_, (hST.sel St), b2, c9, d0, rfl⟩
        refine bC T (fun c T => ?_) (fun c T => ?_)
        · refine Vg rfl (cB c) (aM jb U) (Vg rfl (cB c) (aM ne rfl) (Vg rfl (cB c) (aI rfl (aN hST.has (Mt Mh) rfl Tryz.isAgg9)) (Vg rfl (cB c) (aM lR U) (Vg rfl (cB c) (aM ne rfl) (Vg rfl (cB c) (aI rfl (aN hST.has (Mt Mh) rfl Tryz.isAgg9)) (Vg rfl (cB c) (Fe rfl rfl rfl) (V (cD (cB c) rfl) ?_)))))))
          have hx := sj T; subst hx
          exact a5 _ _ ⟨_, (hST.sel St), U, c7, c8, rfl⟩
        refine Vn rfl (cB c) (Vn rfl (cB c) (Vn rfl (cB c) (Vn rfl (cB c) (Vn rfl (cB c) (Vn rfl (cB c) (Vn rfl (cB c) (V (cI (cB c) rfl) ?_)))))))
        have hx := sj T; subst hx
        exact a5 _ _ ⟨_, (hST.sel St), U, c7, c8, rfl⟩
      refine bC I (fun u I => ?_) (fun u I => ?_)
      · refine Vg rfl (cB u) (aM jb rfl) (Vg rfl (cB u) (aI rfl (aK hST.has (Mt Mh) (aO a.B) rfl Tryz.isAgg28 Tryz.sizeOf28)) (bS I fun l3 g2 I => np rfl (cB u) (Eg hST Tryz.call254 ((lw a.B _ _  g2)) (fun k0 hST => V (cD (cB u) rfl) ?_))))
        have hx := sj I; subst hx
        exact a6 _ _ ⟨_, (hST.sel St), rfl, rfl, rfl, rfl⟩
      refine Vn rfl (cB u) (Vn rfl (cB u) (Vn rfl (cB u) (V (cI (cB u) rfl) ?_)))
      have hx := sj I; subst hx
      exact a6 _ _ ⟨_, (hST.sel St), rfl, rfl, rfl, rfl⟩
    refine aC (aA (V (aP rfl rfl rfl) (V (aF rfl) (aD (aG (CI g rfl (fun e8 g => ?_) (fun e8 g => ?_)))))))
    · refine aC ?_
      replace hST := hST.drew
      have hS0 := hST.has.sel (Db (Kb Sn))
      refine cU hS0 bO (X 0 rfl hS0 (aM jb rfl) (XH 1 rfl hS0 (fun _ hS => aI rfl (aK hS Mh (aO a.B) rfl Tryz.isAgg28 Tryz.sizeOf28)) (X 2 rfl hS0 (aM oP rfl) (XH 3 rfl hS0 (fun _ hS => aI rfl (aK hS Mh (aO a.C) rfl Tryz.isAgg28 Tryz.sizeOf28)) (X 4 rfl hS0 (aM jb rfl) (XO 5 rfl (aX (.agg (aO a.B).toArray) ((aJ ((⟨a.Kind, a.Head, zS, a.B, K0, zS⟩ : Cred))).toArray) hST rfl rfl Tryz.sizeOf28 (oC a.B) nb rfl (fun k1 hST => ?_))))))))
      have hS0 := hST.has.sel (Db (Kb Sn))
      refine ⟨hS0, (X 6 rfl hS0 (aM oP rfl) (XO 7 rfl (aX (.agg (aO a.C).toArray) ((aJ ((⟨a.Kind, a.Head, zS, a.B, a.C, zS⟩ : Cred))).toArray) hST rfl rfl Tryz.sizeOf28 (oC a.C) nb rfl (fun k2 hST => ?_))))⟩
      have hS0 := hST.has.sel (Db (Kb Sn))
      refine ⟨hS0, (dC (by kernel_rfl) (aG (aA (V (aB rfl) (V (aB rfl) (LJ g (fun e3 E W => ∃  (c4 : List (Nat × Obj)), ST true dW w W (hp w) ((B, Obj.cells ((aJ ((⟨a.Kind, a.Head, zS, a.B, a.C, zS⟩ : Cred))).toArray : Array Value) 53 (0, 0)) :: ((N, Obj.cells ((aJ a).toArray : Array Value) 53 (0, 0)) :: c4)) ∧ E 1 = (.pointer (some ⟨N, 0, none⟩)) ∧ E 3 = (.pointer (some ⟨B, 0, none⟩)) ∧ E 4 = (.bool r6) ∧ E 78 = (.bool e3)) 4 ?_ (fun e3 M a9 => ?_)))))))⟩
      · rintro m4 E W ⟨c4, hST, b4, d1, d2, i5⟩ f6
        refine V (aB i5) (LJ f6 (fun e2 E W => ∃  (c5 : List (Nat × Obj)), ST true dW w W (hp w) ((B, Obj.cells ((aJ ((⟨a.Kind, a.Head, zS, a.B, a.C, zS⟩ : Cred))).toArray : Array Value) 53 (0, 0)) :: ((N, Obj.cells ((aJ a).toArray : Array Value) 53 (0, 0)) :: c5)) ∧ E 1 = (.pointer (some ⟨N, 0, none⟩)) ∧ E 3 = (.pointer (some ⟨B, 0, none⟩)) ∧ E 4 = (.bool r6) ∧ E 83 = (.bool e2)) 4 ?_ (fun e2 K a8 => ?_))
        · rintro m5 E W ⟨c5, hST, Y, d3, d4, i6⟩ f7
          refine V (aB i6) (LJ f7 (fun e1 E W => ∃  (c6 : List (Nat × Obj)), ST true dW w W (hp w) ((B, Obj.cells ((aJ ((⟨a.Kind, a.Head, zS, a.B, a.C, zS⟩ : Cred))).toArray : Array Value) 53 (0, 0)) :: ((N, Obj.cells ((aJ a).toArray : Array Value) 53 (0, 0)) :: c6)) ∧ E 1 = (.pointer (some ⟨N, 0, none⟩)) ∧ E 3 = (.pointer (some ⟨B, 0, none⟩)) ∧ E 4 = (.bool r6) ∧ E 91 = (.bool e1)) 7 ?_ (fun e1 J a7 => ?_))
          · rintro m6 E W ⟨c6, hST, i7, i8, k9, i9⟩ f8
            refine V (aF i9) (aD (cM (aG ?_)))
            have hx := sj f8; subst hx
            exact ⟨_, rfl, _, (hST.sel St), i7, i8, rfl⟩
          refine bC J (fun i J => ?_) (fun i J => ?_)
          · refine Vg rfl (cB i) (aM jb Y) (Vg rfl (cB i) (aI rfl (aK hST.has (Mt Mh) (aO a.B) rfl Tryz.isAgg28 Tryz.sizeOf28)) (Vg rfl (cB i) (aM oP Y) (Vg rfl (cB i) (aI rfl (aK hST.has (Mt Mh) (aO a.C) rfl Tryz.isAgg28 Tryz.sizeOf28)) (bS J fun l4 g3 J => np rfl (cB i) (Eg hST Tryz.call123 ((wL a.B a.C _ _  g3)) (fun k3 hST => Vg rfl (cB i) (aP rfl rfl rfl) (V (cD (cB i) rfl) ?_)))))))
            have hx := sj J; subst hx
            exact a7 _ _ ⟨_, (hST.sel St), Y, d3, d4, rfl⟩
          refine Vn rfl (cB i) (Vn rfl (cB i) (Vn rfl (cB i) (Vn rfl (cB i) (Vn rfl (cB i) (Vn rfl (cB i) (V (cI (cB i) rfl) ?_))))))
          have hx := sj J; subst hx
          exact a7 _ _ ⟨_, (hST.sel St), Y, d3, d4, rfl⟩
        refine bC K (fun z K => ?_) (fun z K => ?_)
        · refine Vg rfl (cB z) (aM oP b4) (Vg rfl (cB z) (aI rfl (aK hST.has (Mt Mh) (aO a.C) rfl Tryz.isAgg28 Tryz.sizeOf28)) (bS K fun l5 g4 K => np rfl (cB z) (Eg hST Tryz.call254 ((lw a.C _ _  g4)) (fun k4 hST => V (cD (cB z) rfl) ?_))))
          have hx := sj K; subst hx
          exact a8 _ _ ⟨_, (hST.sel St), b4, d1, d2, rfl⟩
        refine Vn rfl (cB z) (Vn rfl (cB z) (Vn rfl (cB z) (V (cI (cB z) rfl) ?_)))
        have hx := sj K; subst hx
        exact a8 _ _ ⟨_, (hST.sel St), b4, d1, d2, rfl⟩
      refine bC M (fun y M => ?_) (fun y M => ?_)
      · refine Vg rfl (cB y) (aM jb rfl) (Vg rfl (cB y) (aI rfl (aK hST.has (Mt Mh) (aO a.B) rfl Tryz.isAgg28 Tryz.sizeOf28)) (bS M fun l6 g5 M => np rfl (cB y) (Eg hST Tryz.call254 ((lw a.B _ _  g5)) (fun k5 hST => V (cD (cB y) rfl) ?_))))
        have hx := sj M; subst hx
        exact a9 _ _ ⟨_, (hST.sel St), rfl, rfl, rfl, rfl⟩
      refine Vn rfl (cB y) (Vn rfl (cB y) (Vn rfl (cB y) (V (cI (cB y) rfl) ?_)))
      have hx := sj M; subst hx
      exact a9 _ _ ⟨_, (hST.sel St), rfl, rfl, rfl, rfl⟩
    refine aC (aA (V (aF rfl) (aD (aG ?_))))
    replace hST := hST.sel (Db (Db St))
    refine aS (gA (cR ?_))
    have hx := sj g; subst hx
    replace Z : some false = some r := Z
    have hx := sj Z; subst hx
    exact rP hST
  rintro ⟨l7, e4⟩ E W ⟨b6, hST, g6, g7, g8⟩ e9
  refine aC (aA (V (aB g8) (V (aB rfl) (LJ e9 (fun d5 E W => ∃  (b7 : List (Nat × Obj)), ST true dW w W (hp w) b7 ∧ E 97 = (.bool d5)) 4 ?_ (fun d5 Q a1 => ?_)))))
  · rintro l8 E W ⟨b7, hST, g9⟩ f0
    refine V (aF g9) (aD (aG (aS ?_)))
    have hx := sj f0; subst hx
    exact rP hST
  refine bC Q (fun j Q => ?_) (fun j Q => ?_)
  · refine Vg rfl (cB j) (aI g7 (aK hST.has Mh (aJ e4) rfl Tryz.isAgg53 Tryz.sizeOf53)) (Vg rfl (cB j) (aI g6 (aK hST.has (Mt Mh) (aJ a) rfl Tryz.isAgg53 Tryz.sizeOf53)) (Vg rfl (cB j) (qc rfl rfl (kT Tryz.eqGuardType53) (nP (ov _ e4 a))) (V (cD (cB j) rfl) ?_)))
    have hx := sj Q; subst hx
    exact a1 _ _ ⟨_, (hST.sel (Db (Db St))), rfl⟩
  refine Vn rfl (cB j) (Vn rfl (cB j) (Vn rfl (cB j) (V (cI (cB j) rfl) ?_)))
  have hx := sj Q; subst hx
  exact a1 _ _ ⟨_, (hST.sel (Db (Db St))), rfl⟩
theorem xK (a : Cred) (r : Bool) (w : World)  (hm : mV a = some r) :
    bW true Tryz.prog 229 [(.agg (aJ a).toArray)] w (.bool r) := by
  have hST := ST.start (dd := true) w
  unfold mV at hm
  refine cF 6 Tryz.func229 rfl (aC (aA (VE (cH (v := (.agg (aJ a).toArray)) hST rfl (fun g j hST => V (aF rfl) (aD (aG (aC (aA (V (aI rfl (aK hST.has Mh (aJ a) rfl Tryz.isAgg53 Tryz.sizeOf53)) (bS hm fun k c hm => VE (Eg hST Tryz.call137 ((oJ a _ _  c)) (fun i hST => V (iS rfl) (V (aF rfl) (aD ?_)))))))))))))))
  refine aG ?_
  replace hST := hST.sel (Db St)
  refine aS ?_
  have hx := sj hm; subst hx
  exact rP hST
theorem AQ (c : Value) (k : List Cred) (a : List (Nat × Obj)) (g : Value) (t : ((Cred × Cred)) → Option Int) (r : List Cred) (w : World) {y : aY} (u : ie y (a ++ []) w) (i : bE 53 aJ 9 c k a) (j : Fl Tryz.prog g y (fun (x : (Cred × Cred)) => [(.agg (aJ x.1).toArray), (.agg (aJ x.2).toArray)]) (fun (r : Int) => (.int .i64 r)) t) (hm : qG t k = some r) :
    dJ true Tryz.prog 230 [c, g] w (a ++ []) (fun v z W' => ∃ (S : List (Nat × Obj)), v = (.tuple #[]) ∧ z = (S ++ []) ∧ bE 53 aJ 9 c r S) := zm (P := Tryz.prog) (ρ := BH) EZ 9 Tryz.isAgg53 Tryz.sizeOf53 aJ bV gC u.H u.S i j hm
theorem jV (t : Nat) (j : Value) (G : List Int) (i : List (Nat × Obj)) (a1 : Int) (r : (Bool × (List Int))) (w : World) {μ0 : aY} (h0 : ie μ0 ((t, Obj.cells (#[j] : Array Value) 92 (0, 0)) :: (i ++ [])) w) (y : bE 5 (cT .u8) 1 j G i) (hm : fU G a1 = some r) :
    dJ true Tryz.prog 268 [(.pointer (some ⟨t, 0, none⟩)), (.int .i64 a1)] w ((t, Obj.cells (#[j] : Array Value) 92 (0, 0)) :: (i ++ [])) (fun v L1 W' => ∃ (y1 : Value) (S2 : List (Nat × Obj)), v = (.bool (r.1)) ∧ L1 = ((t, Obj.cells (#[y1] : Array Value) 92 (0, 0)) :: (S2 ++ [])) ∧ bE 5 (cT .u8) 1 y1 r.2 S2) := by
  have hST := ST.startE (dd := true) h0
  unfold fU at hm
  refine cF 38 Tryz.func268 rfl (aC (aA (V (aF rfl) (aD (aG (aC (aC (aA (V (aB rfl) (V (nH Tryz.underlying90 rfl rfl) (V (aB rfl) (Vg rfl rfl (aB rfl) (Vg rfl rfl (aP rfl rfl rfl) (V (cI rfl rfl) ?_))))))))))))))
  refine aD (aG (CI hm rfl (fun a9 hm => ?_) (fun a9 hm => ?_)))
  · refine aC (aA (V (aF rfl) (aD (aG (aS (cR ?_))))))
    have hx := sj hm; subst hx
    exact dI (v := (.bool false)) rfl rfl ⟨_, _, rfl, (hST.bkM (Kb (Kr Sn))), j, i, rfl, rfl, y⟩
  refine aT (aG (aC (aU (gH (fun m E W => ∃ (c : Int) (z : Value) (U : List Int) (u : List (Nat × Obj)) (a0 : List (Nat × Obj)), ST true (keys ((t, Obj.cells (#[j] : Array Value) 92 (0, 0)) :: (i ++ []))) w W μ0 ((t, Obj.cells (#[z] : Array Value) 92 (0, 0)) :: (u ++ a0)) ∧ E 0 = (.pointer (some ⟨t, 0, none⟩)) ∧ E 1 = (.int .i64 c) ∧ bE 5 (cT .u8) 1 z U u ∧ gY m c U = some r) bR ⟨a1, j, G, i, _, (hST.sel St), rfl, rfl, y, hm⟩ ?_))))
  rintro m E W ⟨c, z, U, u, a0, hST, x, K, T, g⟩
  cases m with
  | zero => rw [gY] at g; cases g
  | succ b0 =>
    rw [gY] at g
    refine aC (aC (aA (V (aB K) (V (aP rfl rfl rfl) (aD (aG (CI g rfl (fun a6 g => ?_) (fun a6 g => ?_))))))))
    · refine aT (aG (aC (aU (aA (V (aB x) (V (aB x) (V (bP rfl) (V (aM qk rfl) (V (aI rfl (aN hST.has Mh rfl Tryz.isAgg54)) (V (aB K) (V (kU (k' := .i64) (a := c) Tryz.underlying3 Tryz.underlying5 rfl) (V (Dd (k := .u8) (a := ((IntKind.u8.wrap c))) (b := 128) (v := (.int .u8 ((IntKind.u8.wrap (BitVec.ofInt (IntKind.bits .u8) ((IntKind.u8.wrap c)) ||| BitVec.ofInt (IntKind.bits .u8) 128).toNat)))) rfl rfl (by decide) rfl) (VE (bU (qs := #[(0, (.int .u8 ((IntKind.u8.wrap (BitVec.ofInt (IntKind.bits .u8) ((IntKind.u8.wrap c)) ||| BitVec.ofInt (IntKind.bits .u8) 128).toNat))))]) (cs := [(.int .u8 ((IntKind.u8.wrap (BitVec.ofInt (IntKind.bits .u8) ((IntKind.u8.wrap c)) ||| BitVec.ofInt (IntKind.bits .u8) 128).toNat)))].toArray) hST (fH rfl) (eF [(.int .u8 ((IntKind.u8.wrap (BitVec.ofInt (IntKind.bits .u8) ((IntKind.u8.wrap c)) ||| BitVec.ofInt (IntKind.bits .u8) 128).toNat)))] Tryz.underlying54 Tryz.sizeOf5 Tryz.zeroValue5 (by decide) rfl (by intro v hv; simp only [List.mem_cons, List.not_mem_nil, or_false] at hv; rcases hv with rfl <;> rfl) rfl rfl) (fun c3 a8 hST => ?_)))))))))))))))
      replace hST := hST.perm (Nr (Qb (Qb Qz)) Nz)
      refine bS g fun Q Y g => VE (kj (enc := (cT .u8)) (v := z) (vs := (.slice (some ⟨a8, 0, none⟩) 1 1)) (R := u) hST (fun _ => rfl) (by decide) (vC _) Tryz.underlying54 kE.1 kE.2.1 rfl kE.2.2.1 kE.2.2.2 rfl rfl T (Sl.lit (enc := (cT .u8)) (l := [(IntKind.u8.wrap (BitVec.ofInt (IntKind.bits .u8) ((IntKind.u8.wrap c)) ||| BitVec.ofInt (IntKind.bits .u8) 128).toNat)]) (fun _ => rfl) rfl nb rfl (hST.at_ (Ma Mh))) Y (fun b4 c1 a2 hST M => V (bP rfl) (V (aM qk rfl) ?_)))
      obtain ⟨B, H, rfl⟩ := M.form
      replace hST := hST.perm (Nb (Pr (Pb Pz)) Nz)
      refine VO (aX (.slice B Q.length H) (#[(.slice B Q.length H)]) hST rfl rfl Tryz.sizeOf54 (by simp [Value.cells, Value.oneCell']) nb rfl (fun b5 hST => aD (cM (aG ?_))))
      replace hST := hST.sel (Kb (Kr (Db St)))
      exact aA (V (aB K) (V (vH (a := c) (b := 7) rfl rfl (by decide)) (V (aF rfl) (aD (aG ⟨b0, Nat.lt_succ_self _, ((Int.fdiv c (2 ^ min (Int.toNat 7) (IntKind.bits .i64)))), (.slice B Q.length H), Q, a2, _, (hST.sel St), x, rfl, M, g⟩)))))
    refine gI (gc (gc (li (aG (aC (aA (V (aB x) (V (aB x) (V (bP rfl) (V (aM qk rfl) (V (aI rfl (aN hST.has Mh rfl Tryz.isAgg54)) (V (aB K) (V (kU (k' := .i64) (a := c) Tryz.underlying3 Tryz.underlying5 rfl) (VE (bU (qs := #[(0, (.int .u8 ((IntKind.u8.wrap c))))]) (cs := [(.int .u8 ((IntKind.u8.wrap c)))].toArray) hST (fH rfl) (eF [(.int .u8 ((IntKind.u8.wrap c)))] Tryz.underlying54 Tryz.sizeOf5 Tryz.zeroValue5 (by decide) rfl (by intro v hv; simp only [List.mem_cons, List.not_mem_nil, or_false] at hv; rcases hv with rfl <;> rfl) rfl rfl) (fun b6 a5 hST => ?_))))))))))))))))
    replace hST := hST.perm (Nr (Qb (Qb Qz)) Nz)
    refine bS g fun J Z g => VE (kj (enc := (cT .u8)) (v := z) (vs := (.slice (some ⟨a5, 0, none⟩) 1 1)) (R := u) hST (fun _ => rfl) (by decide) (vC _) Tryz.underlying54 kE.1 kE.2.1 rfl kE.2.2.1 kE.2.2.2 rfl rfl T (Sl.lit (enc := (cT .u8)) (l := [(IntKind.u8.wrap c)]) (fun _ => rfl) rfl nb rfl (hST.at_ (Ma Mh))) Z (fun b7 c2 a3 hST N => V (bP rfl) (V (aM qk rfl) ?_)))
    obtain ⟨D, I, rfl⟩ := N.form
    replace hST := hST.perm (Nb (Pr (Pb Pz)) Nz)
    refine VO (aX (.slice D J.length I) (#[(.slice D J.length I)]) hST rfl rfl Tryz.sizeOf54 (by simp [Value.cells, Value.oneCell']) nb rfl (fun b9 hST => aD (aG ?_)))
    replace hST := hST.sel (Kb (Kr (Db St)))
    refine aC (aA (V (aF rfl) (aD (aG (aS ?_)))))
    have hx := sj g; subst hx
    exact dI (v := (.bool true)) rfl rfl ⟨_, _, rfl, (hST.bkM (Kb (Kr Sn))), (.slice D J.length I), a3, rfl, rfl, N⟩
theorem uD (g : Nat) (c : Value) (j : List Int) (a : List (Nat × Obj)) (u : Value) (D : List Int) (r : (Bool × (List Int))) (w : World) {Z : aY} (h0 : ie Z ((g, Obj.cells (#[c] : Array Value) 92 (0, 0)) :: (a ++ [])) w) (i : bE 5 (cT .u8) 1 c j a) (k : Sl (Pl (cT .u8)) 1 Z u D) (hm : ml j D = some r) :
    dJ true Tryz.prog 165 [(.pointer (some ⟨g, 0, none⟩)), u] w ((g, Obj.cells (#[c] : Array Value) 92 (0, 0)) :: (a ++ [])) (fun v L1 W' => ∃ (U : Value) (M : List (Nat × Obj)), v = (.bool (r.1)) ∧ L1 = ((g, Obj.cells (#[U] : Array Value) 92 (0, 0)) :: (M ++ [])) ∧ bE 5 (cT .u8) 1 U r.2 M) := by
  have hST := ST.startE (dd := true) h0
  unfold ml at hm
  refine cF 25 Tryz.func165 rfl (aC (aA (V (aF rfl) (aD (aG (aC (aC (aA (V (aB rfl) (V (nH Tryz.underlying90 rfl rfl) (V (aB rfl) (Vg rfl rfl (aB rfl) (Vg rfl rfl (eH Tryz.underlying54 rfl k) (Vg rfl rfl (aP rfl rfl rfl) ?_))))))))))))))
  refine V (cI rfl rfl) (aD (aG (CI hm rfl (fun Q hm => ?_) (fun Q hm => ?_))))
  · refine aC (aA (V (aF rfl) (aD (aG (aS (cR ?_))))))
    have hx := sj hm; subst hx
    exact dI (v := (.bool false)) rfl rfl ⟨_, _, rfl, (hST.bkM (Kb (Kr Sn))), c, a, rfl, rfl, i⟩
  refine aT (aG (aC (aA (V (aB rfl) (V (aB rfl) (V (eH Tryz.underlying54 rfl k) (bS hm fun r2 T hm => ?_)))))))
  have hsz := hST.size
  refine VE (iu hST (Cb Pz (Cr Qz Cn)) Tryz.call268 (fun hH hN hsb hmm => (jV g c j a ((D.length : Int)) _ _ ⟨hH, hN, aW.refl _⟩ i T)) (fun W4 v8 μ5 a3 hST H hl7 hlift N => ?_))
  obtain ⟨Y, K, t, rfl, I⟩ := N
  replace t := t.symm; subst t
  replace hST := hST.perm (Tb (Tr Tn))
  refine aD (aG (aC (aA (V (aB rfl) (V (aB rfl) (V (bP rfl) (V (aM qk rfl) (V (aI rfl (aN hST.has Mh rfl Tryz.isAgg54)) (V (aB rfl) ?_)))))))))
  replace hST := hST.perm (Nr (Qb Qz) Nz)
  refine bS hm fun B G hm => VE (kj (enc := (cT .u8)) (v := Y) (vs := u) (R := K) hST (fun _ => rfl) (by decide) (vC _) Tryz.underlying54 kE.1 kE.2.1 rfl kE.2.2.1 kE.2.2.2 rfl rfl I (k.mono (Pl.mono _) (H.trans hST.sub_hp)) G (fun a4 a6 J hST z => V (bP rfl) (V (aM qk rfl) ?_)))
  obtain ⟨x, y, rfl⟩ := z.form
  replace hST := hST.perm (Nb (Pr Pz) Nz)
  refine VO (aX (.slice x B.length y) (#[(.slice x B.length y)]) hST rfl rfl Tryz.sizeOf54 (by simp [Value.cells, Value.oneCell']) nb rfl (fun a5 hST => aD (aG (aC (aA (V (aF rfl) (aD (aG (aS ?_)))))))))
  have hx := sj hm; subst hx
  exact dI (v := (.bool true)) rfl rfl ⟨_, _, rfl, (hST.bkM (Kb (Kr Sn))), (.slice x B.length y), J, rfl, rfl, z⟩
theorem oQ (j : Nat) (c : Value) (t : List Int) (a : List (Nat × Obj)) (J : ByteArray) (r : (Bool × (List Int))) (w : World) {Z : aY} (h0 : ie Z ((j, Obj.cells (#[c] : Array Value) 92 (0, 0)) :: (a ++ [])) w) (k : bE 5 (cT .u8) 1 c t a) (hm : kw t J = some r) :
    dJ true Tryz.prog 270 [(.pointer (some ⟨j, 0, none⟩)), (.string J)] w ((j, Obj.cells (#[c] : Array Value) 92 (0, 0)) :: (a ++ [])) (fun v L1 W' => ∃ (y1 : Value) (S2 : List (Nat × Obj)), v = (.bool (r.1)) ∧ L1 = ((j, Obj.cells (#[y1] : Array Value) 92 (0, 0)) :: (S2 ++ [])) ∧ bE 5 (cT .u8) 1 y1 r.2 S2) := by
  have hST := ST.startE (dd := true) h0
  unfold kw at hm
  refine cF 17 Tryz.func270 rfl (aC (aA (V (aF rfl) (aD (aG (aC (aA (V (aB rfl) (V (sM Tryz.underlying90 rfl rfl) (V (aB rfl) (Vg rfl rfl (aB rfl) (bS hm fun r1 a4 hm => np rfl rfl (Eg hST Tryz.call152 ((nx J _ _  a4)) (fun W3 hST => V (cD rfl rfl) ?_))))))))))))))
  refine V (aB rfl) (LJ hm (fun B E W => ∃ (z : Value) (x : List (Nat × Obj)) (D : aY) (I : List (Nat × Obj)), aW Z D ∧ ST true (keys ((j, Obj.cells (#[c] : Array Value) 92 (0, 0)) :: (a ++ []))) w W D ((j, Obj.cells (#[z] : Array Value) 92 (0, 0)) :: (x ++ I)) ∧ E 4 = (.bool false) ∧ E 16 = (.bool B.1) ∧ bE 5 (cT .u8) 1 z B.2 x) 5 ?_ (fun B g y => ?_))
  · rintro ⟨a7, c0⟩ E W ⟨z, x, D, I, b1, hST, b9, a3, T⟩ M
    refine V (aF a3) (aD (aG (aS ?_)))
    have hx := sj M; subst hx
    exact dI (v := (.bool a7)) rfl rfl ⟨_, _, rfl, (hST.bkM (Kb (Kr Sn))), z, x, rfl, rfl, T⟩
  refine bC g (fun i g => ?_) (fun i g => ?_)
  · refine Vg rfl (cB i) (aB rfl) (Vg rfl (cB i) (aB rfl) (bS g fun a5 N g => np rfl (cB i) (xy hST Tryz.underlying9 Tryz.underlying54 Tryz.underlying5 rfl N (fun b6 a6 c3 hST G hl48 U b4 => bS g fun c1 Q g => ?_))))
    have hsz := hST.size
    refine np rfl (cB i) (iu hST (Cb Pz (Cr Qz Cn)) Tryz.call165 (fun hH hN hsb hmm => (uD j c t a a6 a5 _ _ ⟨hH, hN, aW.refl _⟩ k (U.mono (Pl.mono _) hsb) Q)) (fun b7 c2 b0 b5 hST H hl56 hlift K => ?_))
    obtain ⟨a9, a2, u, rfl, Y⟩ := K
    replace u := u.symm; subst u
    replace hST := hST.perm (Tb (Tr Tn))
    refine V (cD (cB i) rfl) ?_
    have hx := sj g; subst hx
    exact y _ _ ⟨a9, a2, b0, _, (G.trans H), (hST.sel St), rfl, rfl, Y⟩
  refine Vn rfl (cB i) (Vn rfl (cB i) (Vn rfl (cB i) (Vn rfl (cB i) (V (cI (cB i) rfl) ?_))))
  have hx := sj g; subst hx
  exact y _ _ ⟨c, a, Z, _, (aW.refl _), (hST.sel St), rfl, rfl, k⟩
theorem mB (c : Nat) (i : Value) (D : List Int) (a : List (Nat × Obj)) (x : Role) (r : (Bool × (List Int))) (w : World) {μ0 : aY} (h0 : ie μ0 ((c, Obj.cells (#[i] : Array Value) 92 (0, 0)) :: (a ++ [])) w) (y : bE 5 (cT .u8) 1 i D a) (hm : iG D x = some r) :
    dJ true Tryz.prog 269 [(.pointer (some ⟨c, 0, none⟩)), (.agg (aO x).toArray)] w ((c, Obj.cells (#[i] : Array Value) 92 (0, 0)) :: (a ++ [])) (fun v L1 W' => ∃ (y1 : Value) (S2 : List (Nat × Obj)), v = (.bool (r.1)) ∧ L1 = ((c, Obj.cells (#[y1] : Array Value) 92 (0, 0)) :: (S2 ++ [])) ∧ bE 5 (cT .u8) 1 y1 r.2 S2) := by
  have hST := ST.startE (dd := true) h0
  unfold iG at hm
  refine cF 23 Tryz.func269 rfl (aC (aA (VE (cH (v := (.agg (aO x).toArray)) hST rfl (fun W2 b1 hST => V (aF rfl) (aD (aG (aC (aA (V (aB rfl) (V (sM Tryz.underlying90 rfl rfl) (V (aB rfl) (Vg rfl rfl (aI rfl (aK hST.has Mh (aO x) rfl Tryz.isAgg28 Tryz.sizeOf28)) (bS hm fun r3 c4 hm => np rfl rfl (Eg hST Tryz.call254 ((lw x _ _  c4)) (fun W5 hST => ?_))))))))))))))))
  refine V (cD rfl rfl) (V (aB rfl) (LJ hm (fun T E W => ∃ (z : Value) (u : List (Nat × Obj)) (B : aY) (a0 : List (Nat × Obj)), aW μ0 B ∧ ST true (keys ((c, Obj.cells (#[i] : Array Value) 92 (0, 0)) :: (a ++ []))) w W B ((b1, Obj.cells ((aO x).toArray : Array Value) 28 (0, 0)) :: ((c, Obj.cells (#[z] : Array Value) 92 (0, 0)) :: (u ++ a0))) ∧ E 0 = (.pointer (some ⟨c, 0, none⟩)) ∧ E 3 = (.pointer (some ⟨b1, 0, none⟩)) ∧ E 4 = (.bool false) ∧ E 16 = (.bool T.1) ∧ bE 5 (cT .u8) 1 z T.2 u) 5 ?_ (fun T t K => ?_)))
  · rintro ⟨e6, c5⟩ E W ⟨z, u, B, a0, d2, hST, c0, c1, a3, c2, N⟩ a6
    refine V (aB c2) (LJ a6 (fun Q E W => ∃ (M : Value) (I : List (Nat × Obj)) (U : aY) (a2 : List (Nat × Obj)), aW B U ∧ ST true (keys ((c, Obj.cells (#[i] : Array Value) 92 (0, 0)) :: (a ++ []))) w W U ((c, Obj.cells (#[M] : Array Value) 92 (0, 0)) :: (I ++ a2)) ∧ E 4 = (.bool false) ∧ E 22 = (.bool Q.1) ∧ bE 5 (cT .u8) 1 M Q.2 I) 5 ?_ (fun Q k J => ?_))
    · rintro ⟨c6, e1⟩ E W ⟨M, I, U, a2, d3, hST, e0, c3, b0⟩ a7
      refine V (aF c3) (aD (aG (aS ?_)))
      have hx := sj a7; subst hx
      exact dI (v := (.bool c6)) rfl rfl ⟨_, _, rfl, (hST.bkM (Kb (Kr Sn))), M, I, rfl, rfl, b0⟩
    refine bC k (fun g k => ?_) (fun g k => ?_)
    · refine Vg rfl (cB g) (aB c0) (Vg rfl (cB g) (aM oa c1) (Vg rfl (cB g) (aI rfl (aN hST.has Mh rfl Tryz.isAgg9)) (bS k fun e2 a8 k => ?_)))
      have hsz := hST.size
      refine np rfl (cB g) (iu hST (Cb (Pb Pz) (Cr (Qb Qz) Cn)) Tryz.call270 (fun hH hN hsb hmm => (oQ c z c5 u x.Word _ _ ⟨hH, hN, aW.refl _⟩ N a8)) (fun d8 e4 d0 d6 hST Y hl67 hlift a4 => ?_))
      obtain ⟨c8, b6, G, rfl, b2⟩ := a4
      replace G := G.symm; subst G
      replace hST := hST.perm (Tb (Tr Tn))
      refine V (cD (cB g) rfl) ?_
      have hx := sj k; subst hx
      exact J _ _ ⟨c8, b6, d0, _, Y, (hST.sel (Kb (Kr (Db St)))), a3, rfl, b2⟩
    refine Vn rfl (cB g) (Vn rfl (cB g) (Vn rfl (cB g) (Vn rfl (cB g) (V (cI (cB g) rfl) ?_))))
    have hx := sj k; subst hx
    exact J _ _ ⟨z, u, B, _, (aW.refl _), (hST.sel (Db St)), a3, rfl, N⟩
  refine bC t (fun j t => ?_) (fun j t => ?_)
  · refine Vg rfl (cB j) (aB rfl) (Vg rfl (cB j) (aM ne rfl) (Vg rfl (cB j) (aI rfl (aN hST.has Mh rfl Tryz.isAgg9)) (bS t fun e3 a9 t => ?_)))
    have hsz := hST.size
    refine np rfl (cB j) (iu hST (Cb (Pb Pz) (Cr (Qb Qz) Cn)) Tryz.call270 (fun hH hN hsb hmm => (oQ c i D a x.Owner _ _ ⟨hH, hN, aW.refl _⟩ y a9)) (fun d9 e5 d1 d7 hST Z hl84 hlift a5 => ?_))
    obtain ⟨c9, b7, H, rfl, b3⟩ := a5
    replace H := H.symm; subst H
    replace hST := hST.perm (Tb (Tr Tn))
    refine V (cD (cB j) rfl) ?_
    have hx := sj t; subst hx
    exact K _ _ ⟨c9, b7, d1, _, Z, (hST.sel (Sb (Pb (Pr Pz)) St)), rfl, rfl, rfl, rfl, b3⟩
  refine Vn rfl (cB j) (Vn rfl (cB j) (Vn rfl (cB j) (Vn rfl (cB j) (V (cI (cB j) rfl) ?_))))
  have hx := sj t; subst hx
  exact K _ _ ⟨i, a, μ0, _, (aW.refl _), (hST.sel St), rfl, rfl, rfl, rfl, y⟩
theorem xM (g : Value) (i : List Int) (r : List Int) (w : World) (a : Sl (Pl (cT .u8)) 1 (hp w) g i) (hm : lH i = some r) :
    fD true Tryz.prog 153 [g] w 5 (cT .u8) 1 r := by
  have hST := ST.start (dd := true) w
  unfold lH at hm
  refine cF 8 Tryz.func153 rfl (aC (aA (V (aF rfl) (aD (aG (aC (aC (aA (V (aB rfl) ?_)))))))))
  obtain ⟨y, B, rfl⟩ := a.form
  refine V (pI Tryz.underlying54 rfl rfl) (aD (aG ?_))
  rcases y with _ | z
  · have u := a.isNil
    replace hm : some [] = some r := by rw [u] at hm; simpa [gT, maxLen] using hm
    refine nF (rfl) (aC (aA (V (aF rfl) (aD (aG (aS (cR ?_)))))))
    have hx := sj hm; subst hx
    exact dI (v := (.slice none 0 0)) rfl rfl ⟨_, [], rfl, hST.backRow (fun p hq => by cases hq) (by simp), bE.nil _ _ _⟩
  · refine kp (rfl) (aT (aG (aC (aA (VE (bU (qs := #[]) (cs := #[]) hST lT (eF [] Tryz.underlying54 Tryz.sizeOf5 Tryz.zeroValue5 (by decide) rfl (by simp) rfl rfl) (fun G k hST => V (aB rfl) (bS hm fun H t hm => VE (kj (enc := (cT .u8)) (v := (.slice (some ⟨k, 0, none⟩) 0 0)) (vs := (.slice (some z) i.length B)) (R := [(k, Obj.cells (#[] : Array Value) 5 (0, 0))]) hST (fun _ => rfl) (by decide) (vC _) Tryz.underlying54 kE.1 kE.2.1 rfl kE.2.2.1 kE.2.2.2 rfl rfl (bE.lit (l := []) (enc := (cT .u8)) rfl (by decide) rfl rfl) (a.mono (Pl.mono _) hST.sub_hp) t (fun D x j hST c => V (aF rfl) (aD (aG (aS ?_)))))))))))))
    have hx := sj hm; subst hx
    exact dI (v := x) rfl rfl ⟨_, j, rfl, hST.backRow (fun p hq => (Ml hq)) c.nd, c⟩
theorem qx (g : Nat) (a : Value) (c : List Int) (r : List Int) (w : World) (j : Sl (Pl (cT .u8)) 1 (hp w) a c) (k : At (hp w) (.pointer (some ⟨g, 0, none⟩)) [a]) (hm : ki c = some r) :
    fD true Tryz.prog 66 [(.pointer (some ⟨g, 0, none⟩))] w 5 (cT .u8) 1 r := by
  have hST := ST.start (dd := true) w
  unfold ki at hm
  refine cF 10 Tryz.func66 rfl (aC (aA (V (aF rfl) (aD (aG (aC (aC (aA (V (aB rfl) (V (nH Tryz.underlying90 rfl rfl) (aD (aG (kp rfl (aT ?_))))))))))))))
  refine aG (aC (aA (V (aB rfl) (V (bP rfl) (VQ (tX [a] qk rfl k rfl) (fun G u => V (aI rfl (lZ hST.has (y := a) u Tryz.isAgg54)) (bS hm fun H x hm => VE (mh hST Tryz.call153 ((xM a c _ _ (j.mono (Pl.mono _) hST.sub_hp) x)) (fun D z I t hST B hl9 i => V (aF rfl) (aD (aG (aS ?_))))))))))))
  have hx := sj hm; subst hx
  exact dI (v := z) rfl rfl ⟨_, t, rfl, hST.backRow (fun p hq => (Ml hq)) i.nd, i⟩
theorem uh (c : Cred) (r : List Int) (w : World)  (hm : mt c = some r) :
    fD true Tryz.prog 155 [(.agg (aJ c).toArray)] w 5 (cT .u8) 1 r := by
  have hST := ST.start (dd := true) w
  unfold mt at hm
  refine cF 53 Tryz.func155 rfl (aC (aA (VE (cH (v := (.agg (aJ c).toArray)) hST rfl (fun W2 b1 hST => V (aF rfl) (aD (aG (aC (aC (aA (V (aI rfl (aK hST.has Mh (aJ c) rfl Tryz.isAgg53 Tryz.sizeOf53)) (bS hm fun r3 g3 hm => VE (Eg hST Tryz.call137 ((oJ c _ _  g3)) (fun W5 hST => V (iS rfl) (aD ?_)))))))))))))))
  refine aG (CI hm rfl (fun g0 hm => ?_) (fun g0 hm => ?_))
  · refine aC (aA (V (aF rfl) (aD (aG ?_))))
    replace hST := hST.sel (Db St)
    refine aS (cR ?_)
    have hx := sj hm; subst hx
    exact dI (v := (.slice none 0 0)) rfl rfl ⟨_, [], rfl, hST.backRow (fun p hq => by cases hq) (by simp), bE.nil _ _ _⟩
  refine aT (aG (aC (aA (V (dX (qs := #[]) (v := (.agg #[(.slice none 0 0)])) lT (cV Tryz.zeroValue92 Tryz.underlying92 (EJ _ Tryz.underlying92) (by kernel_rfl))) (VE (cH (v := (.agg #[(.slice none 0 0)])) hST rfl (fun W8 g hST => V (aF rfl) (aD (aG (aC (aA (V (aB rfl) (V (aM oV rfl) (V (aI rfl (aN hST.has (Mt Mh) rfl Tryz.isAgg3)) (bS hm fun r9 e2 hm => ?_)))))))))))))))
  have hsz := hST.size
  refine VE (iu hST (Cb Pz (C0 Cn)) Tryz.call268 (fun hH hN hsb hmm => (jV g (.slice none 0 0) ([]) [] c.Kind _ _ ⟨hH, hN, aW.refl _⟩ (bE.nil _ _ _) e2)) (fun j9 k1 k3 j7 hST g5 hl14 hlift e0 => ?_))
  obtain ⟨g4, f9, I, rfl, e4⟩ := e0
  replace I := I.symm; subst I
  replace hST := hST.perm (Tb (Tr Tn))
  refine aD (aG (aC (aA (V (aB rfl) (V (aM lR rfl) (V (aI rfl (aK hST.has (Mt (Ma Mh)) (aO c.Head) rfl Tryz.isAgg28 Tryz.sizeOf28)) (bS hm fun N e3 hm => ?_)))))))
  have hsz := hST.size
  refine VE (iu hST (Cb Pz (Cr Qz Cn)) Tryz.call269 (fun hH hN hsb hmm => (mB g g4 r9.2 f9 c.Head _ _ ⟨hH, hN, aW.refl _⟩ e4 e3)) (fun k0 k2 d1 j8 hST g6 hl27 hlift e1 => ?_))
  obtain ⟨G, D, J, rfl, i⟩ := e1
  replace J := J.symm; subst J
  replace hST := hST.perm (Tb (Tr Tn))
  refine aD (aG (aC (CJ hm (fun a3 E W => ∃ (B : Value) (H : List (Nat × Obj)) (K : aY) (Q : List (Nat × Obj)), aW d1 K ∧ ST true dW w W K ((g, Obj.cells (#[B] : Array Value) 92 (0, 0)) :: (H ++ Q)) ∧ E 3 = (.pointer (some ⟨g, 0, none⟩)) ∧ bE 5 (cT .u8) 1 B a3 H) (fun a3 a => ?_) ?_)))
  · refine aC (aA (V (aM oV rfl) (V (aI rfl (aN hST.has (Mt (Ma Mh)) rfl Tryz.isAgg3)) (aD (aG (aU (aC (aA (V (aP rfl rfl rfl) (V (aF rfl) (aD (aG (CI a rfl (fun b0 a => ?_) (fun b0 a => ?_))))))))))))))
    · refine aA (V (aB rfl) (V (aM rM rfl) (V (aI rfl (aN hST.has (Mt (Ma Mh)) rfl Tryz.isAgg9)) (bS a fun i1 b6 a => ?_))))
      have hsz := hST.size
      refine VE (iu hST (Cb Pz (Cr Qz Cn)) Tryz.call270 (fun hH hN hsb hmm => (oQ g G N.2 D c.Who _ _ ⟨hH, hN, aW.refl _⟩ i b6)) (fun h4 i6 f5 g7 hST T hl144 hlift a4 => ?_))
      obtain ⟨e9, d3, k, rfl, c5⟩ := a4
      replace k := k.symm; subst k
      replace hST := hST.perm (Tb (Tr Tn))
      refine aD (cM (aG ?_))
      have hx := sj a; subst hx
      exact ⟨e9, d3, f5, _, T, (hST.sel (Kb (Kr (Db St)))), rfl, c5⟩
    refine aC (aA (V (aP rfl rfl rfl) (V (aF rfl) (aD (aG (CI a rfl (fun b2 a => ?_) (fun b2 a => ?_)))))))
    · refine aA (V (aB rfl) (V (aM jb rfl) (V (aI rfl (aK hST.has (Mt (Ma Mh)) (aO c.B) rfl Tryz.isAgg28 Tryz.sizeOf28)) (bS a fun i2 b9 a => ?_))))
      have hsz := hST.size
      refine VE (iu hST (Cb Pz (Cr Qz Cn)) Tryz.call269 (fun hH hN hsb hmm => (mB g G N.2 D c.B _ _ ⟨hH, hN, aW.refl _⟩ i b9)) (fun h5 i7 f6 g8 hST U hl158 hlift a5 => ?_))
      obtain ⟨f0, d4, t, rfl, c6⟩ := a5
      replace t := t.symm; subst t
      replace hST := hST.perm (Tb (Tr Tn))
      refine aD (cM (aG ?_))
      have hx := sj a; subst hx
      exact ⟨f0, d4, f6, _, U, (hST.sel (Kb (Kr (Db St)))), rfl, c6⟩
    refine aC (aA (V (aP rfl rfl rfl) (V (aF rfl) (aD (aG (CI a rfl (fun b3 a => ?_) (fun b3 a => ?_)))))))
    · refine aC (aA (V (aB rfl) (V (aM jb rfl) (V (aI rfl (aK hST.has (Mt (Ma Mh)) (aO c.B) rfl Tryz.isAgg28 Tryz.sizeOf28)) (bS a fun e6 c0 a => ?_)))))
      have hsz := hST.size
      refine VE (iu hST (Cb Pz (Cr Qz Cn)) Tryz.call269 (fun hH hN hsb hmm => (mB g G N.2 D c.B _ _ ⟨hH, hN, aW.refl _⟩ i c0)) (fun h6 i8 j5 g9 hST Y hl172 hlift a6 => ?_))
      obtain ⟨f1, d5, u, rfl, c7⟩ := a6
      replace u := u.symm; subst u
      replace hST := hST.perm (Tb (Tr Tn))
      refine aD (aG (aA (V (aB rfl) (V (aM pC rfl) (V (aI rfl (aN hST.has (Mt (Ma Mh)) rfl Tryz.isAgg9)) (bS a fun i3 c1 a => ?_))))))
      have hsz := hST.size
      refine VE (iu hST (Cb Pz (Cr Qz Cn)) Tryz.call270 (fun hH hN hsb hmm => (oQ g f1 e6.2 d5 c.Word2 _ _ ⟨hH, hN, aW.refl _⟩ c7 c1)) (fun h7 i9 f7 h0 hST Z hl185 hlift a7 => ?_))
      obtain ⟨f2, d6, x, rfl, c8⟩ := a7
      replace x := x.symm; subst x
      replace hST := hST.perm (Tb (Tr Tn))
      refine aD (cM (aG ?_))
      have hx := sj a; subst hx
      exact ⟨f2, d6, f7, _, (Y.trans Z), (hST.sel (Kb (Kr (Db St)))), rfl, c8⟩
    refine aC (aA (V (aP rfl rfl rfl) (V (aF rfl) (aD (aG (CI a rfl (fun b4 a => ?_) (fun b4 a => ?_)))))))
    · refine aC (aA (V (aB rfl) (V (aM jb rfl) (V (aI rfl (aK hST.has (Mt (Ma Mh)) (aO c.B) rfl Tryz.isAgg28 Tryz.sizeOf28)) (bS a fun e7 c2 a => ?_)))))
      have hsz := hST.size
      refine VE (iu hST (Cb Pz (Cr Qz Cn)) Tryz.call269 (fun hH hN hsb hmm => (mB g G N.2 D c.B _ _ ⟨hH, hN, aW.refl _⟩ i c2)) (fun h8 j0 j6 h1 hST a1 hl199 hlift a8 => ?_))
      obtain ⟨f3, d7, y, rfl, c9⟩ := a8
      replace y := y.symm; subst y
      replace hST := hST.perm (Tb (Tr Tn))
      refine aD (aG (aA (V (aB rfl) (V (aM oP rfl) (V (aI rfl (aK hST.has (Mt (Ma Mh)) (aO c.C) rfl Tryz.isAgg28 Tryz.sizeOf28)) (bS a fun i4 c3 a => ?_))))))
      have hsz := hST.size
      refine VE (iu hST (Cb Pz (Cr Qz Cn)) Tryz.call269 (fun hH hN hsb hmm => (mB g f3 e7.2 d7 c.C _ _ ⟨hH, hN, aW.refl _⟩ c9 c3)) (fun h9 j3 f8 h2 hST a2 hl212 hlift a9 => ?_))
      obtain ⟨f4, d8, z, rfl, d0⟩ := a9
      replace z := z.symm; subst z
      replace hST := hST.perm (Tb (Tr Tn))
      refine aD (cM (aG ?_))
      have hx := sj a; subst hx
      exact ⟨f4, d8, f8, _, (a1.trans a2), (hST.sel (Kb (Kr (Db St)))), rfl, d0⟩
    refine aT (cM (aG ?_))
    have hx := sj a; subst hx
    exact ⟨G, D, d1, _, (aW.refl _), (hST.sel (Kb (Kr (Db St)))), rfl, i⟩
  rintro e5 E W ⟨B, H, K, Q, g1, hST, d9, c4⟩ j
  refine aC (aA (V (aB d9) (bS j fun i0 b5 j => VE (mh hST Tryz.call66 ((qx g B e5 _ _ (c4.sl (fun _ => rfl) (fun b o hq => hST.at_ (Mt (Ml hq)))) (At.of (hST.at_ Mh) _ rfl) b5)) (fun h3 e8 j4 d2 hST g2 hl131 M => V (aF rfl) (aD (aG ?_)))))))
  replace hST := hST.sel (Kr (Db (Dr St)))
  refine aS ?_
  have hx := sj j; subst hx
  exact dI (v := e8) rfl rfl ⟨_, d2, rfl, hST.backRow (fun p hq => (Ml hq)) M.nd, M⟩
theorem EX (w : World) {va vb : Value} {a b : List Int} (h1 : Sl (Pl (cT .u8)) 1 (hp w) va a) (h2 : Sl (Pl (cT .u8)) 1 (hp w) vb b) : (callFunc 369 [va, vb].toArray).run Tryz.prog w = .ok (.value (.int .i64 (oA a b))) w := CK Tryz.func369 (by kernel_rfl) (by kernel_rfl) (by kernel_rfl) (by kernel_rfl) h1 h2
theorem qT (a : Value) (g : List Int) (c : Value) (i : List Int) (r : Int) (w : World) (j : Sl (Pl (cT .u8)) 1 (hp w) a g) (k : Sl (Pl (cT .u8)) 1 (hp w) c i) (hm : lN g i = some r) :
    bW true Tryz.prog 323 [a, c] w (.int .i64 r) := by
  have hST := ST.start (dd := true) w
  unfold lN at hm
  refine cF 8 Tryz.func323 rfl (aC (aA (V (aF rfl) (aD (aG (aC (aA (V (aB rfl) (V (aB rfl) (VE (AB (args := [a, c]) (v := .int .i64 (oA g i)) rfl (by exact no rfl rfl) (EX _ (j.mono (Pl.mono _) hST.sub_hp) (k.mono (Pl.mono _) hST.sub_hp)) (V (aF rfl) (aD (aG (aS ?_)))))))))))))))
  have hx := sj hm; subst hx
  exact rP hST
theorem wD (g : Cred) (i : Cred) (r : Int) (w : World)  (hm : kg g i = some r) :
    bW true Tryz.prog 231 [(.agg (aJ g).toArray), (.agg (aJ i).toArray)] w (.int .i64 r) := by
  have hST := ST.start (dd := true) w
  unfold kg at hm
  refine cF 10 Tryz.func231 rfl (aC (aA (VE (cH (v := (.agg (aJ g).toArray)) hST rfl (fun T Y hST => VE (cH (v := (.agg (aJ i).toArray)) hST rfl (fun U Z hST => V (aF rfl) (aD (aG (aC ?_))))))))))
  replace hST := hST.drew
  have hS0 := hST.has.sel (Kb (Kb Sn))
  refine cU hS0 bO (XH 0 rfl hS0 (fun _ hS => aI rfl (aK hS (Mt Mh) (aJ g) rfl Tryz.isAgg53 Tryz.sizeOf53)) (XH 2 rfl hS0 (fun _ hS => aI rfl (aK hS Mh (aJ i) rfl Tryz.isAgg53 Tryz.sizeOf53)) (bS hm fun y t hm => XE 1 rfl (mh hST Tryz.call155 ((uh g _ _  t)) (fun I B N G hST a hl52 j => ?_)))))
  have hS0 := hST.has.selS a (Dr (Kb (Kb Sn)))
  refine ⟨hS0, (bS hm fun z u hm => XE 3 rfl (mh hST Tryz.call155 ((uh i _ _  u)) (fun J D Q H hST c hl61 k => ?_)))⟩
  have hS0 := hST.has.selS (a.trans c) (Dr (Dr (Kb (Kb Sn))))
  refine ⟨hS0, (bS hm fun M x hm => XE 4 rfl (Eg hST Tryz.call323 ((qT B y D z _ _ (j.sl (fun _ => rfl) (fun b o hq => hST.at_ (Ma (Ml hq)))) (k.sl (fun _ => rfl) (fun b o hq => hST.at_ (Ml hq))) x)) (fun K hST => ?_)))⟩
  have hS0 := hST.has.selS (a.trans c) (Dr (Dr (Kb (Kb Sn))))
  refine ⟨hS0, (X 5 rfl hS0 (aF rfl) (dC (by kernel_rfl) (aG ?_)))⟩
  replace hST := hST.sel (Dr (Dr (Db (Db St))))
  refine aS ?_
  have hx := sj hm; subst hx
  exact rP hST
theorem rE (j : Value) (a0 : List Cred) (x : List (Nat × Obj)) (r : List Cred) (w : World) {μ0 : aY} (h0 : ie μ0 (x ++ []) w) (B : bE 53 aJ 9 j a0 x) (hm : jz a0 = some r) :
    dJ true Tryz.prog 232 [j] w (x ++ []) (fun v L1 W' => ∃ (y1 : Value) (S2 : List (Nat × Obj)), v = y1 ∧ L1 = (S2 ++ []) ∧ bE 53 aJ 9 y1 r S2) := by
  have hST := ST.startE (dd := true) h0
  unfold jz at hm
  refine cF 61 Tryz.func232 rfl (aC (aA (V (aF rfl) (aD (aG (aC (aC (aA (V (aB rfl) (V (eP Tryz.underlying22 rfl B) (V (aP rfl rfl rfl) (aD (aG (CI hm rfl (fun g0 hm => ?_) (fun g0 hm => ?_)))))))))))))))
  · refine aC (aA (V (aB rfl) (V (aF rfl) (aD (aG (aS (cR ?_)))))))
    have hx := sj hm; subst hx
    exact dI (v := j) rfl rfl ⟨_, _, rfl, (hST.bkM (Kr Sn)), j, x, rfl, rfl, B⟩
  refine aT (aG (aC (aC (aA (V (aF rfl) (aD (aG (aU (gH (fun m E W => ∃ (t : Int) (b4 : List (Nat × Obj)), ST true (keys (x ++ [])) w W μ0 (x ++ b4) ∧ E 0 = j ∧ E 3 = (.int .i64 t) ∧ fQ a0 m t = some r) bR ⟨1, _, (hST.sel St), rfl, rfl, hm⟩ ?_)))))))))
  rintro m E W ⟨t, b4, hST, D, H, a⟩
  cases m with
  | zero => rw [fQ] at a; cases a
  | succ f5 =>
    rw [fQ] at a
    refine aC (aC (aA (V (aB H) (V (aB D) (V (eP Tryz.underlying22 rfl B) (V (aP rfl rfl rfl) (aD (aG (CI a rfl (fun d0 a => ?_) (fun d0 a => ?_))))))))))
    · refine aT (aG (aC (aU (aC ?_))))
      replace hST := hST.drew
      have hS0 := hST.has.sel (Kr Sn)
      refine cU hS0 bO (X 0 rfl hS0 (aB D) (X 1 rfl hS0 (aB H) (bS a fun c3 Z a => XQ 2 rfl hS0 (jh (i := t) (x0 := c3) Tryz.underlying22 Tryz.sizeOf53 rfl rfl B (bM Z) (bJ Z)) (fun g5 d6 => XH 3 rfl hS0 (fun _ hS => aI rfl (mc hS (fun p hq => (Ml hq)) B bV d6 (bJ Z) Tryz.isAgg53 Tryz.sizeOf53)) (X 4 rfl hS0 (aB D) (X 5 rfl hS0 (aB H) (X 6 rfl hS0 (aP rfl rfl rfl) (bS a fun c4 a1 a => XQ 7 rfl hS0 (jh (i := (IntKind.i64.wrap (t - 1))) (x0 := c4) Tryz.underlying22 Tryz.sizeOf53 rfl rfl B (bM a1) (bJ a1)) (fun g6 d7 => XH 8 rfl hS0 (fun _ hS => aI rfl (mc hS (fun p hq => (Ml hq)) B bV d7 (bJ a1) Tryz.isAgg53 Tryz.sizeOf53)) (X 9 rfl hS0 (qc rfl rfl (kT Tryz.eqGuardType53) (nP (ov _ c3 c4))) (dC (by kernel_rfl) (aG ?_))))))))))))
      refine CI a rfl (fun d1 a => ?_) (fun d1 a => ?_)
      · refine aC (aA (V (aB D) (V (aB H) (bS a fun _ b0 a => VQ (pu (i := t) Tryz.underlying22 Tryz.sizeOf53 rfl rfl B (nE b0) (nR b0)) (fun c1 M => V (aF rfl) (aD (aG (aC (aC (aA (V (aF rfl) (aD (aG ?_)))))))))))))
        refine CJ a (fun U E W => ∃ (a6 : List (Nat × Obj)) (b5 : List (Nat × Obj)), ST true (keys (x ++ [])) w W μ0 (a6 ++ b5) ∧ E 0 = j ∧ E 3 = (.int .i64 U.2) ∧ bE 53 aJ 9 j U.1 a6) (fun U d4 => ?_) ?_
        · refine aU (gH (fun m E W => ∃ (a7 : List Cred) (K : List (Nat × Obj)) (Y : Int) (y : Int) (b6 : List (Nat × Obj)), ST true (keys (x ++ [])) w W μ0 (K ++ b6) ∧ E 0 = j ∧ E 3 = (.int .i64 Y) ∧ E 4 = c1 ∧ E 5 = (.int .i64 y) ∧ bE 53 aJ 9 j a7 K ∧ fM t m a7 Y y = some U) bR ⟨a0, x, t, 1, _, (hST.sel St), D, H, rfl, rfl, B, d4⟩ ?_)
          rintro m E W ⟨a7, K, Y, y, b6, hST, Q, T, I, J, g, k⟩
          cases m with
          | zero => rw [fM] at k; cases k
          | succ f6 =>
            rw [fM] at k
            refine aC (aC (aA (V (aB J) (V (aB I) (V (xt Tryz.underlying22 rfl M g) (V (aP rfl rfl rfl) (aD (aG (CI k rfl (fun d2 k => ?_) (fun d2 k => ?_))))))))))
            · refine aT (aG (aC (CJ k (fun a8 E W => ∃ (N : List (Nat × Obj)) (b7 : List (Nat × Obj)), ST true (keys (x ++ [])) w W μ0 (N ++ b7) ∧ E 0 = j ∧ E 3 = (.int .i64 a8.2) ∧ E 4 = c1 ∧ E 5 = (.int .i64 y) ∧ bE 53 aJ 9 j a8.1 N) (fun a8 c => ?_) ?_)))
              · refine aU (aC ?_)
                replace hST := hST.drew
                have hS0 := hST.has.sel (Kr Sn)
                refine cU hS0 bO (X 0 rfl hS0 (aB I) (X 1 rfl hS0 (aB J) (bS c fun c6 a2 c => XQ 2 rfl hS0 (px (i := y) (x0 := c6) Tryz.underlying22 Tryz.sizeOf53 rfl rfl g M (bM a2) (bJ a2)) (fun g7 d8 => XH 3 rfl hS0 (fun _ hS => aI rfl (mc hS (fun p hq => (Ml hq)) g bV d8 (qj (bJ a2)) Tryz.isAgg53 Tryz.sizeOf53)) (X 4 rfl hS0 (aB I) (X 5 rfl hS0 (aB J) (X 6 rfl hS0 (aP rfl rfl rfl) (bS c fun c7 a3 c => XQ 7 rfl hS0 (px (i := (IntKind.i64.wrap (y - 1))) (x0 := c7) Tryz.underlying22 Tryz.sizeOf53 rfl rfl g M (bM a3) (bJ a3)) (fun g8 d9 => XH 8 rfl hS0 (fun _ hS => aI rfl (mc hS (fun p hq => (Ml hq)) g bV d9 (qj (bJ a3)) Tryz.isAgg53 Tryz.sizeOf53)) (X 9 rfl hS0 (E4 rfl rfl (kT Tryz.eqGuardType53) (DL (ov _ c6 c7))) (dC (by kernel_rfl) (aG ?_))))))))))))
                refine CI c rfl (fun d3 c => ?_) (fun d3 c => ?_)
                · refine aC (aA (V (aB Q) (V (aB T) (V (aB I) (V (aB J) (bS c fun a9 a4 c => VQ (px (i := y) (x0 := a9) Tryz.underlying22 Tryz.sizeOf53 rfl rfl g M (bM a4) (bJ a4)) (fun g9 e0 => V (aI rfl (mc hST.has (fun p hq => (Ml hq)) g bV e0 (qj (bJ a4)) Tryz.isAgg53 Tryz.sizeOf53)) (bS c fun f8 a5 c => VQ (jh (i := Y) (x0 := f8) Tryz.underlying22 Tryz.sizeOf53 rfl rfl g (bM a5) (bJ a5)) (fun h1 e1 => VO (sw (u := (.agg (aJ a9).toArray)) (x1 := a9)  hST g bV gC rfl rfl rfl e1 (bJ a5) Tryz.sizeOf53 (fun g3 e8 hST c9 => aD (aG (aA ?_)))))))))))))
                  refine V (aB T) (V (aP rfl rfl rfl) (V (aF rfl) (aD (cM (aG ?_)))))
                  have hx := sj c; subst hx
                  exact ⟨e8, _, (hST.sel St), Q, rfl, I, J, c9⟩
                refine aT (cM (aG ?_))
                have hx := sj c; subst hx
                exact ⟨K, _, (hST.sel St), Q, T, I, J, g⟩
              rintro ⟨f4, f7⟩ E W ⟨N, b7, hST, f0, f1, f2, f3, e4⟩ d5
              exact aA (V (aB f3) (V (aP rfl rfl rfl) (V (aF rfl) (aD (aG ⟨f6, Nat.lt_succ_self _, f4, N, f7, ((IntKind.i64.wrap (y + 1))), _, (hST.sel St), f0, f1, f2, rfl, e4, d5⟩)))))
            refine gI (gc (gc (li (aG ?_))))
            have hx := sj k; subst hx
            exact ⟨K, _, (hST.sel St), Q, T, g⟩
        rintro ⟨g4, c5⟩ E W ⟨a6, b5, hST, b9, c0, b3⟩ G
        refine aC (aA (V (aB b9) (V (aB c0) (bS G fun _ b1 G => VQ (pu (i := c5) Tryz.underlying22 Tryz.sizeOf53 rfl rfl b3 (nE b1) (nR b1)) (fun h2 e2 => VO (ra (z := Fk)  hST b3 bV gC Tryz.underlying22 Tryz.zeroValue53 e2 rfl rfl (fun g2 e7 hST c8 => aD (aG (aC (aA (V (aB b9) (V (aB c0) (bS G fun _ b2 G => VQ (tw (i := c5) Tryz.underlying22 Tryz.sizeOf53 rfl rfl c8 bV (nE b2) (nR b2)) (fun c2 e3 => ?_))))))))))))))
        refine V (aF rfl) (aD (aG (aS (gA (cR (cR (gA (cR ?_))))))))
        have hx := sj G; subst hx
        exact dI (v := c2) rfl rfl ⟨_, _, rfl, (hST.bkM (Kr Sn)), c2, e7, rfl, rfl, e3⟩
      exact aT (cM (aG (aA (V (aB H) (V (aP rfl rfl rfl) (V (aF rfl) (aD (aG ⟨f5, Nat.lt_succ_self _, ((IntKind.i64.wrap (t + 1))), _, (hST.sel St), D, rfl, a⟩))))))))
    refine gI (gc (gc (li (aG (aC (aA (V (aB D) (V (aF rfl) (aD (aG (aS ?_)))))))))))
    have hx := sj a; subst hx
    exact dI (v := j) rfl rfl ⟨_, _, rfl, (hST.bkM (Kr Sn)), j, x, rfl, rfl, B⟩
theorem vG (i : Value) (t : List Cred) (r : List Cred) (w : World) (B : Sl (Pl aJ) 9 (hp w) i t) (hm : lW t = some r) :
    fD false Tryz.prog 116 [i] w 53 aJ 9 r := by
  have hST := ST.start (dd := false) w
  unfold lW at hm
  refine cF 11 Tryz.func116 rfl (aC (aA (V (aF rfl) (aD (aG (aC (aA (V (aB rfl) (bS hm fun r1 T hm => VE (mh hST Tryz.call228 (fD.weak (nj i t _ _ (B.mono (Pl.mono _) hST.sub_hp) T)) (fun W3 v7 μ4 R8 hST a5 hl6 Q => bS hm fun U D hm => ?_)))))))))))
  have hsz := hST.size
  refine VE (iu hST (Cr Qz Cn) Tryz.call143 (fun hH hN hsb hmm => (ll v7 r1 R8 (.func (.func 229) #[] #[]) (fun (x : Cred) => mV x) _ _ ⟨hH, hN, aW.refl _⟩ Q ⟨229, #[], #[], rfl, Tryz.call229, fun W x r hs hm => (xK x r W  hm).weak⟩ D)) (fun b1 b5 b9 a8 hST a1 hl15 hlift u => ?_))
  obtain ⟨k, K, a, rfl, I⟩ := u
  replace a := a.symm; subst a
  replace hST := hST.perm (Tr Tn)
  refine V (aF rfl) (aD (aG (aC (aA (V (aB rfl) (bS hm fun Y G hm => ?_))))))
  have hsz := hST.size
  refine VE (iu hST (Cr Qz Cn) Tryz.call230 (fun hH hN hsb hmm => dJ.weak (AQ k U K (.func (.func 231) #[] #[]) (fun (x : (Cred × Cred)) => kg x.1 x.2) _ _ ⟨hH, hN, aW.refl _⟩ I ⟨231, #[], rfl, Tryz.call231, fun W x r hs hm => wD x.1 x.2 r W  hm⟩ G)) (fun b2 b6 c0 a9 hST a2 hl28 hlift y => ?_))
  obtain ⟨M, c, rfl, J⟩ := y
  replace c := c.symm; subst c
  replace hST := hST.perm (Tr Tn)
  refine aD (aG (aC (aA (V (aB rfl) (bS hm fun b4 H hm => ?_)))))
  have hsz := hST.size
  refine VE (iu hST (Cr Qz Cn) Tryz.call232 (fun hH hN hsb hmm => dJ.weak (rE k Y M _ _ ⟨hH, hN, aW.refl _⟩ J H)) (fun b3 b7 c1 b0 hST a3 hl40 hlift z => ?_))
  obtain ⟨Z, N, g, rfl, j⟩ := z
  replace g := g.symm; subst g
  replace hST := hST.perm (Tr Tn)
  refine V (aF rfl) (aD (aG (aS ?_)))
  have hx := sj hm; subst hx
  exact dI (v := Z) rfl rfl ⟨_, N, rfl, hST.backRow (fun p hq => (Ml hq)) j.nd, j⟩
theorem uV (x : bT) (j : Value) (t : Value) (r : List Cred) (w : World) (g : Sl bB 15 (hp w) j x.Creds) (B : Sl cN 8 (hp w) t x.Acks) (hm : nh x = some r) :
    fD false Tryz.prog 174 [(.agg #[(.string x.Name), j, t])] w 53 aJ 9 r := by
  have hST := ST.start (dd := false) w
  unfold nh at hm
  refine cF 22 Tryz.func174 rfl (aC (aA ?_))
  obtain ⟨A1, c2, rfl⟩ := g.form
  obtain ⟨A3, c4, rfl⟩ := B.form
  refine VE (cH (v := (.agg (C6 x.Name A1 x.Creds.length c2 A3 x.Acks.length c4).toArray)) hST rfl (fun W6 b5 hST => V (aF rfl) (aD (aG (aC (aA (V (aF rfl) (aD (aG (aC (aC (aA (V (aM kZ rfl) (V (aI rfl (aN hST.has Mh rfl Tryz.isAgg107)) (V (eH Tryz.underlying107 rfl g) ?_)))))))))))))))
  refine V (aB rfl) (aD (aG ?_))
  replace hST := hST.sel (Db St)
  refine dP (fun i E W => ∃ (k : Value) (y : List Cred) (u : List (Nat × Obj)) (D : List (Nat × Obj)), (E 9 = .int .i64 (i : Nat) ∧ E 8 = .int .i64 (x.Creds.length : Nat)) ∧ ST false dW w W (hp w) (u ++ D) ∧ E 3 = k ∧ E 7 = (.slice A1 x.Creds.length c2) ∧ bE 53 aJ 9 k y u ∧ jw (x.Creds.drop i) y = some r) x.Creds.length g.len ⟨(.slice none 0 0), ([]), [], _, ⟨rfl, rfl⟩, (hST.sel St), rfl, rfl, (bE.nil _ _ _), hm⟩ (by decide) (by decide) (by decide) (fun _ _ _ h => by obtain ⟨_, _, _, _, eIN, _⟩ := h; exact eIN) ?_ ?_
  · rintro b6 E W U ⟨k, y, u, D, ⟨eI, eN⟩, hST, G, H, z, c⟩
    obtain ⟨a, d2, a7, a6, a8⟩ := dB U
    rw [a7] at c
    rw [jw] at c
    refine aU (aC (aA (VQ (fN (i := (b6 : Int)) (x0 := a) bB.out Tryz.underlying107 Tryz.sizeOf138 H eI g (Int.natCast_nonneg _) a6) (fun c8 ⟨_, ⟨d0, d1, rfl, a1, a2⟩, Y⟩ => V (aI rfl (bN hST.has Y Tryz.isAgg138 Tryz.sizeOf138)) (VE (cA hST Tryz.zeroValue138 (fun b9 c6 hST => ?_)))))))
    obtain ⟨J, M, rfl⟩ := a1.form
    obtain ⟨K, N, rfl⟩ := a2.form
    refine VO (aX (.agg (C3 a.Signed.Cred.Kind a.Signed.Cred.Head.Owner a.Signed.Cred.Head.Word a.Signed.Cred.Who a.Signed.Cred.B.Owner a.Signed.Cred.B.Word a.Signed.Cred.C.Owner a.Signed.Cred.C.Word a.Signed.Cred.Word2 J a.Signed.Tag.length M a.Release.Op a.Release.K a.Release.Role.Owner a.Release.Role.Word K a.Release.Kids.length N).toArray) ((C3 a.Signed.Cred.Kind a.Signed.Cred.Head.Owner a.Signed.Cred.Head.Word a.Signed.Cred.Who a.Signed.Cred.B.Owner a.Signed.Cred.B.Word a.Signed.Cred.C.Owner a.Signed.Cred.C.Word a.Signed.Cred.Word2 J a.Signed.Tag.length M a.Release.Op a.Release.K a.Release.Role.Owner a.Release.Role.Word K a.Release.Kids.length N).toArray) hST rfl rfl Tryz.sizeOf138 (by simp [Value.cells, Value.oneCell']) nb rfl (fun c0 hST => aD (aG (aA (V (aB G) (V (aM qh rfl) (V (aM rK rfl) (V (aI rfl (aK hST.has Mh (aJ a.Signed.Cred) rfl Tryz.isAgg53 Tryz.sizeOf53)) (VE (bU (qs := #[(0, (.agg (aJ a.Signed.Cred).toArray))]) (cs := (aJ a.Signed.Cred).toArray) hST (fH rfl) (eF [(.agg (aJ a.Signed.Cred).toArray)] Tryz.underlying22 Tryz.sizeOf53 Tryz.zeroValue53 (by decide) rfl (by intro v hv; simp only [List.mem_cons, List.not_mem_nil, or_false] at hv; rcases hv with rfl <;> rfl) rfl rfl) (fun c1 a5 hST => ?_)))))))))))
    replace hST := hST.perm (Nr (Qb (Qb Qz)) Nz)
    refine bS c fun a9 T c => VE (kj (enc := aJ) (v := k) (vs := (.slice (some ⟨a5, 0, none⟩) 1 1)) (R := u) hST bV (by decide) gC Tryz.underlying22 io.1 io.2.1 rfl io.2.2.1 io.2.2.2 rfl rfl z (Sl.lit (enc := aJ) (l := [a.Signed.Cred]) bV rfl nb rfl (hST.at_ (Ma Mh))) T (fun c3 b0 a3 hST Q => V (aF rfl) (aD (cM (aG ?_)))))
    replace hST := hST.sel (Kr (Db (Db St)))
    exact ⟨eI, b0, a9, a3, _, ⟨rfl, eN⟩, (hST.sel St), rfl, H, Q, (by rw [a8]; exact c)⟩
  rintro E W ⟨k, y, u, D, ⟨eI, eN⟩, hST, G, H, z, c⟩
  rw [List.drop_length] at c
  rw [jw] at c
  refine aG (aC (aA (V (aB G) (bS c fun c9 Z c => VE (mh hST Tryz.call116 ((vG k y _ _ (z.sl bV (fun b o hq => hST.at_ (Ml hq))) Z)) (fun c5 b1 d3 a4 hST b4 hl186 I => V (aF rfl) (aD (aG ?_))))))))
  replace hST := hST.sel (Kr (Dr St))
  refine aS ?_
  have hx := sj c; subst hx
  exact dI (v := b1) rfl rfl ⟨_, a4, rfl, hST.backRow (fun p hq => (Ml hq)) I.nd, I⟩
theorem tg (j : Value) (t : List Cred) (c : Cred) (r : Int) (w : World) (g : Sl (Pl aJ) 9 (hp w) j t) (hm : lD t c = some r) :
    bW true Tryz.prog 339 [j, (.agg (aJ c).toArray)] w (.int .i64 r) := by
  have hST := ST.start (dd := true) w
  unfold lD at hm
  refine cF 19 Tryz.func339 rfl (aC (aA (VE (cH (v := (.agg (aJ c).toArray)) hST rfl (fun Q J hST => V (aF rfl) (aD (aG (aC (aC (aA (V (aB rfl) (V (eH Tryz.underlying22 rfl g) (V (aB rfl) (aD (aG ?_)))))))))))))))
  refine dP (fun i E W => ∃  (k : List (Nat × Obj)), (E 8 = .int .i64 (i : Nat) ∧ E 7 = .int .i64 (t.length : Nat)) ∧ ST true dW w W (hp w) ((J, Obj.cells ((aJ c).toArray : Array Value) 53 (0, 0)) :: k) ∧ E 0 = j ∧ E 3 = (.pointer (some ⟨J, 0, none⟩)) ∧ gy c (t.drop i) i = some r) t.length g.len ⟨_, ⟨rfl, rfl⟩, (hST.sel St), rfl, rfl, hm⟩ (by decide) (by decide) (by decide) (fun _ _ _ h => by obtain ⟨_, eIN, _⟩ := h; exact eIN) ?_ ?_
  · rintro K E W B ⟨k, ⟨eI, eN⟩, hST, u, x, a⟩
    obtain ⟨y, M, H, G, I⟩ := dB B
    rw [H] at a
    rw [gy] at a
    refine aU (aC (aA (V (aB eI) (V (aF rfl) (aD (aG (aC ?_)))))))
    replace hST := hST.drew
    have hS0 := hST.has.sel (Kb Sn)
    refine cU hS0 bO (XH 0 rfl hS0 (fun _ hS => aI x (aK hS Mh (aJ c) rfl Tryz.isAgg53 Tryz.sizeOf53)) (X 1 rfl hS0 (aB u) (X 2 rfl hS0 (aB rfl) (XQ 3 rfl hS0 (lm (enc := aJ) (i := (K : Int)) (x0 := y) Tryz.underlying22 Tryz.sizeOf53 rfl rfl g (Int.natCast_nonneg _) G) (fun N D => XH 4 rfl hS0 (fun _ hS => aI rfl (bN hS D Tryz.isAgg53 Tryz.sizeOf53)) (X 5 rfl hS0 (qc rfl rfl (kT Tryz.eqGuardType53) (nP (ov _ c y))) (dC (by kernel_rfl) (aG (CI a rfl (fun z a => ?_) (fun z a => ?_))))))))))
    · refine aC (aA (V (aB rfl) (V (aF rfl) (aD (aG ?_)))))
      replace hST := hST.sel (Db St)
      refine aS (gA (cR (gA (cR ?_))))
      have hx := sj a; subst hx
      exact rP hST
    exact aT (cM (aG ⟨eI, _, ⟨rfl, eN⟩, (hST.sel St), u, x, (by rw [I]; exact a)⟩))
  rintro E W ⟨k, ⟨eI, eN⟩, hST, u, x, a⟩
  rw [List.drop_length] at a
  rw [gy] at a
  refine aG ?_
  replace hST := hST.sel (Db St)
  refine aC (aA (V (aF rfl) (aD (aG (aS ?_)))))
  have hx := sj a; subst hx
  exact rP hST
theorem rh (a : Value) (g : List Cred) (c : Cred) (r : Bool) (w : World) (i : Sl (Pl aJ) 9 (hp w) a g) (hm : ja g c = some r) :
    bW true Tryz.prog 262 [a, (.agg (aJ c).toArray)] w (.bool r) := by
  have hST := ST.start (dd := true) w
  unfold ja at hm
  refine cF 9 Tryz.func262 rfl (aC (aA (VE (cH (v := (.agg (aJ c).toArray)) hST rfl (fun k u hST => V (aF rfl) (aD (aG (aC (aA (V (aB rfl) (V (aI rfl (aK hST.has Mh (aJ c) rfl Tryz.isAgg53 Tryz.sizeOf53)) (bS hm fun x j hm => VE (Eg hST Tryz.call339 ((tg a g c _ _ (i.mono (Pl.mono _) hST.sub_hp) j)) (fun t hST => V (aP rfl rfl rfl) (V (aF rfl) ?_)))))))))))))))
  refine aD (aG ?_)
  replace hST := hST.sel (Db St)
  refine aS ?_
  have hx := sj hm; subst hx
  exact rP hST
theorem qb (a : Value) (g : List Cred) (c : Cred) (r : Bool) (w : World) (i : Sl (Pl aJ) 9 (hp w) a g) (hm : jj g c = some r) :
    bW true Tryz.prog 201 [a, (.agg (aJ c).toArray)] w (.bool r) := by
  have hST := ST.start (dd := true) w
  unfold jj at hm
  refine cF 8 Tryz.func201 rfl (aC (aA (VE (cH (v := (.agg (aJ c).toArray)) hST rfl (fun k u hST => V (aF rfl) (aD (aG (aC (aA (V (aB rfl) (V (aI rfl (aK hST.has Mh (aJ c) rfl Tryz.isAgg53 Tryz.sizeOf53)) (bS hm fun x j hm => VE (Eg hST Tryz.call262 ((rh a g c _ _ (i.mono (Pl.mono _) hST.sub_hp) j)) (fun t hST => V (aF rfl) (aD ?_)))))))))))))))
  refine aG ?_
  replace hST := hST.sel (Db St)
  refine aS ?_
  have hx := sj hm; subst hx
  exact rP hST
theorem yx (a : Cred) (r : List Role) (w : World)  (hm : ny a = some r) :
    fD true Tryz.prog 118 [(.agg (aJ a).toArray)] w 28 aO 2 r := by
  have hST := ST.start (dd := true) w
  unfold ny at hm
  refine cF 27 Tryz.func118 rfl (aC (aA (VE (cH (v := (.agg (aJ a).toArray)) hST rfl (fun W2 b1 hST => V (aF rfl) (aD (aG (aC (aC (aA (V (aI rfl (aK hST.has Mh (aJ a) rfl Tryz.isAgg53 Tryz.sizeOf53)) (bS hm fun r3 a7 hm => VE (Eg hST Tryz.call137 ((oJ a _ _  a7)) (fun W5 hST => V (iS rfl) (aD ?_)))))))))))))))
  refine aG (CI hm rfl (fun a6 hm => ?_) (fun a6 hm => ?_))
  · refine aC (aA (V (aF rfl) (aD (aG ?_))))
    replace hST := hST.sel (Db St)
    refine aS (cR ?_)
    have hx := sj hm; subst hx
    exact dI (v := (.slice none 0 0)) rfl rfl ⟨_, [], rfl, hST.backRow (fun p hq => by cases hq) (by simp), bE.nil _ _ _⟩
  refine aT (aG (aC (aA (V (aM lR rfl) (V (aI rfl (aK hST.has Mh (aO a.Head) rfl Tryz.isAgg28 Tryz.sizeOf28)) (VE (bU (qs := #[(0, (.agg (aO a.Head).toArray))]) (cs := (aO a.Head).toArray) hST (fH rfl) (eF [(.agg (aO a.Head).toArray)] Tryz.underlying34 Tryz.sizeOf28 Tryz.zeroValue28 (by decide) rfl (by intro v hv; simp only [List.mem_cons, List.not_mem_nil, or_false] at hv; rcases hv with rfl <;> rfl) rfl rfl) (fun W8 y hST => V (aF rfl) (aD (aG (aC (CJ hm (fun I E W => ∃ (j : Value) (i : List (Nat × Obj)) (z : List (Nat × Obj)), ST true dW w W (hp w) ((b1, Obj.cells ((aJ a).toArray : Array Value) 53 (0, 0)) :: (i ++ z)) ∧ E 1 = (.pointer (some ⟨b1, 0, none⟩)) ∧ E 3 = j ∧ bE 28 aO 2 j I i) (fun I g => ?_) ?_))))))))))))
  · refine aC (aA (V (aM oV rfl) (V (aI rfl (aN hST.has (Mt Mh) rfl Tryz.isAgg3)) (V (aP rfl rfl rfl) (aD (aG (CI g rfl (fun Q g => ?_) (fun Q g => ?_))))))))
    · refine aA (V (aB rfl) (V (aM jb rfl) (V (aI rfl (aK hST.has (Mt Mh) (aO a.B) rfl Tryz.isAgg28 Tryz.sizeOf28)) (VE (bU (qs := #[(0, (.agg (aO a.B).toArray))]) (cs := (aO a.B).toArray) hST (fH rfl) (eF [(.agg (aO a.B).toArray)] Tryz.underlying34 Tryz.sizeOf28 Tryz.zeroValue28 (by decide) rfl (by intro v hv; simp only [List.mem_cons, List.not_mem_nil, or_false] at hv; rcases hv with rfl <;> rfl) rfl rfl) (fun b3 a4 hST => ?_))))))
      replace hST := hST.perm (Nb (Pb Pz) Nz)
      refine bS g fun c0 T g => VE (kj (enc := aO) (v := (.slice (some ⟨y, 0, none⟩) 1 1)) (vs := (.slice (some ⟨a4, 0, none⟩) 1 1)) (R := [(y, Obj.cells ((aO a.Head).toArray : Array Value) 28 (0, 0))]) hST rQ (by decide) oC Tryz.underlying34 pK.1 pK.2.1 rfl pK.2.2.1 pK.2.2.2 rfl rfl (bE.lit (l := [a.Head]) (enc := aO) rfl (by decide) rfl rfl) (Sl.lit (enc := aO) (l := [a.B]) rQ rfl nb rfl (hST.at_ (Mt Mh))) T (fun b4 a9 a1 hST K => V (aF rfl) (aD (aG ?_))))
      have hx := sj g; subst hx
      exact ⟨a9, a1, _, (hST.sel (Sb (Pr (Pb Pz)) (Kr (Db St)))), rfl, rfl, K⟩
    refine aT (aG ?_)
    have hx := sj g; subst hx
    replace hST := hST.row1
    exact ⟨(.slice (some ⟨y, 0, none⟩) 1 1), [(y, Obj.cells ((aO a.Head).toArray : Array Value) 28 (0, 0))], _, (hST.sel (Sb (Pr Pz) St)), rfl, rfl, (bE.lit (l := [a.Head]) (enc := aO) rfl (by decide) rfl rfl)⟩
  rintro b5 E W ⟨j, i, z, hST, D, G, u⟩ U
  refine aC (CJ U (fun H E W => ∃ (t : Value) (k : List (Nat × Obj)) (B : List (Nat × Obj)), ST true dW w W (hp w) (k ++ B) ∧ E 3 = t ∧ bE 28 aO 2 t H k) (fun H c => ?_) ?_)
  · refine aC (aA (V (aM oV D) (V (aI rfl (aN hST.has Mh rfl Tryz.isAgg3)) (V (aP rfl rfl rfl) (aD (aG (CI c rfl (fun M c => ?_) (fun M c => ?_))))))))
    · refine aA (V (aB G) (V (aM oP D) (V (aI rfl (aK hST.has Mh (aO a.C) rfl Tryz.isAgg28 Tryz.sizeOf28)) (VE (bU (qs := #[(0, (.agg (aO a.C).toArray))]) (cs := (aO a.C).toArray) hST (fH rfl) (eF [(.agg (aO a.C).toArray)] Tryz.underlying34 Tryz.sizeOf28 Tryz.zeroValue28 (by decide) rfl (by intro v hv; simp only [List.mem_cons, List.not_mem_nil, or_false] at hv; rcases hv with rfl <;> rfl) rfl rfl) (fun b0 a3 hST => ?_))))))
      replace hST := hST.perm (Nr (Qb (Qb Qz)) Nz)
      refine bS c fun b9 N c => VE (kj (enc := aO) (v := j) (vs := (.slice (some ⟨a3, 0, none⟩) 1 1)) (R := i) hST rQ (by decide) oC Tryz.underlying34 pK.1 pK.2.1 rfl pK.2.2.1 pK.2.2.2 rfl rfl u (Sl.lit (enc := aO) (l := [a.C]) rQ rfl nb rfl (hST.at_ (Ma Mh))) N (fun b2 a8 Z hST J => V (aF rfl) (aD (aG ?_))))
      have hx := sj c; subst hx
      exact ⟨a8, Z, _, (hST.sel (Kr (Db (Db St)))), rfl, J⟩
    refine aT (aG ?_)
    have hx := sj c; subst hx
    exact ⟨j, i, _, (hST.sel (Db St)), G, u⟩
  rintro b6 E W ⟨t, k, B, hST, a5, x⟩ Y
  refine aC (aA (V (aB a5) (V (aF rfl) (aD (aG (aS ?_))))))
  have hx := sj Y; subst hx
  exact dI (v := t) rfl rfl ⟨_, k, rfl, hST.backRow (fun p hq => (Ml hq)) x.nd, x⟩
theorem rU (M : Nat) (u : Value) (a9 : List (Role × (List (ByteArray × Bool)))) (G : List (Nat × Obj)) (D : Value) (a0 : List Cred) (B : List (Nat × Obj)) (a : Value) (Y : List (Role × (List Cred))) (I : List (Nat × Obj)) (c : Value) (K : List (ByteArray × (List Cred))) (t : List (Nat × Obj)) (j : Value) (a4 : List aZ) (y : List (Nat × Obj)) (J : Int) (H : Cred) (r : ((List Cred) × (List (Role × (List Cred))) × (List (ByteArray × (List Cred))))) (w : World) {μ0 : aY} (h0 : ie μ0 ((M, Obj.cells (#[u, D, a, c, j, (.int .i64 J)] : Array Value) 294 (0, 0)) :: (G ++ (B ++ (I ++ (t ++ (y ++ [])))))) w) (e9 : dN (fun (x : Role) => (.agg (aO x).toArray)) (dK Value.string (fun (x : Bool) => (Value.bool x))) u a9 G) (a6 : bE 53 aJ 9 D a0 B) (b2 : dN (fun (x : Role) => (.agg (aO x).toArray)) (bE 53 aJ 9) a Y I) (T : dN Value.string (bE 53 aJ 9) c K t) (e1 : jv 38 cZ 3 j a4 y) (hm : jJ a9 a0 Y K a4 J H = some r) :
    dJ true Tryz.prog 324 [(.pointer (some ⟨M, 0, none⟩)), (.agg (aJ H).toArray)] w ((M, Obj.cells (#[u, D, a, c, j, (.int .i64 J)] : Array Value) 294 (0, 0)) :: (G ++ (B ++ (I ++ (t ++ (y ++ [])))))) (fun v L1 W' => ∃ (y1 : Value) (S2 : List (Nat × Obj)) (S4 : List (Nat × Obj)) (S6 : List (Nat × Obj)), v = (.tuple #[]) ∧ L1 = ((M, Obj.cells (#[u, y1, a, c, j, (.int .i64 J)] : Array Value) 294 (0, 0)) :: (G ++ (S2 ++ (S4 ++ (S6 ++ (y ++ [])))))) ∧ bE 53 aJ 9 y1 r.1 S2 ∧ dN (fun (x : Role) => (.agg (aO x).toArray)) (bE 53 aJ 9) a r.2.1 S4 ∧ dN Value.string (bE 53 aJ 9) c r.2.2 S6) := by
  have hST := ST.startE (dd := true) h0
  unfold jJ at hm
  refine cF 55 Tryz.func324 rfl (aC (aA (VE (cH (v := (.agg (aJ H).toArray)) hST rfl (fun W2 b1 hST => aD (aG (aC ?_)))))))
  replace hST := hST.drew
  have hS0 := hST.has.sel (Kb Sn)
  have hS1 := hST.has.sel (Db (Kb Sn))
  refine mL 10 hS0 hS1 bO (cE 0 rfl (by kernel_rfl) (.inl rfl) rfl (by decide) (fun _ _ h => ⟨h.1, cW (by rfl) h.2⟩) ⟨hS0, fun _ => hS1⟩ (fun _ _ _ _ => aB rfl) (cE 1 rfl (by kernel_rfl) (.inl rfl) rfl (by decide) (fun _ _ h => ⟨h.1, cW (by rfl) h.2⟩) ⟨hS0, fun _ => hS1⟩ (fun _ _ _ _ => aB rfl) (cE 2 rfl (by kernel_rfl) (.inl rfl) rfl (by decide) (fun _ _ h => ⟨h.1, cW (by rfl) h.2⟩) ⟨hS0, fun _ => hS1⟩ (fun _ _ _ _ => bP rfl) (cE 3 rfl (by kernel_rfl) (.inl rfl) rfl (by decide) (fun _ _ h => ⟨h.1, cW (by rfl) h.2⟩) ⟨hS0, fun _ => hS1⟩ (fun _ _ _ _ => aM xe rfl) (cE 4 rfl (by kernel_rfl) (.inl rfl) rfl (by decide) (fun _ _ h => ⟨h.1, cW (by rfl) h.2⟩) ⟨hS0, fun _ => hS1⟩ (fun l W hpd hs => have hS := (hs.2 (hpd.bar 10 [4] (by kernel_rfl) rfl)); aI rfl (aN hS Mh rfl Tryz.isAgg22)) (cE 5 rfl (by kernel_rfl) (.inl rfl) rfl (by decide) (fun _ _ h => ⟨h.1, cW (by rfl) h.2⟩) ⟨hS0, fun _ => hS1⟩ (fun l W hpd hs => have hS := hs.1; aI rfl (aK hS Mh (aJ H) rfl Tryz.isAgg53 Tryz.sizeOf53)) (XE 6 rfl (bU (qs := #[(0, (.agg (aJ H).toArray))]) (cs := (aJ H).toArray) hST (fH rfl) (eF [(.agg (aJ H).toArray)] Tryz.underlying22 Tryz.sizeOf53 Tryz.zeroValue53 (by decide) rfl (by intro v hv; simp only [List.mem_cons, List.not_mem_nil, or_false] at hv; rcases hv with rfl <;> rfl) rfl rfl) (fun j8 g0 hST => ?_)))))))))
  have hS0 := hST.has.sel (Db (Kb Sn))
  have hS1 := hST.has.sel (Db (Db (Kb Sn)))
  refine ⟨⟨hS0, fun _ => hS1⟩, ?_⟩
  replace hST := hST.perm (Nr (Qb (Qb (Qb (Qr Qz)))) Nz)
  refine bS hm fun a5 f0 hm => XE 7 rfl (kj (enc := aJ) (v := D) (vs := (.slice (some ⟨g0, 0, none⟩) 1 1)) (R := B) hST bV (by decide) gC Tryz.underlying22 io.1 io.2.1 rfl io.2.2.1 io.2.2.2 rfl rfl a6 (Sl.lit (enc := aJ) (l := [H]) bV rfl nb rfl (hST.at_ (Ma Mh))) f0 (fun j9 k2 b7 hST b5 => ?_))
  have hS0 := hST.has.sel (Dr (Db (Kb Sn)))
  have hS1 := hST.has.sel (Dr (Db (Db (Kb Sn))))
  refine ⟨⟨hS0, fun _ => hS1⟩, (cE 8 rfl (by kernel_rfl) (.inl rfl) rfl (by decide) (fun _ _ h => ⟨h.1, cW (by rfl) h.2⟩) ⟨hS0, fun _ => hS1⟩ (fun _ _ _ _ => bP rfl) (cE 9 rfl (by kernel_rfl) (.inl rfl) rfl (by decide) (fun _ _ h => ⟨h.1, cW (by rfl) h.2⟩) ⟨hS0, fun _ => hS1⟩ (fun _ _ _ _ => aM xe rfl) ?_))⟩
  obtain ⟨a8, b0, rfl⟩ := b5.form
  replace hST := hST.perm (Nb (Pr (Pb (Pb Pz))) Nz)
  refine XO 10 rfl (aX (.slice a8 a5.length b0) (#[u, (.slice a8 a5.length b0), a, c, j, (.int .i64 J)]) hST rfl rfl Tryz.sizeOf22 (by simp [Value.cells, Value.oneCell']) nb rfl (fun k0 hST => ?_))
  have hS0 := hST.has.sel (Db (Dr (Db (Kb Sn))))
  refine ⟨⟨hS0, fun h => pB (by kernel_rfl) h⟩, (dC (by kernel_rfl) (aG ?_))⟩
  replace hST := hST.sel (Kb (Kr (Db St)))
  refine aC (aC (aA (V (aI rfl (aK hST.has (Mt (Ma Mh)) (aJ H) rfl Tryz.isAgg53 Tryz.sizeOf53)) (bS hm fun c1 f1 hm => VE (mh hST Tryz.call118 ((yx H _ _  f1)) (fun k1 k3 k4 j7 hST g4 hl41 e8 => ?_))))))
  obtain ⟨g3, hST, g5, hl49, f2⟩ := ST.pub1 hST e8 rQ
  refine bS hm fun _ b9 hm => VQ (uR (i := 1) Tryz.underlying34 Tryz.sizeOf28 rfl rfl f2 (nE b9) (nR b9)) (fun g1 b6 => V (eH Tryz.underlying34 rfl b6.1) (V (aB rfl) (aD (aG (dP (fun i E W => ∃ (a3 : List (Role × (List Cred))) (U : List (Nat × Obj)) (b3 : List (Nat × Obj)), (E 20 = .int .i64 (i : Nat) ∧ E 19 = .int .i64 (((c1.drop (Int.toNat 1))).length : Nat)) ∧ ST true (keys ((M, Obj.cells (#[u, D, a, c, j, (.int .i64 J)] : Array Value) 294 (0, 0)) :: (G ++ (B ++ (I ++ (t ++ (y ++ []))))))) w W g3 ((M, Obj.cells (#[u, (.slice a8 a5.length b0), a, c, j, (.int .i64 J)] : Array Value) 294 (0, 0)) :: ((b1, Obj.cells ((aJ H).toArray : Array Value) 53 (0, 0)) :: (U ++ (b7 ++ (G ++ (t ++ (y ++ b3))))))) ∧ E 0 = (.pointer (some ⟨M, 0, none⟩)) ∧ E 3 = (.pointer (some ⟨b1, 0, none⟩)) ∧ E 18 = g1 ∧ dN (fun (x : Role) => (.agg (aO x).toArray)) (bE 53 aJ 9) a a3 U ∧ eZ H K a5 (((c1.drop (Int.toNat 1))).drop i) a3 = some r) ((c1.drop (Int.toNat 1))).length b6.1.len ⟨Y, I, _, ⟨rfl, rfl⟩, (hST.sel (Kb (Sb (Pr Pz) (Sr (Qr (Qr Qz)) St)))), rfl, rfl, rfl, b2, hm⟩ (by decide) (by decide) (by decide) (fun _ _ _ h => by obtain ⟨_, _, _, eIN, _⟩ := h; exact eIN) ?_ ?_)))))
  · rintro f3 E W d3 ⟨a3, U, b3, ⟨eI, eN⟩, hST, a2, N, b4, Z, g⟩
    obtain ⟨Q, h2, d8, d7, d9⟩ := dB d3
    rw [d8] at g
    rw [eZ] at g
    refine aU (aC (aA (VQ (lm (enc := aO) (i := (f3 : Int)) (x0 := Q) Tryz.underlying34 Tryz.sizeOf28 b4 eI b6.1 (Int.natCast_nonneg _) d7) (fun j0 d4 => V (aI rfl (bN hST.has d4 Tryz.isAgg28 Tryz.sizeOf28)) (VE (cA hST Tryz.zeroValue28 (fun h9 i8 hST => VO (aX (.agg (aO Q).toArray) ((aO Q).toArray) hST rfl rfl Tryz.sizeOf28 (oC Q) nb rfl (fun i0 hST => aD (aG ?_))))))))))
    replace hST := hST.drew
    have hS0 := hST.has.sel (Kb (Kb (Kb Sn)))
    refine cU hS0 bO (X 0 rfl hS0 (aB a2) (X 1 rfl hS0 (bP rfl) (X 2 rfl hS0 (aM Af rfl) (XH 3 rfl hS0 (fun _ hS => aI rfl (aN hS (Mt Mh) rfl Tryz.isAgg291)) (XH 4 rfl hS0 (fun _ hS => aI rfl (aK hS Mh (aO Q) rfl Tryz.isAgg28 Tryz.sizeOf28)) (XH 5 rfl hS0 (fun _ hS => aI N (aK hS (Mt (Mt Mh)) (aJ H) rfl Tryz.isAgg53 Tryz.sizeOf53)) (XE 6 rfl (bU (qs := #[(0, (.agg (aJ H).toArray))]) (cs := (aJ H).toArray) hST (fH rfl) (eF [(.agg (aJ H).toArray)] Tryz.underlying22 Tryz.sizeOf53 Tryz.zeroValue53 (by decide) rfl (by intro v hv; simp only [List.mem_cons, List.not_mem_nil, or_false] at hv; rcases hv with rfl <;> rfl) rfl rfl) (fun i1 e6 hST => ?_)))))))))
    have hS0 := hST.has.sel (Db (Kb (Kb (Kb Sn))))
    refine ⟨hS0, ?_⟩
    obtain ⟨g8, d1⟩ := Z
    replace hST := hST.perm (Nr (Qb (Qb (Qb (Qb Qz)))) Nz)
    refine XE 7 rfl (A6 (k := Q) (x0 := [])  bA pL Tryz.underlying291 Tryz.zeroValue22 (bE.nil _ _ _) hST d1 rfl rfl (fun i2 f5 h1 h4 e2 hST c3 c2 => ?_))
    have hS0 := hST.has.sel (Dr (Dr (Db (Kb (Kb (Kb Sn))))))
    refine ⟨hS0, (X 8 rfl hS0 (bQ rfl rfl) (X 10 rfl hS0 (bQ rfl rfl) ?_))⟩
    replace hST := hST.perm (Nr (Qr Qz) Nz)
    refine bS g fun c0 c8 g => XE 9 rfl (kj (enc := aJ) (v := f5) (vs := (.slice (some ⟨e6, 0, none⟩) 1 1)) (R := e2) hST bV (by decide) gC Tryz.underlying22 io.1 io.2.1 rfl io.2.2.1 io.2.2.2 rfl rfl c3 (Sl.lit (enc := aJ) (l := [H]) bV rfl nb rfl (hST.at_ (Ma (Ma Mh)))) c8 (fun i3 j3 h5 hST c4 => ?_))
    have hS0 := hST.has.sel (Dr (Dr (Db (Kb (Kb (Kb Sn))))))
    refine ⟨hS0, ?_⟩
    replace hST := hST.perm (Nr (Qr Qz) Nz)
    refine XO 11 rfl (yI (e := 0) (z := c0)  bA pL hST c2 rfl rfl rfl c4 (fun i4 g9 e3 hST c5 => ?_))
    have hS0 := hST.has.sel (Dr (Db (Kb (Kb (Kb Sn)))))
    refine ⟨hS0, (dC (by kernel_rfl) (cM (aG ?_)))⟩
    replace hST := hST.sel (Kr (Db (Db St)))
    exact ⟨eI, ((gG bF a3 Q c0)), e3, _, ⟨rfl, eN⟩, (hST.sel (Sb (Pr Pz) (Sb (Pr Pz) St))), a2, N, b4, c5.e, (by rw [d9]; exact g)⟩
  rintro E W ⟨a3, U, b3, ⟨eI, eN⟩, hST, a2, N, b4, Z, g⟩
  rw [List.drop_length] at g
  rw [eZ] at g
  refine aG (aC (aA (V (aM oV N) (V (aI rfl (aN hST.has (Mt Mh) rfl Tryz.isAgg3)) (V (aP rfl rfl rfl) (aD (aG (CI g rfl (fun c9 g => ?_) (fun c9 g => ?_)))))))))
  · replace hST := hST.drew
    have hS0 := hST.has.sel (Kb (Kb Sn))
    have hS1 := hST.has.sel (Db (Db (Dr (Dr (Dr (Kr Sn))))))
    refine mL 15 hS0 hS1 bO (cE 0 rfl (by kernel_rfl) (.inl rfl) rfl (by decide) (fun _ _ h => ⟨h.1, cW (by rfl) h.2⟩) ⟨hS0, fun _ => hS1⟩ (fun _ _ _ _ => aB a2) (cE 1 rfl (by kernel_rfl) (.inl rfl) rfl (by decide) (fun _ _ h => ⟨h.1, cW (by rfl) h.2⟩) ⟨hS0, fun _ => hS1⟩ (fun _ _ _ _ => bP rfl) (cE 2 rfl (by kernel_rfl) (.inl rfl) rfl (by decide) (fun _ _ h => ⟨h.1, cW (by rfl) h.2⟩) ⟨hS0, fun _ => hS1⟩ (fun _ _ _ _ => aM wG rfl) (cE 3 rfl (by kernel_rfl) (.inl rfl) rfl (by decide) (fun _ _ h => ⟨h.1, cW (by rfl) h.2⟩) ⟨hS0, fun _ => hS1⟩ (fun l W hpd hs => have hS := hs.1; aI rfl (aN hS Mh rfl Tryz.isAgg292)) (cE 4 rfl (by kernel_rfl) (.inl rfl) rfl (by decide) (fun _ _ h => ⟨h.1, cW (by rfl) h.2⟩) ⟨hS0, fun _ => hS1⟩ (fun _ _ _ _ => aM pC N) (cE 5 rfl (by kernel_rfl) (.inl rfl) rfl (by decide) (fun _ _ h => ⟨h.1, cW (by rfl) h.2⟩) ⟨hS0, fun _ => hS1⟩ (fun l W hpd hs => have hS := hs.1; aI rfl (aN hS (Mt Mh) rfl Tryz.isAgg9)) (cE 6 rfl (by kernel_rfl) (.inl rfl) rfl (by decide) (fun _ _ h => ⟨h.1, cW (by rfl) h.2⟩) ⟨hS0, fun _ => hS1⟩ (fun _ _ _ _ => aB a2) (cE 7 rfl (by kernel_rfl) (.inl rfl) rfl (by decide) (fun _ _ h => ⟨h.1, cW (by rfl) h.2⟩) ⟨hS0, fun _ => hS1⟩ (fun _ _ _ _ => bP rfl) (cE 8 rfl (by kernel_rfl) (.inl rfl) rfl (by decide) (fun _ _ h => ⟨h.1, cW (by rfl) h.2⟩) ⟨hS0, fun _ => hS1⟩ (fun _ _ _ _ => aM wG rfl) (cE 9 rfl (by kernel_rfl) (.inl rfl) rfl (by decide) (fun _ _ h => ⟨h.1, cW (by rfl) h.2⟩) ⟨hS0, fun _ => hS1⟩ (fun l W hpd hs => have hS := hs.1; aI rfl (aN hS Mh rfl Tryz.isAgg292)) (cE 10 rfl (by kernel_rfl) (.inl rfl) rfl (by decide) (fun _ _ h => ⟨h.1, cW (by rfl) h.2⟩) ⟨hS0, fun _ => hS1⟩ (fun _ _ _ _ => aM pC N) (cE 11 rfl (by kernel_rfl) (.inl rfl) rfl (by decide) (fun _ _ h => ⟨h.1, cW (by rfl) h.2⟩) ⟨hS0, fun _ => hS1⟩ (fun l W hpd hs => have hS := hs.1; aI rfl (aN hS (Mt Mh) rfl Tryz.isAgg9)) ?_))))))))))))
    obtain ⟨e0, a7⟩ := T
    obtain ⟨h6, g6, g7⟩ := eG.rowAt fT.1 a7 H.Word2
    refine cE 12 rfl (by kernel_rfl) (.inl rfl) rfl (by decide) (fun _ _ h => ⟨h.1, cW (by rfl) h.2⟩) ⟨hS0, fun _ => hS1⟩ (fun l W hpd hs => have hS := (hs.2 (hpd.bar 15 [12] (by kernel_rfl) rfl)); iE (k := H.Word2) (z := (.slice none 0 0)) wB Tryz.underlying292 Tryz.zeroValue22 rfl rfl a7 (fun b o hq => hS.2 b o (Ml hq))) (cE 13 rfl (by kernel_rfl) (.inl rfl) rfl (by decide) (fun _ _ h => ⟨h.1, cW (by rfl) h.2⟩) ⟨hS0, fun _ => hS1⟩ (fun l W hpd hs => have hS := hs.1; aI N (aK hS (Mt Mh) (aJ H) rfl Tryz.isAgg53 Tryz.sizeOf53)) (XE 14 rfl (bU (qs := #[(0, (.agg (aJ H).toArray))]) (cs := (aJ H).toArray) hST (fH rfl) (eF [(.agg (aJ H).toArray)] Tryz.underlying22 Tryz.sizeOf53 Tryz.zeroValue53 (by decide) rfl (by intro v hv; simp only [List.mem_cons, List.not_mem_nil, or_false] at hv; rcases hv with rfl <;> rfl) rfl rfl) (fun i5 e7 hST => ?_))))
    have hS0 := hST.has.sel (Db (Kb (Kb Sn)))
    have hS1 := hST.has.sel (Db (Db (Db (Dr (Dr (Dr (Kr Sn)))))))
    refine ⟨⟨hS0, fun _ => hS1⟩, ?_⟩
    replace hST := hST.perm (Nr (Qb (Qb (Qb (Qr (Qr (Qr Qz)))))) Nz)
    obtain ⟨h7, e4, d5, d6, d2⟩ := eG.open fT.1 (bE.nil _ _ _) a7 H.Word2
    replace hST := hST.perm (FK d5)
    replace hST := hST.perm (Nr (Qr Qz) Nz)
    refine bS g fun f4 d0 g => XE 15 rfl (kj (enc := aJ) (v := (jT eT e0 H.Word2 (.slice none 0 0))) (vs := (.slice (some ⟨e7, 0, none⟩) 1 1)) (R := e4) hST bV (by decide) gC Tryz.underlying22 io.1 io.2.1 rfl io.2.2.1 io.2.2.2 rfl rfl d6 (Sl.lit (enc := aJ) (l := [H]) bV rfl nb rfl (hST.at_ (Ma (Ma Mh)))) d0 (fun i6 j4 h8 hST c6 => ?_))
    have hS0 := hST.has.sel (Dr (Dr (Db (Kb (Kb Sn)))))
    refine ⟨⟨hS0, fun h => pB (by kernel_rfl) h⟩, ?_⟩
    replace hST := hST.perm (Nr (Qr Qz) Nz)
    refine XO 16 rfl (EN (k := H.Word2) (z := f4)  wB Tryz.underlying292 hST d2 rfl rfl rfl c6 (fun i7 e5 hST c7 => ?_))
    have hS0 := hST.has.sel (Dr (Db (Kb (Kb Sn))))
    refine ⟨⟨hS0, fun h => pB (by kernel_rfl) h⟩, (dC (by kernel_rfl) (jy ?_))⟩
    have hx := sj g; subst hx
    exact ir rfl ⟨_, _, rfl, (hST.bkM (Sb (Pr (Pb Pz)) (Sr (Qr (Qb (Qb (Qr (Qr Qz))))) (Sr (Qr (Qb (Qb (Qr Qz)))) (Sr (Qr (Qb (Qb Qz))) (Kr (Db (Db (Kr Sn))))))))), (.slice a8 a5.length b0), b7, U, e5, rfl, rfl, b5, Z, c7.e⟩
  refine aT (jy ?_)
  have hx := sj g; subst hx
  exact ir rfl ⟨_, _, rfl, (hST.bkM (Kb (Db (Sr (Qr (Qr Qz)) (Sr (Qr Qz) (Kr (Kr (Kr Sn)))))))), (.slice a8 a5.length b0), b7, U, t, rfl, rfl, b5, Z, T⟩
theorem jE (J : Nat) (g : Value) (a0 : List (Role × (List (ByteArray × Bool)))) (D : List (Nat × Obj)) (a : Value) (M : List Cred) (u : List (Nat × Obj)) (j : Value) (Z : List (Role × (List Cred))) (B : List (Nat × Obj)) (c : Value) (N : List (ByteArray × (List Cred))) (y : List (Nat × Obj)) (i : Value) (Y : List aZ) (t : List (Nat × Obj)) (H : Int) (G : Role) (U : ByteArray) (r : ((List (Role × (List (ByteArray × Bool)))) × (List aZ) × Int)) (w : World) {μ0 : aY} (h0 : ie μ0 ((J, Obj.cells (#[g, a, j, c, i, (.int .i64 H)] : Array Value) 294 (0, 0)) :: (D ++ (u ++ (B ++ (y ++ (t ++ [])))))) w) (a5 : dN (fun (x : Role) => (.agg (aO x).toArray)) (dK Value.string (fun (x : Bool) => (Value.bool x))) g a0 D) (b5 : bE 53 aJ 9 a M u) (c3 : dN (fun (x : Role) => (.agg (aO x).toArray)) (bE 53 aJ 9) j Z B) (b6 : dN Value.string (bE 53 aJ 9) c N y) (K : jv 38 cZ 3 i Y t) (hm : fE a0 M Z N Y H G U = some r) :
    dJ true Tryz.prog 370 [(.pointer (some ⟨J, 0, none⟩)), (.agg (aO G).toArray), (.string U)] w ((J, Obj.cells (#[g, a, j, c, i, (.int .i64 H)] : Array Value) 294 (0, 0)) :: (D ++ (u ++ (B ++ (y ++ (t ++ [])))))) (fun v L1 W' => ∃ (S1 : List (Nat × Obj)) (y3 : Value) (S4 : List (Nat × Obj)), v = (.tuple #[]) ∧ L1 = ((J, Obj.cells (#[g, a, j, c, y3, (.int .i64 (r.2.2))] : Array Value) 294 (0, 0)) :: (S1 ++ (u ++ (B ++ (y ++ (S4 ++ [])))))) ∧ dN (fun (x : Role) => (.agg (aO x).toArray)) (dK Value.string (fun (x : Bool) => (Value.bool x))) g r.1 S1 ∧ jv 38 cZ 3 y3 r.2.1 S4) := by
  have hST := ST.startE (dd := true) h0
  unfold fE at hm
  refine cF 53 Tryz.func370 rfl (aC (aA (VE (cH (v := (.agg (aO G).toArray)) hST rfl (fun W2 b1 hST => aD (aG (aC (aC ?_))))))))
  replace hST := hST.drew
  have hS0 := hST.has.sel (Kb (Kb (Kr Sn)))
  refine cU hS0 bO (X 0 rfl hS0 (aB rfl) (X 1 rfl hS0 (bP rfl) (X 2 rfl hS0 (aM nJ rfl) (XH 3 rfl hS0 (fun _ hS => aI rfl (aN hS (Mt Mh) rfl Tryz.isAgg290)) (XH 4 rfl hS0 (fun _ hS => aI rfl (aK hS Mh (aO G) rfl Tryz.isAgg28 Tryz.sizeOf28)) ?_)))))
  obtain ⟨f4, Q⟩ := a5
  refine XH 5 rfl hS0 (fun _ hS => iE (k := G) (z := (.map none)) pL Tryz.underlying290 Tryz.zeroValue296 rfl rfl Q (fun b o hq => hS.2 b o (Mt (Mt (Ml hq))))) (X 6 rfl hS0 (aB rfl) (XH 7 rfl hS0 (fun _ hS => pD (k := U) (z := false) (vf := (fun (x : Bool) => (Value.bool x))) wB Tryz.underlying296 Tryz.zeroValue4 rfl rfl (eG.mapAt (μ := hp _) bA.1 Q G (fun b o hq => hS.2 b o (Mt (Mt (Ml hq)))))) (dC (by kernel_rfl) (aG (CI hm rfl (fun d5 hm => ?_) (fun d5 hm => ?_))))))
  · refine aS (cR ?_)
    have hx := sj hm; subst hx
    exact ir rfl ⟨_, _, rfl, (hST.bkM (Db (Kb (Kr (Kr (Kr (Kr (Kr Sn)))))))), D, i, t, rfl, rfl, Q.e, K⟩
  refine aT (aG (aC (CJ hm (fun b2 E W => ∃ (a8 : List (Nat × Obj)) (c0 : List (Nat × Obj)), ST true (keys ((J, Obj.cells (#[g, a, j, c, i, (.int .i64 H)] : Array Value) 294 (0, 0)) :: (D ++ (u ++ (B ++ (y ++ (t ++ []))))))) w W μ0 ((b1, Obj.cells ((aO G).toArray : Array Value) 28 (0, 0)) :: ((J, Obj.cells (#[g, a, j, c, i, (.int .i64 H)] : Array Value) 294 (0, 0)) :: (a8 ++ (u ++ (B ++ (y ++ (t ++ c0))))))) ∧ E 0 = (.pointer (some ⟨J, 0, none⟩)) ∧ E 2 = (.string U) ∧ E 4 = (.pointer (some ⟨b1, 0, none⟩)) ∧ dN (fun (x : Role) => (.agg (aO x).toArray)) (dK Value.string (fun (x : Bool) => (Value.bool x))) g b2 a8) (fun b2 I => ?_) ?_)))
  · refine aC ?_
    replace hST := hST.drew
    have hS0 := hST.has.sel (Kb (Kb (Kr Sn)))
    refine cU hS0 bO (X 0 rfl hS0 (aB rfl) (X 1 rfl hS0 (bP rfl) (X 2 rfl hS0 (aM nJ rfl) (XH 3 rfl hS0 (fun _ hS => aI rfl (aN hS (Mt Mh) rfl Tryz.isAgg290)) (XH 4 rfl hS0 (fun _ hS => aI rfl (aK hS Mh (aO G) rfl Tryz.isAgg28 Tryz.sizeOf28)) (XH 5 rfl hS0 (fun _ hS => iE (k := G) (z := (.map none)) pL Tryz.underlying290 Tryz.zeroValue296 rfl rfl Q (fun b o hq => hS.2 b o (Mt (Mt (Ml hq))))) (X 6 rfl hS0 (zr bA.1 Tryz.underlying296 Q rfl rfl) (dC (by kernel_rfl) (aG (CI I rfl (fun b7 I => ?_) (fun b7 I => ?_)))))))))))
    · replace hST := hST.drew
      have hS0 := hST.has.sel (Kb (Kb Sn))
      refine cU hS0 bO (X 0 rfl hS0 (aB rfl) (X 1 rfl hS0 (bP rfl) (X 2 rfl hS0 (aM nJ rfl) (XH 3 rfl hS0 (fun _ hS => aI rfl (aN hS (Mt Mh) rfl Tryz.isAgg290)) (XH 4 rfl hS0 (fun _ hS => aI rfl (aK hS Mh (aO G) rfl Tryz.isAgg28 Tryz.sizeOf28)) (XE 5 rfl (xw (P := Tryz.prog) Value.string (fun (x : Bool) => (Value.bool x)) hST (fun e1 e7 d9 hST b3 => ?_))))))))
      have hS0 := hST.has.sel (Dr (Kb (Kb Sn)))
      refine ⟨hS0, ?_⟩
      replace hST := hST.perm (Nr (Qr (Qb (Qb Qz))) Nz)
      refine bS I fun e4 b9 I => XO 6 rfl (BI (k := G) (z := ([]))  pL Tryz.underlying290 hST Q rfl rfl rfl b3 b9 (fun e2 c4 hST b4 => ?_))
      have hS0 := hST.has.sel (Dr (Kb (Kb Sn)))
      refine ⟨hS0, (dC (by kernel_rfl) (aG ?_))⟩
      have hx := sj I; subst hx
      exact ⟨c4, _, (hST.sel (Sb (Pr Pz) (Sb (Pr Pz) St))), rfl, rfl, rfl, b4.e⟩
    refine aT (aG ?_)
    have hx := sj I; subst hx
    exact ⟨D, _, (hST.sel St), rfl, rfl, rfl, Q.e⟩
  rintro f2 E W ⟨a8, c0, hST, a6, c1, c2, c8⟩ T
  refine aC ?_
  replace hST := hST.drew
  have hS0 := hST.has.sel (Kb (Kb Sn))
  have hS1 := hST.has.sel (Db (Db (Kr Sn)))
  refine mL 7 hS0 hS1 bO (cE 0 rfl (by kernel_rfl) (.inl rfl) rfl (by decide) (fun _ _ h => ⟨h.1, cW (by rfl) h.2⟩) ⟨hS0, fun _ => hS1⟩ (fun _ _ _ _ => aB a6) (cE 1 rfl (by kernel_rfl) (.inl rfl) rfl (by decide) (fun _ _ h => ⟨h.1, cW (by rfl) h.2⟩) ⟨hS0, fun _ => hS1⟩ (fun _ _ _ _ => bP rfl) (cE 2 rfl (by kernel_rfl) (.inl rfl) rfl (by decide) (fun _ _ h => ⟨h.1, cW (by rfl) h.2⟩) ⟨hS0, fun _ => hS1⟩ (fun _ _ _ _ => aM nJ rfl) (cE 3 rfl (by kernel_rfl) (.inl rfl) rfl (by decide) (fun _ _ h => ⟨h.1, cW (by rfl) h.2⟩) ⟨hS0, fun _ => hS1⟩ (fun l W hpd hs => have hS := hs.1; aI rfl (aN hS (Mt Mh) rfl Tryz.isAgg290)) (cE 4 rfl (by kernel_rfl) (.inl rfl) rfl (by decide) (fun _ _ h => ⟨h.1, cW (by rfl) h.2⟩) ⟨hS0, fun _ => hS1⟩ (fun l W hpd hs => have hS := hs.1; aI c2 (aK hS Mh (aO G) rfl Tryz.isAgg28 Tryz.sizeOf28)) ?_)))))
  obtain ⟨e5, a9⟩ := c8
  refine cE 5 rfl (by kernel_rfl) (.inl rfl) rfl (by decide) (fun _ _ h => ⟨h.1, cW (by rfl) h.2⟩) ⟨hS0, fun _ => hS1⟩ (fun l W hpd hs => have hS := (hs.2 (hpd.bar 7 [5] (by kernel_rfl) rfl)); iE (k := G) (z := (.map none)) pL Tryz.underlying290 Tryz.zeroValue296 rfl rfl a9 (fun b o hq => hS.2 b o (Ml hq))) (cE 6 rfl (by kernel_rfl) (.inl rfl) rfl (by decide) (fun _ _ h => ⟨h.1, cW (by rfl) h.2⟩) ⟨hS0, fun _ => hS1⟩ (fun _ _ _ _ => aB c1) ?_)
  replace hST := hST.perm (Nr (Qb (Qb Qz)) Nz)
  refine bS T fun f3 c7 T => XO 7 rfl (Bl (k := G) (v := true) (vf := (fun (x : Bool) => (Value.bool x)))  bA.1 wB Tryz.underlying296 hST a9 rfl rfl rfl c7 (fun e8 c9 hST c5 => ?_))
  have hS0 := hST.has.sel (Dr (Kb (Kb Sn)))
  refine ⟨⟨hS0, fun h => pB (by kernel_rfl) h⟩, (dC (by kernel_rfl) (aG (aC (aA (V (aB a6) (V (bP rfl) (V (aM uB rfl) (V (aI rfl (aN hST.has (Ma (Mt Mh)) rfl Tryz.isAgg3)) (V (aP rfl rfl rfl) (V (bP rfl) (V (aM uB rfl) ?_)))))))))))⟩
  replace hST := hST.perm (Nb (Pr (Pb Pz)) Nz)
  refine VO (aX (.int .i64 ((IntKind.i64.wrap (H + 1)))) (#[g, a, j, c, i, (.int .i64 ((IntKind.i64.wrap (H + 1))))]) hST rfl rfl Tryz.sizeOf3 (vC _ ((IntKind.i64.wrap (H + 1)))) nb rfl (fun e9 hST => aD (aG ?_)))
  replace hST := hST.drew
  have hS0 := hST.has.sel (Db (Dr (Kb Sn)))
  have hS1 := hST.has.sel (Kb Sn)
  refine mL 12 hS0 hS1 bO (cE 0 rfl (by kernel_rfl) (.inl rfl) rfl (by decide) (fun _ _ h => ⟨h.1, cW (by rfl) h.2⟩) ⟨hS0, fun _ => hS1⟩ (fun _ _ _ _ => aB a6) (cE 1 rfl (by kernel_rfl) (.inl rfl) rfl (by decide) (fun _ _ h => ⟨h.1, cW (by rfl) h.2⟩) ⟨hS0, fun _ => hS1⟩ (fun _ _ _ _ => aB a6) (cE 2 rfl (by kernel_rfl) (.inl rfl) rfl (by decide) (fun _ _ h => ⟨h.1, cW (by rfl) h.2⟩) ⟨hS0, fun _ => hS1⟩ (fun _ _ _ _ => bP rfl) (cE 3 rfl (by kernel_rfl) (.inl rfl) rfl (by decide) (fun _ _ h => ⟨h.1, cW (by rfl) h.2⟩) ⟨hS0, fun _ => hS1⟩ (fun _ _ _ _ => aM qe rfl) (cE 4 rfl (by kernel_rfl) (.inl rfl) rfl (by decide) (fun _ _ h => ⟨h.1, cW (by rfl) h.2⟩) ⟨hS0, fun _ => hS1⟩ (fun l W hpd hs => have hS := (hs.2 (hpd.bar 12 [4] (by kernel_rfl) rfl)); aI rfl (aN hS Mh rfl Tryz.isAgg68)) (cE 5 rfl (by kernel_rfl) (.inl rfl) rfl (by decide) (fun _ _ h => ⟨h.1, cW (by rfl) h.2⟩) ⟨hS0, fun _ => hS1⟩ (fun l W hpd hs => have hS := hs.1; aI c2 (aK hS Mh (aO G) rfl Tryz.isAgg28 Tryz.sizeOf28)) (cE 6 rfl (by kernel_rfl) (.inl rfl) rfl (by decide) (fun _ _ h => ⟨h.1, cW (by rfl) h.2⟩) ⟨hS0, fun _ => hS1⟩ (fun _ _ _ _ => aB c1) (cE 7 rfl (by kernel_rfl) (.inl rfl) rfl (by decide) (fun _ _ h => ⟨h.1, cW (by rfl) h.2⟩) ⟨hS0, fun _ => hS1⟩ (fun _ _ _ _ => dX (qs := #[(0, (.agg (aO G).toArray)), (1, (.string U))]) (v := (.agg (cZ ((⟨G, U⟩ : aZ))).toArray)) (iK rfl rfl) (cV Tryz.zeroValue38 Tryz.underlying38 (ED _ Tryz.underlying38) (by kernel_rfl))) (XE 8 rfl (bU (qs := #[(0, (.agg (cZ ((⟨G, U⟩ : aZ))).toArray))]) (cs := (cZ ((⟨G, U⟩ : aZ))).toArray) hST (fH rfl) (eF [(.agg (cZ ((⟨G, U⟩ : aZ))).toArray)] Tryz.underlying68 Tryz.sizeOf38 Tryz.zeroValue38 (by decide) rfl (by intro v hv; simp only [List.mem_cons, List.not_mem_nil, or_false] at hv; rcases hv with rfl <;> rfl) rfl rfl) (fun f0 d4 hST => ?_)))))))))))
  have hS0 := hST.has.sel (Db (Db (Dr (Kb Sn))))
  have hS1 := hST.has.sel (Db (Kb Sn))
  refine ⟨⟨hS0, fun _ => hS1⟩, ?_⟩
  replace hST := hST.perm (Nr (Qb (Qb (Qr (Qb (Qr (Qr (Qr Qz))))))) Nz)
  refine bS T fun b0 c6 T => XE 9 rfl (zi (enc := cZ) (v := i) (vs := (.slice (some ⟨d4, 0, none⟩) 1 1)) (R := t) hST ph (by decide) zY Tryz.underlying68 wx.1 wx.2.1 rfl wx.2.2.1 wx.2.2.2 rfl rfl K (Sl.lit (enc := cZ) (l := [(⟨G, U⟩ : aZ)]) ph rfl nb rfl (hST.at_ (Ma Mh))) c6 (fun f1 e6 d0 hST a7 => ?_))
  have hS0 := hST.has.sel (Dr (Db (Db (Dr (Kb Sn)))))
  have hS1 := hST.has.sel (Dr (Db (Kb Sn)))
  refine ⟨⟨hS0, fun _ => hS1⟩, (cE 10 rfl (by kernel_rfl) (.inl rfl) rfl (by decide) (fun _ _ h => ⟨h.1, cW (by rfl) h.2⟩) ⟨hS0, fun _ => hS1⟩ (fun _ _ _ _ => bP rfl) (cE 11 rfl (by kernel_rfl) (.inl rfl) rfl (by decide) (fun _ _ h => ⟨h.1, cW (by rfl) h.2⟩) ⟨hS0, fun _ => hS1⟩ (fun _ _ _ _ => aM qe rfl) ?_))⟩
  obtain ⟨a3, a4, rfl⟩ := a7.form
  replace hST := hST.perm (Nb (Pr (Pb Pz)) Nz)
  refine XO 12 rfl (aX (.slice a3 b0.length a4) (#[g, a, j, c, (.slice a3 b0.length a4), (.int .i64 ((IntKind.i64.wrap (H + 1))))]) hST rfl rfl Tryz.sizeOf68 (by simp [Value.cells, Value.oneCell']) nb rfl (fun e0 hST => ?_))
  have hS0 := hST.has.sel (Db (Dr (Db (Dr (Kb Sn)))))
  refine ⟨⟨hS0, fun h => pB (by kernel_rfl) h⟩, (dC (by kernel_rfl) (jy ?_))⟩
  have hx := sj T; subst hx
  exact ir rfl ⟨_, _, rfl, (hST.bkM (Kb (Sr (Qr (Qb Qz)) (Sr (Qr (Qb (Qb Qz))) (Sr (Qr (Qb (Qb Qz))) (Sr (Qr (Qb (Qb Qz))) (Kr Sn))))))), c9, (.slice a3 b0.length a4), d0, rfl, rfl, c5.e, a7⟩
theorem mU (a : Value) (g : List (ByteArray × Bool)) (r : Unit) (w : World) (c : nn Value.string (fun (x : Bool) => (Value.bool x)) (hp w) a g) (hm : fI g = some r) :
    dJ true Tryz.prog 234 [a] w [] (fun v k W' => ∃ (i : Nat), v = (.func (.func 327) #[] #[(.pointer (some ⟨i, 0, none⟩))]) ∧ k = ((i, Obj.cells (#[a] : Array Value) 296 (0, 0)) :: [])) := by
  have hST := ST.start (dd := true) w
  unfold fI at hm
  refine cF 4 Tryz.func234 rfl (aC (aA ?_))
  obtain ⟨t, rfl⟩ := c.form
  refine VE (cH (v := (.map t)) hST rfl (fun u j hST => V (aF rfl) (aD (aG (aC (aA (V (ko (by exact lQ rfl) rfl) (V (aF rfl) (aD (aG (aS ?_)))))))))))
  have hx := sj hm; subst hx
  exact dI (v := (.func (.func 327) #[] #[(.pointer (some ⟨j, 0, none⟩))])) rfl rfl ⟨_, _, rfl, (hST.bkL (Kb Sn)), j, rfl, rfl⟩
theorem wT {β : Type} {vf : β → Value} {l : List (ByteArray × β)} {b : Nat} {mv : Value} {W : World} {r : List ByteArray} (hb : W.heap[b]? = some (.cells #[mv] 296 (0, 0))) (hm : nn Value.string vf (hp W) mv l) (hk : wr l = some r) : fD false Tryz.prog 159 [.func (.func 327) #[] #[.pointer (some ⟨b, 0, none⟩)]] W 9 su 1 r := zn (P := Tryz.prog) DR D3 Ez rfl Tryz.underlying9 Tryz.call327 Tryz.call273 hb hm hk
theorem oz (T : Nat) (a : Value) (u : List (Role × (List (ByteArray × Bool)))) (c : Value) (t : List Cred) (j : Value) (G : List (Role × (List Cred))) (g : Value) (B : List (ByteArray × (List Cred))) (i : Value) (D : List aZ) (Q : Int) (H : Role) (r : List ByteArray) (w : World) (J : lz (fun (x : Role) => (.agg (aO x).toArray)) (dK Value.string (fun (x : Bool) => (Value.bool x))) (hp w) a u) (Z : Sl (Pl aJ) 9 (hp w) c t) (a4 : lz (fun (x : Role) => (.agg (aO x).toArray)) (bE 53 aJ 9) (hp w) j G) (a0 : lz Value.string (bE 53 aJ 9) (hp w) g B) (a3 : Sl (Pl cZ) 3 (hp w) i D) (Y : At (hp w) (.pointer (some ⟨T, 0, none⟩)) [a, c, j, g, i, (.int .i64 Q)]) (hm : iv u t G B D Q H = some r) :
    fD false Tryz.prog 119 [(.pointer (some ⟨T, 0, none⟩)), (.agg (aO H).toArray)] w 9 su 1 r := by
  have hST := ST.start (dd := false) w
  unfold iv at hm
  refine cF 15 Tryz.func119 rfl (aC (aA (VE (cH (v := (.agg (aO H).toArray)) hST rfl (fun W2 b1 hST => V (aF rfl) (aD (aG (aC (aC (aA (V (aB rfl) (V (nH Tryz.underlying171 rfl rfl) (aD (aG (kp rfl ?_)))))))))))))))
  refine aT (aG (aC ?_))
  replace hST := hST.drew
  have hS0 := hST.has.sel (Kb Sn)
  refine cU hS0 bO (X 0 rfl hS0 (aB rfl) (X 1 rfl hS0 (bP rfl) (XQ 2 rfl hS0 (tX [a] nJ rfl Y rfl) (fun b9 a6 => XH 3 rfl hS0 (fun _ hS => aI rfl (lZ hS (y := a) a6 Tryz.isAgg290)) (XH 4 rfl hS0 (fun _ hS => aI rfl (aK hS Mh (aO H) rfl Tryz.isAgg28 Tryz.sizeOf28)) ?_)))))
  obtain ⟨a9, b4, K, M⟩ := J
  refine XH 5 rfl hS0 (fun _ hS => iE (k := H) (z := (.map none)) pL Tryz.underlying290 Tryz.zeroValue296 rfl rfl K (fun b o hq => hS.1 b o (M b o hq))) (bS hm fun c0 a7 hm => ?_)
  have hsz := hST.size
  refine XE 6 rfl (iu hST (List.Perm.refl _) Tryz.call234 (fun _ _ _ _ => dJ.weak (mU (jT bF a9 H (.map none)) (((cG bF u H).getD [])) _ _ ((eG.mapAt bA.1 K H M).mono hST.sub_hp) a7)) (fun b5 c2 c3 b3 hST I hl69 hlift a5 => ?_) (L0 := []))
  obtain ⟨b7, N, rfl⟩ := a5
  replace N := N.symm; subst N
  replace hST := hST.perm (Tb Tn)
  have hS0 := hST.has.selS I (Db (Kb Sn))
  refine ⟨hS0, (bS hm fun c1 a8 hm => XE 7 rfl (mh hST Tryz.call159 (wT (vf := (fun (x : Bool) => (Value.bool x))) (hST.has.2 _ _ Mh) ((eG.mapAt bA.1 K H M).mono (fun b o hq => hST.has.1 b o (I b o hq))) a8) (fun b6 b2 c4 b0 hST a2 hl80 U => ?_)))⟩
  have hS0 := hST.has.selS (I.trans a2) (Dr (Db (Kb Sn)))
  refine ⟨hS0, (X 8 rfl hS0 (aF rfl) (dC (by kernel_rfl) (aG ?_)))⟩
  replace hST := hST.sel (Kr (Db (Db St)))
  refine aS ?_
  have hx := sj hm; subst hx
  exact dI (v := b2) rfl rfl ⟨_, b0, rfl, hST.backRow (fun p hq => (Ml hq)) U.nd, U⟩
theorem tb (K : Nat) (g : Value) (N : List (Role × (List (ByteArray × Bool)))) (G : List (Nat × Obj)) (a : Value) (H : List Cred) (k : List (Nat × Obj)) (j : Value) (J : List (Role × (List Cred))) (u : List (Nat × Obj)) (c : Value) (I : List (ByteArray × (List Cred))) (t : List (Nat × Obj)) (z : Value) (M : List aZ) (B : List (Nat × Obj)) (Z : Int) (a1 : Role) (a2 : Role) (r : ((List (Role × (List (ByteArray × Bool)))) × (List aZ) × Int)) (w : World) {μ0 : aY} (h0 : ie μ0 ((K, Obj.cells (#[g, a, j, c, z, (.int .i64 Z)] : Array Value) 294 (0, 0)) :: (G ++ (k ++ (u ++ (t ++ (B ++ [])))))) w) (a5 : dN (fun (x : Role) => (.agg (aO x).toArray)) (dK Value.string (fun (x : Bool) => (Value.bool x))) g N G) (Q : bE 53 aJ 9 a H k) (a4 : dN (fun (x : Role) => (.agg (aO x).toArray)) (bE 53 aJ 9) j J u) (T : dN Value.string (bE 53 aJ 9) c I t) (a3 : jv 38 cZ 3 z M B) (hm : jX N H J I M Z a1 a2 = some r) :
    dJ false Tryz.prog 415 [(.pointer (some ⟨K, 0, none⟩)), (.agg (aO a1).toArray), (.agg (aO a2).toArray)] w ((K, Obj.cells (#[g, a, j, c, z, (.int .i64 Z)] : Array Value) 294 (0, 0)) :: (G ++ (k ++ (u ++ (t ++ (B ++ [])))))) (fun v L1 W' => ∃ (S1 : List (Nat × Obj)) (y3 : Value) (S4 : List (Nat × Obj)), v = (.tuple #[]) ∧ L1 = ((K, Obj.cells (#[g, a, j, c, y3, (.int .i64 (r.2.2))] : Array Value) 294 (0, 0)) :: (S1 ++ (k ++ (u ++ (t ++ (S4 ++ [])))))) ∧ dN (fun (x : Role) => (.agg (aO x).toArray)) (dK Value.string (fun (x : Bool) => (Value.bool x))) g r.1 S1 ∧ jv 38 cZ 3 y3 r.2.1 S4) := by
  have hST := ST.startE (dd := false) h0
  unfold jX at hm
  refine cF 21 Tryz.func415 rfl (aC (aA (VE (cH (v := (.agg (aO a1).toArray)) hST rfl (fun W2 b1 hST => VE (cH (v := (.agg (aO a2).toArray)) hST rfl (fun W4 b3 hST => aD (aG (aC (aA (V (aB rfl) (V (aI rfl (aK hST.has (Mt Mh) (aO a1) rfl Tryz.isAgg28 Tryz.sizeOf28)) (bS hm fun r5 e6 hm => VE (mh hST Tryz.call119 ((oz K g N a H j J c I z M Z a1 _ _ (a5.at (fun b o hq => hST.at_ (Mt (Mt (Mt (Ml hq)))))) (Q.sl bV (fun b o hq => hST.at_ (Mt (Mt (Mt (Ma (Ml hq))))))) (a4.at (fun b o hq => hST.at_ (Mt (Mt (Mt (Ma (Ma (Ml hq)))))))) (T.at (fun b o hq => hST.at_ (Mt (Mt (Mt (Ma (Ma (Ma (Ml hq))))))))) ((a3.slL ph).mono (Pl.mono _) (dZ (fun b o hq => hST.at_ (Mt (Mt (Mt (Ma (Ma (Ma (Ma (Ml hq))))))))))) (At.of (hST.at_ (Mt (Mt Mh))) _ rfl) e6)) (fun W7 e7 μ8 e2 hST f5 hl10 a9 => V (eP Tryz.underlying82 rfl a9) (V (aB rfl) ?_))))))))))))))))
  refine aD (aG ?_)
  replace hST := hST.sel (Kr (Kb (Db St)))
  refine mF (dP (fun i E W => ∃ (a6 : List (Role × (List (ByteArray × Bool)))) (U : List (Nat × Obj)) (a0 : Value) (a7 : List aZ) (Y : List (Nat × Obj)) (a8 : Int) (b5 : aY) (b7 : List (Nat × Obj)), (E 12 = .int .i64 (i : Nat) ∧ E 11 = .int .i64 (r5.length : Nat)) ∧ aW μ8 b5 ∧ ST false (keys ((K, Obj.cells (#[g, a, j, c, z, (.int .i64 Z)] : Array Value) 294 (0, 0)) :: (G ++ (k ++ (u ++ (t ++ (B ++ []))))))) w W b5 ((K, Obj.cells (#[g, a, j, c, a0, (.int .i64 a8)] : Array Value) 294 (0, 0)) :: ((b3, Obj.cells ((aO a2).toArray : Array Value) 28 (0, 0)) :: (U ++ (k ++ (u ++ (t ++ (Y ++ (e2 ++ b7)))))))) ∧ E 0 = (.pointer (some ⟨K, 0, none⟩)) ∧ E 5 = (.pointer (some ⟨b3, 0, none⟩)) ∧ E 10 = e7 ∧ dN (fun (x : Role) => (.agg (aO x).toArray)) (dK Value.string (fun (x : Bool) => (Value.bool x))) g a6 U ∧ jv 38 cZ 3 a0 a7 Y ∧ gz H J I a2 (r5.drop i) a6 a7 a8 = some r) r5.length a9.len ⟨N, G, z, M, B, Z, μ8, _, ⟨rfl, rfl⟩, (aW.refl _), (hST.sel (Sb (Pr (Pb Pz)) (Sb (Pr Pz) (Sr (Qr Qz) (Sr (Qr Qz) (Sr (Qr Qz) (Sr (Qr Qz) (Sr (Qr Qz) St)))))))), rfl, rfl, rfl, a5, a3, hm⟩ (by decide) (by decide) (by decide) (fun _ _ _ h => by obtain ⟨_, _, _, _, _, _, _, _, eIN, _⟩ := h; exact eIN) ?_ ?_)
  · rintro d8 E W c9 ⟨a6, U, a0, a7, Y, a8, b5, b7, ⟨eI, eN⟩, b6, hST, c0, c1, c2, b0, b2, D⟩
    obtain ⟨c4, f0, d2, c5, d3⟩ := dB c9
    rw [d2] at D
    rw [gz] at D
    refine aU (aC (aA (VQ (jh (i := (d8 : Int)) (x0 := c4) Tryz.underlying82 Tryz.sizeOf9 c2 eI a9 (Int.natCast_nonneg _) c5) (fun f6 d0 => V (aI rfl (yP hST.has (fun p hq => (Mt (Mt (Ma (Ma (Ma (Ma (Ma (Ml hq))))))))) a9 (fun _ => rfl) d0 c5 (y := (.string c4)) rfl Tryz.isAgg9)) (V (aF rfl) (aD (aG (aA (V (aB c0) (V (aI c1 (aK hST.has (Mt Mh) (aO a2) rfl Tryz.isAgg28 Tryz.sizeOf28)) (V (aB rfl) (bS D fun c3 d1 D => ?_))))))))))))
    have hsz := hST.size
    refine VE (iu hST (Cb Pz (Cr (Qb Qz) (Cr (Qb Qz) (Cr (Qb Qz) (Cr (Qb Qz) (Cr (Qb Qz) Cn)))))) Tryz.call370 (fun hH hN hsb hmm => dJ.weak (jE K g a6 U a H k j J u c I t a0 a7 Y a8 a2 c4 _ _ ⟨hH, hN, aW.refl _⟩ b0 Q a4 T b2 d1)) (fun f3 f7 e1 f2 hST c7 hl182 hlift c8 => ?_))
    obtain ⟨d6, e0, d7, b4, rfl, d4, d5⟩ := c8
    replace b4 := b4.symm; subst b4
    replace hST := hST.perm (Tb (Tr (Tr (Tr (Tr (Tr Tn))))))
    exact aD (cM (aG ⟨eI, c3.1, d6, e0, c3.2.1, d7, c3.2.2, e1, _, ⟨rfl, eN⟩, (b6.trans c7), (hST.sel (Kb (Sb (Pr (Pr (Pr (Pr (Pr Pz))))) St))), c0, c1, c2, d4, d5, (by rw [d3]; exact D)⟩))
  rintro E W ⟨a6, U, a0, a7, Y, a8, b5, b7, ⟨eI, eN⟩, b6, hST, c0, c1, c2, b0, b2, D⟩
  rw [List.drop_length] at D
  rw [gz] at D
  refine aG ?_
  replace hST := hST.sel (Kb (Db (Kr (Kr (Kr (Kr (Kr (Dr St))))))))
  refine jy ?_
  have hx := sj D; subst hx
  exact ir rfl ⟨_, _, rfl, (hST.bkM (Kb (Kr (Kr (Kr (Kr (Kr Sn))))))), U, a0, Y, rfl, rfl, b0, b2⟩
theorem oZ (K : Nat) (G : Value) (Z : List (Role × (List (ByteArray × Bool)))) (D : List (Nat × Obj)) (g : Value) (I : List Cred) (a : List (Nat × Obj)) (B : Value) (N : List (Role × (List Cred))) (y : List (Nat × Obj)) (i : Value) (J : List (ByteArray × (List Cred))) (c : List (Nat × Obj)) (t : Value) (M : List aZ) (j : List (Nat × Obj)) (a0 : Int) (Q : Cred) (a2 : aZ) (r : ((List (Role × (List (ByteArray × Bool)))) × (List aZ) × Int)) (w : World) {μ0 : aY} (h0 : ie μ0 ((K, Obj.cells (#[G, g, B, i, t, (.int .i64 a0)] : Array Value) 294 (0, 0)) :: (D ++ (a ++ (y ++ (c ++ (j ++ [])))))) w) (U : dN (fun (x : Role) => (.agg (aO x).toArray)) (dK Value.string (fun (x : Bool) => (Value.bool x))) G Z D) (T : bE 53 aJ 9 g I a) (a3 : dN (fun (x : Role) => (.agg (aO x).toArray)) (bE 53 aJ 9) B N y) (Y : dN Value.string (bE 53 aJ 9) i J c) (H : jv 38 cZ 3 t M j) (hm : iV Z I N J M a0 Q a2 = some r) :
    dJ false Tryz.prog 371 [(.pointer (some ⟨K, 0, none⟩)), (.agg (aJ Q).toArray), (.agg (cZ a2).toArray)] w ((K, Obj.cells (#[G, g, B, i, t, (.int .i64 a0)] : Array Value) 294 (0, 0)) :: (D ++ (a ++ (y ++ (c ++ (j ++ [])))))) (fun v L1 W' => ∃ (S1 : List (Nat × Obj)) (y3 : Value) (S4 : List (Nat × Obj)), v = (.tuple #[]) ∧ L1 = ((K, Obj.cells (#[G, g, B, i, y3, (.int .i64 (r.2.2))] : Array Value) 294 (0, 0)) :: (S1 ++ (a ++ (y ++ (c ++ (S4 ++ [])))))) ∧ dN (fun (x : Role) => (.agg (aO x).toArray)) (dK Value.string (fun (x : Bool) => (Value.bool x))) G r.1 S1 ∧ jv 38 cZ 3 y3 r.2.1 S4) := by
  have hST := ST.startE (dd := false) h0
  unfold iV at hm
  refine cF 57 Tryz.func371 rfl (aC (aA (VE (cH (v := (.agg (aJ Q).toArray)) hST rfl (fun W2 b1 hST => VE (cH (v := (.agg (cZ a2).toArray)) hST rfl (fun W4 b3 hST => aD (aG (aC (aA (V (aM oV rfl) (V (aI rfl (aN hST.has (Mt Mh) rfl Tryz.isAgg3)) (aD (aG (aU (aC ?_))))))))))))))))
  refine aA (V (aP rfl rfl rfl) (V (aF rfl) (aD (aG (CI hm rfl (fun e5 hm => ?_) (fun e5 hm => ?_))))))
  · refine aA (V (aB rfl) (V (aM lR rfl) (V (aI rfl (aK hST.has (Mt Mh) (aO Q.Head) rfl Tryz.isAgg28 Tryz.sizeOf28)) (V (aM rN rfl) (V (aI rfl (aN hST.has Mh rfl Tryz.isAgg9)) (bS hm fun r6 e6 hm => ?_))))))
    have hsz := hST.size
    refine VE (iu hST (Cb (Pb (Pb Pz)) (Cr (Qb (Qb Qz)) (Cr (Qb (Qb Qz)) (Cr (Qb (Qb Qz)) (Cr (Qb (Qb Qz)) (Cr (Qb (Qb Qz)) Cn)))))) Tryz.call370 (fun hH hN hsb hmm => dJ.weak (jE K G Z D g I a B N y i J c t M j a0 Q.Head a2.Who _ _ ⟨hH, hN, aW.refl _⟩ U T a3 Y H e6)) (fun W8 g5 μ9 f8 hST f2 hl11 hlift b6 => ?_))
    obtain ⟨d2, e7, d3, a8, rfl, c5, c6⟩ := b6
    replace a8 := a8.symm; subst a8
    replace hST := hST.perm (Tb (Tr (Tr (Tr (Tr (Tr Tn))))))
    refine aD (cM (jy ?_))
    have hx := sj hm; subst hx
    exact ir rfl ⟨_, _, rfl, (hST.bkM (Kb (Kr (Kr (Kr (Kr (Kr Sn))))))), d2, e7, d3, rfl, rfl, c5, c6⟩
  refine aC (aA (V (aP rfl rfl rfl) (V (aF rfl) (aD (aG (CI hm rfl (fun c0 hm => ?_) (fun c0 hm => ?_)))))))
  · refine aA (V (aB rfl) (V (aM rN rfl) (V (aI rfl (aN hST.has Mh rfl Tryz.isAgg9)) (V (aM pC rfl) (V (aI rfl (aN hST.has (Mt Mh) rfl Tryz.isAgg9)) (V (dX (qs := #[(0, (.string a2.Who)), (1, (.string Q.Word2))]) (v := (.agg (aO ((⟨a2.Who, Q.Word2⟩ : Role))).toArray)) (iK rfl rfl) (cV Tryz.zeroValue28 Tryz.underlying28 (AG _ Tryz.underlying28) (by kernel_rfl))) (V (aM lR rfl) (V (aI rfl (aK hST.has (Mt Mh) (aO Q.Head) rfl Tryz.isAgg28 Tryz.sizeOf28)) (bS hm fun g3 c3 hm => ?_)))))))))
    have hsz := hST.size
    refine VE (iu hST (Cb (Pb (Pb Pz)) (Cr (Qb (Qb Qz)) (Cr (Qb (Qb Qz)) (Cr (Qb (Qb Qz)) (Cr (Qb (Qb Qz)) (Cr (Qb (Qb Qz)) Cn)))))) Tryz.call415 (fun hH hN hsb hmm => (tb K G Z D g I a B N y i J c t M j a0 ((⟨a2.Who, Q.Word2⟩ : Role)) Q.Head _ _ ⟨hH, hN, aW.refl _⟩ U T a3 Y H c3)) (fun g1 g6 g9 f9 hST f3 hl27 hlift b7 => ?_))
    obtain ⟨d4, e9, d5, a9, rfl, c7, c8⟩ := b7
    replace a9 := a9.symm; subst a9
    replace hST := hST.perm (Tb (Tr (Tr (Tr (Tr (Tr Tn))))))
    refine aD (cM (jy ?_))
    have hx := sj hm; subst hx
    exact ir rfl ⟨_, _, rfl, (hST.bkM (Kb (Kr (Kr (Kr (Kr (Kr Sn))))))), d4, e9, d5, rfl, rfl, c7, c8⟩
  refine aC (aA (V (aP rfl rfl rfl) (V (aF rfl) (aD (aG (CI hm rfl (fun c1 hm => ?_) (fun c1 hm => ?_)))))))
  · refine aC ?_
    replace hST := hST.drew
    have hS0 := hST.has.sel (Kb (Kb (Kb (Kr Sn))))
    refine cU hS0 bO (X 0 rfl hS0 (aB rfl) (X 1 rfl hS0 (bP rfl) (X 2 rfl hS0 (aM nJ rfl) (XH 3 rfl hS0 (fun _ hS => aI rfl (aN hS (Mt (Mt Mh)) rfl Tryz.isAgg290)) (X 4 rfl hS0 (aM jb rfl) (XH 5 rfl hS0 (fun _ hS => aI rfl (aK hS (Mt Mh) (aO Q.B) rfl Tryz.isAgg28 Tryz.sizeOf28)) ?_))))))
    obtain ⟨f7, a5⟩ := U
    refine XH 6 rfl hS0 (fun _ hS => iE (k := Q.B) (z := (.map none)) pL Tryz.underlying290 Tryz.zeroValue296 rfl rfl a5 (fun b o hq => hS.2 b o (Mt (Mt (Mt (Ml hq)))))) (X 7 rfl hS0 (aM rN rfl) (XH 8 rfl hS0 (fun _ hS => aI rfl (aN hS Mh rfl Tryz.isAgg9)) (XH 9 rfl hS0 (fun _ hS => pD (k := a2.Who) (z := false) (vf := (fun (x : Bool) => (Value.bool x))) wB Tryz.underlying296 Tryz.zeroValue4 rfl rfl (eG.mapAt (μ := hp _) bA.1 a5 Q.B (fun b o hq => hS.2 b o (Mt (Mt (Mt (Ml hq))))))) (X 10 rfl hS0 (aB rfl) (PJ hm (fun b5 E W => ∃  (b4 : List (Nat × Obj)), ST false (keys ((K, Obj.cells (#[G, g, B, i, t, (.int .i64 a0)] : Array Value) 294 (0, 0)) :: (D ++ (a ++ (y ++ (c ++ (j ++ []))))))) w W μ0 ((b3, Obj.cells ((cZ a2).toArray : Array Value) 38 (0, 0)) :: ((b1, Obj.cells ((aJ Q).toArray : Array Value) 53 (0, 0)) :: ((K, Obj.cells (#[G, g, B, i, t, (.int .i64 a0)] : Array Value) 294 (0, 0)) :: (D ++ (a ++ (y ++ (c ++ (j ++ b4)))))))) ∧ E 0 = (.pointer (some ⟨K, 0, none⟩)) ∧ E 4 = (.pointer (some ⟨b1, 0, none⟩)) ∧ E 5 = (.pointer (some ⟨b3, 0, none⟩)) ∧ E 50 = (.bool b5)) (bm 22 4194303) 0 ?_ (fun b5 a7 b2 => ?_))))))
    · rintro g8 E W ⟨b4, hST, e1, e2, e3, e4⟩ a4
      have hS0 := hST.has.sel (Kb (Kb (Kb (Kr Sn))))
      refine dC (by kernel_rfl) (aG (CI a4 e4 (fun c2 a4 => ?_) (fun c2 a4 => ?_)))
      · refine aA (V (aB e1) (V (aM lR e2) (V (aI rfl (aK hST.has (Mt Mh) (aO Q.Head) rfl Tryz.isAgg28 Tryz.sizeOf28)) (V (aM rN e3) (V (aI rfl (aN hST.has Mh rfl Tryz.isAgg9)) (bS a4 fun g4 c4 a4 => ?_))))))
        have hsz := hST.size
        refine VE (iu hST (Cb (Pb (Pb Pz)) (Cr (Qb (Qb Qz)) (Cr (Qb (Qb Qz)) (Cr (Qb (Qb Qz)) (Cr (Qb (Qb Qz)) (Cr (Qb (Qb Qz)) Cn)))))) Tryz.call370 (fun hH hN hsb hmm => dJ.weak (jE K G Z D g I a B N y i J c t M j a0 Q.Head a2.Who _ _ ⟨hH, hN, aW.refl _⟩ a5.e T a3 Y H c4)) (fun g2 g7 h1 g0 hST f4 hl82 hlift b9 => ?_))
        obtain ⟨d7, f0, d8, b0, rfl, c9, d0⟩ := b9
        replace b0 := b0.symm; subst b0
        replace hST := hST.perm (Tb (Tr (Tr (Tr (Tr (Tr Tn))))))
        refine aD (cM (jy ?_))
        have hx := sj a4; subst hx
        exact ir rfl ⟨_, _, rfl, (hST.bkM (Kb (Kr (Kr (Kr (Kr (Kr Sn))))))), d7, f0, d8, rfl, rfl, c9, d0⟩
      refine aT (cM (jy ?_))
      have hx := sj a4; subst hx
      exact ir rfl ⟨_, _, rfl, (hST.bkM (Db (Db (Kb (Kr (Kr (Kr (Kr (Kr Sn))))))))), D, t, j, rfl, rfl, a5.e, H⟩
    refine bC a7 (fun u a7 => ?_) (fun u a7 => ?_)
    · refine Xg 11 rfl rfl (cB u) hS0 (aB rfl) (Xg 12 rfl rfl (cB u) hS0 (bP rfl) (Xg 13 rfl rfl (cB u) hS0 (aM nJ rfl) (ql 14 rfl rfl (cB u) hS0 (fun _ hS => aI rfl (aN hS (Mt (Mt Mh)) rfl Tryz.isAgg290)) (Xg 15 rfl rfl (cB u) hS0 (aM oP rfl) (ql 16 rfl rfl (cB u) hS0 (fun _ hS => aI rfl (aK hS (Mt Mh) (aO Q.C) rfl Tryz.isAgg28 Tryz.sizeOf28)) (ql 17 rfl rfl (cB u) hS0 (fun _ hS => iE (k := Q.C) (z := (.map none)) pL Tryz.underlying290 Tryz.zeroValue296 rfl rfl a5 (fun b o hq => hS.2 b o (Mt (Mt (Mt (Ml hq)))))) (Xg 18 rfl rfl (cB u) hS0 (aM rN rfl) (ql 19 rfl rfl (cB u) hS0 (fun _ hS => aI rfl (aN hS Mh rfl Tryz.isAgg9)) (ql 20 rfl rfl (cB u) hS0 (fun _ hS => pD (k := a2.Who) (z := false) (vf := (fun (x : Bool) => (Value.bool x))) wB Tryz.underlying296 Tryz.zeroValue4 rfl rfl (eG.mapAt (μ := hp _) bA.1 a5 Q.C (fun b o hq => hS.2 b o (Mt (Mt (Mt (Ml hq))))))) (X 21 rfl hS0 (cD (cB u) rfl) ?_))))))))))
      have hx := sj a7; subst hx
      refine kL (by kernel_rfl) (b2 _ _ ⟨_, (hST.sel St), rfl, rfl, rfl, rfl⟩)
    refine Xn 11 rfl rfl (cB u) hS0 (Xn 12 rfl rfl (cB u) hS0 (Xn 13 rfl rfl (cB u) hS0 (Xn 14 rfl rfl (cB u) hS0 (Xn 15 rfl rfl (cB u) hS0 (Xn 16 rfl rfl (cB u) hS0 (Xn 17 rfl rfl (cB u) hS0 (Xn 18 rfl rfl (cB u) hS0 (Xn 19 rfl rfl (cB u) hS0 (Xn 20 rfl rfl (cB u) hS0 (X 21 rfl hS0 (cI (cB u) rfl) ?_))))))))))
    have hx := sj a7; subst hx
    refine kL (by kernel_rfl) (b2 _ _ ⟨_, (hST.sel St), rfl, rfl, rfl, rfl⟩)
  refine aT (cM (jy ?_))
  have hx := sj hm; subst hx
  exact ir rfl ⟨_, _, rfl, (hST.bkM (Db (Db (Kb (Kr (Kr (Kr (Kr (Kr Sn))))))))), D, t, j, rfl, rfl, U, H⟩
theorem rB (K : Nat) (g : Value) (T : List (Role × (List (ByteArray × Bool)))) (D : List (Nat × Obj)) (a : Value) (G : List Cred) (j : List (Nat × Obj)) (t : Value) (J : List (Role × (List Cred))) (u : List (Nat × Obj)) (c : Value) (H : List (ByteArray × (List Cred))) (k : List (Nat × Obj)) (z : Value) (M : List aZ) (B : List (Nat × Obj)) (a0 : Int) (Z : Cred) (r : ((List (Role × (List (ByteArray × Bool)))) × (List aZ) × Int)) (w : World) {μ0 : aY} (h0 : ie μ0 ((K, Obj.cells (#[g, a, t, c, z, (.int .i64 a0)] : Array Value) 294 (0, 0)) :: (D ++ (j ++ (u ++ (k ++ (B ++ [])))))) w) (a2 : dN (fun (x : Role) => (.agg (aO x).toArray)) (dK Value.string (fun (x : Bool) => (Value.bool x))) g T D) (N : bE 53 aJ 9 a G j) (Y : dN (fun (x : Role) => (.agg (aO x).toArray)) (bE 53 aJ 9) t J u) (Q : dN Value.string (bE 53 aJ 9) c H k) (U : jv 38 cZ 3 z M B) (hm : jt T G J H M a0 Z = some r) :
    dJ false Tryz.prog 325 [(.pointer (some ⟨K, 0, none⟩)), (.agg (aJ Z).toArray)] w ((K, Obj.cells (#[g, a, t, c, z, (.int .i64 a0)] : Array Value) 294 (0, 0)) :: (D ++ (j ++ (u ++ (k ++ (B ++ [])))))) (fun v L1 W' => ∃ (S1 : List (Nat × Obj)) (y3 : Value) (S4 : List (Nat × Obj)), v = (.tuple #[]) ∧ L1 = ((K, Obj.cells (#[g, a, t, c, y3, (.int .i64 (r.2.2))] : Array Value) 294 (0, 0)) :: (S1 ++ (j ++ (u ++ (k ++ (S4 ++ [])))))) ∧ dN (fun (x : Role) => (.agg (aO x).toArray)) (dK Value.string (fun (x : Bool) => (Value.bool x))) g r.1 S1 ∧ jv 38 cZ 3 y3 r.2.1 S4) := by
  have hST := ST.startE (dd := false) h0
  unfold jt at hm
  refine cF 33 Tryz.func325 rfl (aC (aA (VE (cH (v := (.agg (aJ Z).toArray)) hST rfl (fun W2 b1 hST => aD (aG (aC (aA (V (aM oV rfl) (V (aI rfl (aN hST.has Mh rfl Tryz.isAgg3)) (aD (aG (aU (aC (aA ?_)))))))))))))))
  refine V (aP rfl rfl rfl) (V (aF rfl) (aD (aG (CI hm rfl (fun f1 hm => ?_) (fun f1 hm => ?_)))))
  · refine aA (V (aB rfl) (V (aM lR rfl) (V (aI rfl (aK hST.has Mh (aO Z.Head) rfl Tryz.isAgg28 Tryz.sizeOf28)) (V (aM rM rfl) (V (aI rfl (aN hST.has Mh rfl Tryz.isAgg9)) (bS hm fun r4 f2 hm => ?_))))))
    have hsz := hST.size
    refine VE (iu hST (Cb (Pb Pz) (Cr (Qb Qz) (Cr (Qb Qz) (Cr (Qb Qz) (Cr (Qb Qz) (Cr (Qb Qz) Cn)))))) Tryz.call370 (fun hH hN hsb hmm => dJ.weak (jE K g T D a G j t J u c H k z M B a0 Z.Head Z.Who _ _ ⟨hH, hN, aW.refl _⟩ a2 N Y Q U f2)) (fun W6 g8 μ7 g6 hST g2 hl9 hlift d8 => ?_))
    obtain ⟨e7, f4, e8, c2, rfl, e0, e1⟩ := d8
    replace c2 := c2.symm; subst c2
    replace hST := hST.perm (Tb (Tr (Tr (Tr (Tr (Tr Tn))))))
    refine aD (cM (jy ?_))
    have hx := sj hm; subst hx
    exact ir rfl ⟨_, _, rfl, (hST.bkM (Kb (Kr (Kr (Kr (Kr (Kr Sn))))))), e7, f4, e8, rfl, rfl, e0, e1⟩
  refine aC (aA (V (aB rfl) (V (aM jb rfl) (V (aI rfl (aK hST.has Mh (aO Z.B) rfl Tryz.isAgg28 Tryz.sizeOf28)) (bS hm fun c6 d9 hm => VE (mh hST Tryz.call119 ((oz K g T a G t J c H z M a0 Z.B _ _ (a2.at (fun b o hq => hST.at_ (Mt (Mt (Ml hq))))) (N.sl bV (fun b o hq => hST.at_ (Mt (Mt (Ma (Ml hq)))))) (Y.at (fun b o hq => hST.at_ (Mt (Mt (Ma (Ma (Ml hq))))))) (Q.at (fun b o hq => hST.at_ (Mt (Mt (Ma (Ma (Ma (Ml hq)))))))) ((U.slL ph).mono (Pl.mono _) (dZ (fun b o hq => hST.at_ (Mt (Mt (Ma (Ma (Ma (Ma (Ml hq)))))))))) (At.of (hST.at_ (Mt Mh)) _ rfl) d9)) (fun g7 f3 d5 e5 hST f6 hl24 b2 => V (eP Tryz.underlying82 rfl b2) (V (aB rfl) (aD (aG (mF (dP (fun i E W => ∃ (a6 : List (Role × (List (ByteArray × Bool)))) (a3 : List (Nat × Obj)) (a5 : Value) (a7 : List aZ) (a4 : List (Nat × Obj)) (a9 : Int) (b6 : aY) (b9 : List (Nat × Obj)), (E 13 = .int .i64 (i : Nat) ∧ E 12 = .int .i64 (c6.length : Nat)) ∧ aW d5 b6 ∧ ST false (keys ((K, Obj.cells (#[g, a, t, c, z, (.int .i64 a0)] : Array Value) 294 (0, 0)) :: (D ++ (j ++ (u ++ (k ++ (B ++ []))))))) w W b6 ((K, Obj.cells (#[g, a, t, c, a5, (.int .i64 a9)] : Array Value) 294 (0, 0)) :: ((b1, Obj.cells ((aJ Z).toArray : Array Value) 53 (0, 0)) :: (a3 ++ (j ++ (u ++ (k ++ (a4 ++ (e5 ++ b9)))))))) ∧ E 0 = (.pointer (some ⟨K, 0, none⟩)) ∧ E 3 = (.pointer (some ⟨b1, 0, none⟩)) ∧ E 11 = f3 ∧ dN (fun (x : Role) => (.agg (aO x).toArray)) (dK Value.string (fun (x : Bool) => (Value.bool x))) g a6 a3 ∧ jv 38 cZ 3 a5 a7 a4 ∧ fP G J H Z (c6.drop i) a6 a7 a9 = some r) c6.length b2.len ⟨T, D, z, M, B, a0, d5, _, ⟨rfl, rfl⟩, (aW.refl _), (hST.sel (Sb (Pr (Pb Pz)) (Sb (Pr Pz) (Sr (Qr Qz) (Sr (Qr Qz) (Sr (Qr Qz) (Sr (Qr Qz) (Sr (Qr Qz) St)))))))), rfl, rfl, rfl, a2, U, hm⟩ (by decide) (by decide) (by decide) (fun _ _ _ h => by obtain ⟨_, _, _, _, _, _, _, _, eIN, _⟩ := h; exact eIN) ?_ ?_))))))))))))
  · rintro e2 E W c8 ⟨a6, a3, a5, a7, a4, a9, b6, b9, ⟨eI, eN⟩, b7, hST, c0, b0, c1, b3, b4, I⟩
    obtain ⟨a8, f7, d1, c4, d2⟩ := dB c8
    rw [d1] at I
    rw [fP] at I
    refine aU (aC (aA (VQ (jh (i := (e2 : Int)) (x0 := a8) Tryz.underlying82 Tryz.sizeOf9 c1 eI b2 (Int.natCast_nonneg _) c4) (fun g3 c9 => V (aI rfl (yP hST.has (fun p hq => (Mt (Mt (Ma (Ma (Ma (Ma (Ma (Ml hq))))))))) b2 (fun _ => rfl) c9 c4 (y := (.string a8)) rfl Tryz.isAgg9)) (V (aF rfl) (aD (aG (aA (V (aB c0) (V (aI b0 (aK hST.has (Mt Mh) (aJ Z) rfl Tryz.isAgg53 Tryz.sizeOf53)) (V (aM jb b0) (V (aI rfl (aK hST.has (Mt Mh) (aO Z.B) rfl Tryz.isAgg28 Tryz.sizeOf28)) (V (aB rfl) (V (dX (qs := #[(0, (.agg (aO Z.B).toArray)), (1, (.string a8))]) (v := (.agg (cZ ((⟨Z.B, a8⟩ : aZ))).toArray)) (iK rfl rfl) (cV Tryz.zeroValue38 Tryz.underlying38 (ED _ Tryz.underlying38) (by kernel_rfl))) ?_))))))))))))))
    refine bS I fun c3 d0 I => ?_
    have hsz := hST.size
    refine VE (iu hST (Cb Pz (Cr (Qb Qz) (Cr (Qb Qz) (Cr (Qb Qz) (Cr (Qb Qz) (Cr (Qb Qz) Cn)))))) Tryz.call371 (fun hH hN hsb hmm => (oZ K g a6 a3 a G j t J u c H k a5 a7 a4 a9 Z ((⟨Z.B, a8⟩ : aZ)) _ _ ⟨hH, hN, aW.refl _⟩ b3 N Y Q b4 d0)) (fun g0 g4 e4 f9 hST c5 hl196 hlift c7 => ?_))
    obtain ⟨d6, e3, d7, b5, rfl, d3, d4⟩ := c7
    replace b5 := b5.symm; subst b5
    replace hST := hST.perm (Tb (Tr (Tr (Tr (Tr (Tr Tn))))))
    exact aD (cM (aG ⟨eI, c3.1, d6, e3, c3.2.1, d7, c3.2.2, e4, _, ⟨rfl, eN⟩, (b7.trans c5), (hST.sel (Kb (Sb (Pr (Pr (Pr (Pr (Pr Pz))))) St))), c0, b0, c1, d3, d4, (by rw [d2]; exact I)⟩))
  rintro E W ⟨a6, a3, a5, a7, a4, a9, b6, b9, ⟨eI, eN⟩, b7, hST, c0, b0, c1, b3, b4, I⟩
  rw [List.drop_length] at I
  rw [fP] at I
  refine aG ?_
  replace hST := hST.sel (Kb (Db (Kr (Kr (Kr (Kr (Kr (Dr St))))))))
  refine cM (jy ?_)
  have hx := sj I; subst hx
  exact ir rfl ⟨_, _, rfl, (hST.bkM (Kb (Kr (Kr (Kr (Kr (Kr Sn))))))), a3, a5, a4, rfl, rfl, b3, b4⟩
theorem qY (I : Nat) (a : Value) (e8 : List (Role × (List (ByteArray × Bool)))) (K : List (Nat × Obj)) (c : Value) (Q : List Cred) (j : List (Nat × Obj)) (u : Value) (N : List (Role × (List Cred))) (y : List (Nat × Obj)) (g : Value) (H : List (ByteArray × (List Cred))) (t : List (Nat × Obj)) (G : Value) (d4 : List aZ) (D : List (Nat × Obj)) (a0 : Int) (r : ((List (Role × (List (ByteArray × Bool)))) × (List aZ) × Int)) (w : World) {μ0 : aY} (h0 : ie μ0 ((I, Obj.cells (#[a, c, u, g, G, (.int .i64 a0)] : Array Value) 294 (0, 0)) :: (K ++ (j ++ (y ++ (t ++ (D ++ [])))))) w) (h2 : dN (fun (x : Role) => (.agg (aO x).toArray)) (dK Value.string (fun (x : Bool) => (Value.bool x))) a e8 K) (c1 : bE 53 aJ 9 c Q j) (g5 : dN (fun (x : Role) => (.agg (aO x).toArray)) (bE 53 aJ 9) u N y) (c2 : dN Value.string (bE 53 aJ 9) g H t) (g4 : jv 38 cZ 3 G d4 D) (hm : km e8 Q N H d4 a0 = some r) :
    dJ false Tryz.prog 326 [(.pointer (some ⟨I, 0, none⟩))] w ((I, Obj.cells (#[a, c, u, g, G, (.int .i64 a0)] : Array Value) 294 (0, 0)) :: (K ++ (j ++ (y ++ (t ++ (D ++ [])))))) (fun v L1 W' => ∃ (S1 : List (Nat × Obj)) (y3 : Value) (S4 : List (Nat × Obj)), v = (.tuple #[]) ∧ L1 = ((I, Obj.cells (#[a, c, u, g, y3, (.int .i64 (r.2.2))] : Array Value) 294 (0, 0)) :: (S1 ++ (j ++ (y ++ (t ++ (S4 ++ [])))))) ∧ dN (fun (x : Role) => (.agg (aO x).toArray)) (dK Value.string (fun (x : Bool) => (Value.bool x))) a r.1 S1 ∧ jv 38 cZ 3 y3 r.2.1 S4) := by
  have hST := ST.startE (dd := false) h0
  unfold km at hm
  refine cF 75 Tryz.func326 rfl (mF (aU (gH (fun m E W => ∃ (e3 : List (Role × (List (ByteArray × Bool)))) (b7 : List (Nat × Obj)) (e4 : Value) (a1 : List aZ) (b9 : List (Nat × Obj)) (d1 : Int) (b4 : aY) (h3 : List (Nat × Obj)), aW μ0 b4 ∧ ST false (keys ((I, Obj.cells (#[a, c, u, g, G, (.int .i64 a0)] : Array Value) 294 (0, 0)) :: (K ++ (j ++ (y ++ (t ++ (D ++ []))))))) w W b4 ((I, Obj.cells (#[a, c, u, g, e4, (.int .i64 d1)] : Array Value) 294 (0, 0)) :: (b7 ++ (j ++ (y ++ (t ++ (b9 ++ h3)))))) ∧ E 0 = (.pointer (some ⟨I, 0, none⟩)) ∧ dN (fun (x : Role) => (.agg (aO x).toArray)) (dK Value.string (fun (x : Bool) => (Value.bool x))) a e3 b7 ∧ jv 38 cZ 3 e4 a1 b9 ∧ eO Q N H m e3 a1 d1 = some r) bR ⟨e8, K, G, d4, D, a0, μ0, _, (aW.refl _), (hST.sel St), rfl, h2, g4, hm⟩ ?_)))
  rintro m E W ⟨e3, b7, e4, a1, b9, d1, b4, h3, h8, hST, a6, g7, c5, M⟩
  cases m with
  | zero => rw [eO] at M; cases M
  | succ m8 =>
    rw [eO] at M
    refine aC (aC (aA (V (aB a6) (V (bP rfl) (V (aM qe rfl) (V (aI rfl (aN hST.has Mh rfl Tryz.isAgg68)) (V (CE Tryz.underlying68 rfl c5) (V (aP rfl rfl rfl) (aD (aG (CI M rfl (fun i5 M => ?_) (fun i5 M => ?_))))))))))))
    · refine aT (aG (aU (aC (aA (V (aB a6) (V (bP rfl) (V (aM qe rfl) (V (aI rfl (aN hST.has Mh rfl Tryz.isAgg68)) (bS M fun B g9 M => VQ (lm (enc := cZ) (i := 0) (x0 := B) Tryz.underlying68 Tryz.sizeOf38 rfl rfl (c5.slL ph) (bM g9) (bJ g9)) (fun p8 j5 => V (aI rfl (bN (gD.hp _) (j5.mono (dZ (fun b o hq => hST.has.2 b o (Mt (Ma (Ma (Ma (Ma (Ml hq))))))))) Tryz.isAgg38 Tryz.sizeOf38)) (VE (cA hST Tryz.zeroValue38 (fun o7 a5 hST => VO (aX (.agg (cZ B).toArray) ((cZ B).toArray) hST rfl rfl Tryz.sizeOf38 (zY B) nb rfl (fun o8 hST => aD ?_)))))))))))))))
      refine aG (aC (aA (V (aB a6) (V (aB a6) (V (bP rfl) (V (aM qe rfl) (V (aI rfl (aN hST.has (Mt Mh) rfl Tryz.isAgg68)) (bS M fun _ g6 M => VQ (AF (i := 1) Tryz.underlying68 Tryz.sizeOf38 rfl rfl ph c5 (nE g6) (nR g6)) (fun q1 g8 => V (bP rfl) (V (aM qe rfl) ?_))))))))))
      obtain ⟨f7, g0, rfl⟩ := g8.form
      replace hST := hST.perm (Nb (Pb Pz) Nz)
      refine VO (aX (.slice f7 ((a1.drop (Int.toNat 1))).length g0) (#[a, c, u, g, (.slice f7 ((a1.drop (Int.toNat 1))).length g0), (.int .i64 d1)]) hST rfl rfl Tryz.sizeOf68 (by simp [Value.cells, Value.oneCell']) nb rfl (fun o9 hST => aD (aG (aC (aC ?_)))))
      replace hST := hST.drew
      have hS0 := hST.has.sel (Kb (Kb (Dr (Dr (Kr Sn)))))
      refine cU hS0 bO (X 0 rfl hS0 (aB a6) (X 1 rfl hS0 (bP rfl) (X 2 rfl hS0 (aM Af rfl) (XH 3 rfl hS0 (fun _ hS => aI rfl (aN hS Mh rfl Tryz.isAgg291)) (X 4 rfl hS0 (aM yF rfl) (XH 5 rfl hS0 (fun _ hS => aI rfl (aK hS (Mt Mh) (aO B.Role) rfl Tryz.isAgg28 Tryz.sizeOf28)) ?_))))))
      obtain ⟨l5, c3⟩ := g5
      obtain ⟨o5, f0, k0⟩ := eG.rowAt bA.1 c3 B.Role
      refine XH 6 rfl hS0 (fun _ hS => iE (k := B.Role) (z := (.slice none 0 0)) pL Tryz.underlying291 Tryz.zeroValue22 rfl rfl c3 (fun b o hq => hS.2 b o (Mt (Mt (Ml hq))))) (X 7 rfl hS0 (eH Tryz.underlying22 rfl (f0.slL bV)) (X 8 rfl hS0 (aB rfl) (dC (by kernel_rfl) (aG (CJ M (fun d0 E W => ∃ (d6 : List (Nat × Obj)) (e5 : Value) (d7 : List (Nat × Obj)) (b5 : aY) (h4 : List (Nat × Obj)), aW b4 b5 ∧ ST false (keys ((I, Obj.cells (#[a, c, u, g, G, (.int .i64 a0)] : Array Value) 294 (0, 0)) :: (K ++ (j ++ (y ++ (t ++ (D ++ []))))))) w W b5 ((I, Obj.cells (#[a, c, u, g, e5, (.int .i64 d0.2.2)] : Array Value) 294 (0, 0)) :: ((a5, Obj.cells ((cZ B).toArray : Array Value) 38 (0, 0)) :: (d6 ++ (j ++ (y ++ (t ++ (d7 ++ h4))))))) ∧ E 0 = (.pointer (some ⟨I, 0, none⟩)) ∧ E 2 = (.pointer (some ⟨a5, 0, none⟩)) ∧ dN (fun (x : Role) => (.agg (aO x).toArray)) (dK Value.string (fun (x : Bool) => (Value.bool x))) a d0.1 d6 ∧ jv 38 cZ 3 e5 d0.2.1 d7) (fun d0 j4 => ?_) ?_)))))
      · refine dP (fun i E W => ∃ (c7 : List (Role × (List (ByteArray × Bool)))) (a3 : List (Nat × Obj)) (b1 : Value) (c8 : List aZ) (a4 : List (Nat × Obj)) (d2 : Int) (d3 : aY) (f9 : List (Nat × Obj)), (E 35 = .int .i64 (i : Nat) ∧ E 34 = .int .i64 ((((cG bF N B.Role).getD [])).length : Nat)) ∧ aW b4 d3 ∧ ST false (keys ((I, Obj.cells (#[a, c, u, g, G, (.int .i64 a0)] : Array Value) 294 (0, 0)) :: (K ++ (j ++ (y ++ (t ++ (D ++ []))))))) w W d3 ((I, Obj.cells (#[a, c, u, g, b1, (.int .i64 d2)] : Array Value) 294 (0, 0)) :: ((a5, Obj.cells ((cZ B).toArray : Array Value) 38 (0, 0)) :: (a3 ++ (j ++ (y ++ (t ++ (a4 ++ f9))))))) ∧ E 0 = (.pointer (some ⟨I, 0, none⟩)) ∧ E 2 = (.pointer (some ⟨a5, 0, none⟩)) ∧ E 33 = (jT bF l5 B.Role (.slice none 0 0)) ∧ dN (fun (x : Role) => (.agg (aO x).toArray)) (dK Value.string (fun (x : Bool) => (Value.bool x))) a c7 a3 ∧ jv 38 cZ 3 b1 c8 a4 ∧ fF Q N H B ((((cG bF N B.Role).getD [])).drop i) c7 c8 d2 = some d0) (((cG bF N B.Role).getD [])).length (f0.slL bV).len ⟨e3, b7, (.slice f7 ((a1.drop (Int.toNat 1))).length g0), ((a1.drop (Int.toNat 1))), b9, d1, b4, _, ⟨rfl, rfl⟩, (aW.refl _), (hST.sel St), a6, rfl, rfl, g7, g8, j4⟩ (by decide) (by decide) (by decide) (fun _ _ _ h => by obtain ⟨_, _, _, _, _, _, _, _, eIN, _⟩ := h; exact eIN) ?_ ?_
        · rintro m3 E W i8 ⟨c7, a3, b1, c8, a4, d2, d3, f9, ⟨eI, eN⟩, d5, hST, e1, e2, g1, f3, f4, T⟩
          obtain ⟨b3, o1, k9, k8, l0⟩ := dB i8
          rw [k9] at T
          rw [fF] at T
          refine aU (aC (aA (VQ (lm (enc := aJ) (i := (m3 : Int)) (x0 := b3) Tryz.underlying22 Tryz.sizeOf53 g1 eI (f0.slL bV) (Int.natCast_nonneg _) k8) (fun q0 j7 => V (aI rfl (bN (gD.hp _) (j7.mono (dZ (fun b o hq => hST.has.2 b o (Mt (Mt (Ma (Ma (Ml (k0 b o hq))))))))) Tryz.isAgg53 Tryz.sizeOf53)) (VE (cA hST Tryz.zeroValue53 (fun p3 p7 hST => VO (aX (.agg (aJ b3).toArray) ((aJ b3).toArray) hST rfl rfl Tryz.sizeOf53 (gC b3) nb rfl (fun p4 hST => aD (aG (aA (V (aB e1) (V (aI rfl (aK hST.has Mh (aJ b3) rfl Tryz.isAgg53 Tryz.sizeOf53)) (V (aI e2 (aK hST.has (Mt (Mt Mh)) (cZ B) rfl Tryz.isAgg38 Tryz.sizeOf38)) (bS T fun g3 j9 T => ?_)))))))))))))))
          have hsz := hST.size
          refine VE (iu hST (Cb (Pb Pz) (Cr (Qb (Qb Qz)) (Cr (Qb (Qb Qz)) (Cr (Qb (Qb Qz)) (Cr (Qb (Qb Qz)) (Cr (Qb (Qb Qz)) Cn)))))) Tryz.call371 (fun hH hN hsb hmm => (oZ I a c7 a3 c Q j u N y g H t b1 c8 a4 d2 b3 B _ _ ⟨hH, hN, aW.refl _⟩ f3 c1 c3.e c2 f4 j9)) (fun p5 q3 n4 o4 hST i2 hl3113 hlift i4 => ?_))
          obtain ⟨l9, n2, m0, f6, rfl, l3, l4⟩ := i4
          replace f6 := f6.symm; subst f6
          replace hST := hST.perm (Tb (Tr (Tr (Tr (Tr (Tr Tn))))))
          refine aD (cM (aG ?_))
          replace hST := hST.sel (Kb (Kr (Kr (Kr (Kr (Kr (Db St)))))))
          exact ⟨eI, g3.1, l9, n2, g3.2.1, m0, g3.2.2, n4, _, ⟨rfl, eN⟩, (d5.trans i2), (hST.sel (Kb (Sb (Pr (Pr (Pr (Pr (Pr Pz))))) St))), e1, e2, g1, l3, l4, (by rw [l0]; exact T)⟩
        rintro E W ⟨c7, a3, b1, c8, a4, d2, d3, f9, ⟨eI, eN⟩, d5, hST, e1, e2, g1, f3, f4, T⟩
        rw [List.drop_length] at T
        rw [fF] at T
        refine aG ?_
        have hx := sj T; subst hx
        exact ⟨a3, b1, a4, d3, _, d5, (hST.sel St), e1, e2, f3, f4⟩
      rintro ⟨m4, m5, m9⟩ E W ⟨d6, e5, d7, b5, h4, h9, hST, h6, h7, k1, k2⟩ i9
      refine aC ?_
      replace hST := hST.drew
      have hS0 := hST.has.sel (Kb (Kb (Dr (Dr (Dr (Kr Sn))))))
      refine cU hS0 bO (X 0 rfl hS0 (aB h6) (X 1 rfl hS0 (bP rfl) (X 2 rfl hS0 (aM wG rfl) (XH 3 rfl hS0 (fun _ hS => aI rfl (aN hS Mh rfl Tryz.isAgg292)) (X 4 rfl hS0 (aM yF h7) (X 5 rfl hS0 (aM oa rfl) (XH 6 rfl hS0 (fun _ hS => aI rfl (aN hS (Mt Mh) rfl Tryz.isAgg9)) ?_)))))))
      obtain ⟨l6, e9⟩ := c2
      obtain ⟨o6, f1, k3⟩ := eG.rowAt fT.1 e9 B.Role.Word
      refine XH 7 rfl hS0 (fun _ hS => iE (k := B.Role.Word) (z := (.slice none 0 0)) wB Tryz.underlying292 Tryz.zeroValue22 rfl rfl e9 (fun b o hq => hS.2 b o (Mt (Mt (Ml hq))))) (X 8 rfl hS0 (eH Tryz.underlying22 rfl (f1.slL bV)) (X 9 rfl hS0 (aB rfl) (dC (by kernel_rfl) (aG (mF (CJ i9 (fun c9 E W => ∃ (d8 : List (Nat × Obj)) (e6 : Value) (d9 : List (Nat × Obj)) (e7 : aY) (h5 : List (Nat × Obj)), aW b5 e7 ∧ ST false (keys ((I, Obj.cells (#[a, c, u, g, G, (.int .i64 a0)] : Array Value) 294 (0, 0)) :: (K ++ (j ++ (y ++ (t ++ (D ++ []))))))) w W e7 ((I, Obj.cells (#[a, c, u, g, e6, (.int .i64 c9.2.2)] : Array Value) 294 (0, 0)) :: (d8 ++ (j ++ (y ++ (t ++ (d9 ++ h5)))))) ∧ E 0 = (.pointer (some ⟨I, 0, none⟩)) ∧ dN (fun (x : Role) => (.agg (aO x).toArray)) (dK Value.string (fun (x : Bool) => (Value.bool x))) a c9.1 d8 ∧ jv 38 cZ 3 e6 c9.2.1 d9) (fun c9 j3 => ?_) ?_))))))
      · refine dP (fun i E W => ∃ (a9 : List (Role × (List (ByteArray × Bool)))) (Y : List (Nat × Obj)) (a2 : Value) (b0 : List aZ) (Z : List (Nat × Obj)) (b2 : Int) (b6 : aY) (f8 : List (Nat × Obj)), (E 53 = .int .i64 (i : Nat) ∧ E 52 = .int .i64 ((((cG eT H B.Role.Word).getD [])).length : Nat)) ∧ aW b5 b6 ∧ ST false (keys ((I, Obj.cells (#[a, c, u, g, G, (.int .i64 a0)] : Array Value) 294 (0, 0)) :: (K ++ (j ++ (y ++ (t ++ (D ++ []))))))) w W b6 ((I, Obj.cells (#[a, c, u, g, a2, (.int .i64 b2)] : Array Value) 294 (0, 0)) :: ((a5, Obj.cells ((cZ B).toArray : Array Value) 38 (0, 0)) :: (Y ++ (j ++ (y ++ (t ++ (Z ++ f8))))))) ∧ E 0 = (.pointer (some ⟨I, 0, none⟩)) ∧ E 2 = (.pointer (some ⟨a5, 0, none⟩)) ∧ E 51 = (jT eT l6 B.Role.Word (.slice none 0 0)) ∧ dN (fun (x : Role) => (.agg (aO x).toArray)) (dK Value.string (fun (x : Bool) => (Value.bool x))) a a9 Y ∧ jv 38 cZ 3 a2 b0 Z ∧ eL B Q N H ((((cG eT H B.Role.Word).getD [])).drop i) a9 b0 b2 = some c9) (((cG eT H B.Role.Word).getD [])).length (f1.slL bV).len ⟨m4, d6, e5, m5, d7, m9, b5, _, ⟨rfl, rfl⟩, (aW.refl _), (hST.sel St), h6, h7, rfl, k1, k2, j3⟩ (by decide) (by decide) (by decide) (fun _ _ _ h => by obtain ⟨_, _, _, _, _, _, _, _, eIN, _⟩ := h; exact eIN) ?_ ?_
        · rintro m2 E W i7 ⟨a9, Y, a2, b0, Z, b2, b6, f8, ⟨eI, eN⟩, a8, hST, a7, c0, e0, f2, c6, J⟩
          obtain ⟨U, o0, k7, k6, h1⟩ := dB i7
          rw [k7] at J
          rw [eL] at J
          refine aU (aC (aA (VQ (lm (enc := aJ) (i := (m2 : Int)) (x0 := U) Tryz.underlying22 Tryz.sizeOf53 e0 eI (f1.slL bV) (Int.natCast_nonneg _) k6) (fun p9 j6 => V (aI rfl (bN (gD.hp _) (j6.mono (dZ (fun b o hq => hST.has.2 b o (Mt (Mt (Ma (Ma (Ma (Ml (k3 b o hq)))))))))) Tryz.isAgg53 Tryz.sizeOf53)) (VE (cA hST Tryz.zeroValue53 (fun p0 p6 hST => VO (aX (.agg (aJ U).toArray) ((aJ U).toArray) hST rfl rfl Tryz.sizeOf53 (gC U) nb rfl (fun p1 hST => aD (aG (aC ?_)))))))))))
          replace hST := hST.drew
          have hS0 := hST.has.sel (Kb (Kb (Kb (Kr Sn))))
          refine cU hS0 bO (X 0 rfl hS0 (aB a7) (X 1 rfl hS0 (bP rfl) (X 2 rfl hS0 (aM nJ rfl) (XH 3 rfl hS0 (fun _ hS => aI rfl (aN hS (Mt Mh) rfl Tryz.isAgg290)) (X 4 rfl hS0 (aM jb rfl) (XH 5 rfl hS0 (fun _ hS => aI rfl (aK hS Mh (aO U.B) rfl Tryz.isAgg28 Tryz.sizeOf28)) ?_))))))
          obtain ⟨n8, c4⟩ := f2
          refine XH 6 rfl hS0 (fun _ hS => iE (k := U.B) (z := (.map none)) pL Tryz.underlying290 Tryz.zeroValue296 rfl rfl c4 (fun b o hq => hS.2 b o (Mt (Mt (Mt (Ml hq)))))) (X 7 rfl hS0 (aM yF c0) (X 8 rfl hS0 (aM ne rfl) (XH 9 rfl hS0 (fun _ hS => aI rfl (aN hS (Mt (Mt Mh)) rfl Tryz.isAgg9)) (XH 10 rfl hS0 (fun _ hS => pD (k := B.Role.Owner) (z := false) (vf := (fun (x : Bool) => (Value.bool x))) wB Tryz.underlying296 Tryz.zeroValue4 rfl rfl (eG.mapAt (μ := hp _) bA.1 c4 U.B (fun b o hq => hS.2 b o (Mt (Mt (Mt (Ml hq))))))) (dC (by kernel_rfl) (aG (CI J rfl (fun i6 J => ?_) (fun i6 J => ?_))))))))
          · refine aA (V (aB a7) (V (aM lR rfl) (V (aI rfl (aK hST.has Mh (aO U.Head) rfl Tryz.isAgg28 Tryz.sizeOf28)) (V (aM rN c0) (V (aI rfl (aN hST.has (Mt (Mt Mh)) rfl Tryz.isAgg9)) (bS J fun g2 j8 J => ?_))))))
            have hsz := hST.size
            refine VE (iu hST (Cb (Pb Pz) (Cr (Qb (Qb Qz)) (Cr (Qb (Qb Qz)) (Cr (Qb (Qb Qz)) (Cr (Qb (Qb Qz)) (Cr (Qb (Qb Qz)) Cn)))))) Tryz.call370 (fun hH hN hsb hmm => dJ.weak (jE I a a9 Y c Q j u N y g H t a2 b0 Z b2 U.Head B.Who _ _ ⟨hH, hN, aW.refl _⟩ c4.e c1 c3.e e9.e c6 j8)) (fun p2 q2 n3 o3 hST i1 hl3012 hlift i3 => ?_))
            obtain ⟨l7, n1, l8, f5, rfl, l1, l2⟩ := i3
            replace f5 := f5.symm; subst f5
            replace hST := hST.perm (Tb (Tr (Tr (Tr (Tr (Tr Tn))))))
            refine aD (cM (aG ?_))
            replace hST := hST.sel (Kb (Kr (Kr (Kr (Kr (Kr (Db St)))))))
            exact ⟨eI, g2.1, l7, n1, g2.2.1, l8, g2.2.2, n3, _, ⟨rfl, eN⟩, (a8.trans i1), (hST.sel (Kb (Sb (Pr (Pr (Pr (Pr (Pr Pz))))) St))), a7, c0, e0, l1, l2, (by rw [h1]; exact J)⟩
          refine aT (cM (aG ?_))
          replace hST := hST.sel (Db St)
          exact ⟨eI, a9, Y, a2, b0, Z, b2, b6, _, ⟨rfl, eN⟩, a8, (hST.sel St), a7, c0, e0, c4.e, c6, (by rw [h1]; exact J)⟩
        rintro E W ⟨a9, Y, a2, b0, Z, b2, b6, f8, ⟨eI, eN⟩, a8, hST, a7, c0, e0, f2, c6, J⟩
        rw [List.drop_length] at J
        rw [eL] at J
        refine aG ?_
        have hx := sj J; subst hx
        exact ⟨Y, a2, Z, b6, _, a8, (hST.sel (Kb (Db St))), a7, f2, c6⟩
      rintro ⟨m6, m7, n0⟩ E W ⟨d8, e6, d9, e7, h5, i0, hST, m1, k4, k5⟩ j0
      exact cM (aG ⟨m8, Nat.lt_succ_self _, m6, d8, e6, m7, d9, n0, e7, _, ((h8.trans h9).trans i0), (hST.sel St), m1, k4, k5, j0⟩)
    refine gI (gc (gc (li (aG (jy ?_)))))
    have hx := sj M; subst hx
    exact ir rfl ⟨_, _, rfl, (hST.bkM (Kb (Kr (Kr (Kr (Kr (Kr Sn))))))), b7, e4, b9, rfl, rfl, g7, c5⟩
theorem tf (H : Nat) (g : Value) (c2 : List (Role × (List (ByteArray × Bool)))) (G : List (Nat × Obj)) (u : Value) (a7 : List Cred) (k : List (Nat × Obj)) (c : Value) (b7 : List (Role × (List Cred))) (z : List (Nat × Obj)) (a : Value) (a8 : List (ByteArray × (List Cred))) (t : List (Nat × Obj)) (B : Value) (b6 : List aZ) (y : List (Nat × Obj)) (K : Int) (d1 : Value) (a1 : List Cred) (r : (Int × (List (Role × (List (ByteArray × Bool)))) × (List Cred) × (List (Role × (List Cred))) × (List (ByteArray × (List Cred))) × (List aZ) × Int)) (w : World) {μ0 : aY} (h0 : ie μ0 ((H, Obj.cells (#[g, u, c, a, B, (.int .i64 K)] : Array Value) 294 (0, 0)) :: (G ++ (k ++ (z ++ (t ++ (y ++ [])))))) w) (d6 : dN (fun (x : Role) => (.agg (aO x).toArray)) (dK Value.string (fun (x : Bool) => (Value.bool x))) g c2 G) (c6 : bE 53 aJ 9 u a7 k) (d3 : dN (fun (x : Role) => (.agg (aO x).toArray)) (bE 53 aJ 9) c b7 z) (c7 : dN Value.string (bE 53 aJ 9) a a8 t) (d2 : jv 38 cZ 3 B b6 y) (d7 : Sl (Pl aJ) 9 μ0 d1 a1) (hm : jW c2 a7 b7 a8 b6 K a1 = some r) :
    dJ false Tryz.prog 233 [(.pointer (some ⟨H, 0, none⟩)), d1] w ((H, Obj.cells (#[g, u, c, a, B, (.int .i64 K)] : Array Value) 294 (0, 0)) :: (G ++ (k ++ (z ++ (t ++ (y ++ [])))))) (fun v L1 W' => ∃ (S1 : List (Nat × Obj)) (y3 : Value) (S4 : List (Nat × Obj)) (S6 : List (Nat × Obj)) (S8 : List (Nat × Obj)) (h9 : Value) (h8 : List (Nat × Obj)), v = (.int .i64 (r.1)) ∧ L1 = ((H, Obj.cells (#[g, y3, c, a, h9, (.int .i64 (r.2.2.2.2.2.2))] : Array Value) 294 (0, 0)) :: (S1 ++ (S4 ++ (S6 ++ (S8 ++ (h8 ++ [])))))) ∧ dN (fun (x : Role) => (.agg (aO x).toArray)) (dK Value.string (fun (x : Bool) => (Value.bool x))) g r.2.1 S1 ∧ bE 53 aJ 9 y3 r.2.2.1 S4 ∧ dN (fun (x : Role) => (.agg (aO x).toArray)) (bE 53 aJ 9) c r.2.2.2.1 S6 ∧ dN Value.string (bE 53 aJ 9) a r.2.2.2.2.1 S8 ∧ jv 38 cZ 3 h9 r.2.2.2.2.2.1 h8) := by
  have hST := ST.startE (dd := false) h0
  unfold jW at hm
  refine cF 46 Tryz.func233 rfl (aC (aA (V (aF rfl) (aD (aG (aC (aC (aA (V (aB rfl) (V (nH Tryz.underlying171 rfl rfl) (aD (aG (kp rfl (aT ?_))))))))))))))
  refine aG (aC (aA (V (aB rfl) (V (bP rfl) (V (aM uB rfl) (V (aI rfl (aN hST.has Mh rfl Tryz.isAgg3)) (V (aF rfl) (aD (aG (aC (aC (aA (V (aB rfl) (V (eH Tryz.underlying22 rfl d7) ?_))))))))))))))
  refine V (aB rfl) (aD (aG (dP (fun i E W => ∃ (a3 : List (Role × (List (ByteArray × Bool)))) (N : List (Nat × Obj)) (M : Value) (a4 : List Cred) (Q : List (Nat × Obj)) (a9 : List (Role × (List Cred))) (T : List (Nat × Obj)) (b0 : List (ByteArray × (List Cred))) (U : List (Nat × Obj)) (a0 : Value) (a5 : List aZ) (Y : List (Nat × Obj)) (a2 : Int) (c1 : aY) (d5 : List (Nat × Obj)), (E 16 = .int .i64 (i : Nat) ∧ E 15 = .int .i64 (a1.length : Nat)) ∧ aW μ0 c1 ∧ ST false (keys ((H, Obj.cells (#[g, u, c, a, B, (.int .i64 K)] : Array Value) 294 (0, 0)) :: (G ++ (k ++ (z ++ (t ++ (y ++ []))))))) w W c1 ((H, Obj.cells (#[g, M, c, a, a0, (.int .i64 a2)] : Array Value) 294 (0, 0)) :: (N ++ (Q ++ (T ++ (U ++ (Y ++ d5)))))) ∧ E 0 = (.pointer (some ⟨H, 0, none⟩)) ∧ E 5 = (.int .i64 K) ∧ E 14 = d1 ∧ dN (fun (x : Role) => (.agg (aO x).toArray)) (dK Value.string (fun (x : Bool) => (Value.bool x))) g a3 N ∧ bE 53 aJ 9 M a4 Q ∧ dN (fun (x : Role) => (.agg (aO x).toArray)) (bE 53 aJ 9) c a9 T ∧ dN Value.string (bE 53 aJ 9) a b0 U ∧ jv 38 cZ 3 a0 a5 Y ∧ eU K (a1.drop i) a3 a4 a9 b0 a5 a2 = some r) a1.length d7.len ⟨c2, G, u, a7, k, b7, z, a8, t, B, b6, y, K, μ0, _, ⟨rfl, rfl⟩, (aW.refl _), (hST.sel St), rfl, rfl, rfl, d6, c6, d3, c7, d2, hm⟩ (by decide) (by decide) (by decide) (fun _ _ _ h => by obtain ⟨_, _, _, _, _, _, _, _, _, _, _, _, _, _, _, eIN, _⟩ := h; exact eIN) ?_ ?_)))
  · rintro f6 E W g3 ⟨a3, N, M, a4, Q, a9, T, b0, U, a0, a5, Y, a2, c1, d5, ⟨eI, eN⟩, b1, hST, b9, c3, c4, b2, a6, b3, b4, b5, D⟩
    obtain ⟨I, j6, h2, h1, d9⟩ := dB g3
    rw [h2] at D
    rw [eU] at D
    refine aU (aC (aA (VQ (lm (enc := aJ) (i := (f6 : Int)) (x0 := I) Tryz.underlying22 Tryz.sizeOf53 c4 eI (d7.mono (Pl.mono _) b1) (Int.natCast_nonneg _) h1) (fun k9 g4 => V (aI rfl (bN hST.has g4 Tryz.isAgg53 Tryz.sizeOf53)) (VE (cA hST Tryz.zeroValue53 (fun k1 e8 hST => VO (aX (.agg (aJ I).toArray) ((aJ I).toArray) hST rfl rfl Tryz.sizeOf53 (gC I) nb rfl (fun k2 hST => aD (aG (aC ?_)))))))))))
    replace hST := hST.drew
    have hS0 := hST.has.sel (Kb (Kb Sn))
    refine cU hS0 bO (XH 0 rfl hS0 (fun _ hS => aI rfl (aK hS Mh (aJ I) rfl Tryz.isAgg53 Tryz.sizeOf53)) (bS D fun l0 g5 D => XE 1 rfl (Eg hST Tryz.call137 (bW.weak (oJ I _ _  g5)) (fun k3 hST => ?_))))
    have hS0 := hST.has.sel (Kb (Kb Sn))
    refine ⟨hS0, (X 2 rfl hS0 (aB rfl) (PJ D (fun f7 E W => ∃  (e4 : List (Nat × Obj)), ST false (keys ((H, Obj.cells (#[g, u, c, a, B, (.int .i64 K)] : Array Value) 294 (0, 0)) :: (G ++ (k ++ (z ++ (t ++ (y ++ []))))))) w W c1 ((e8, Obj.cells ((aJ I).toArray : Array Value) 53 (0, 0)) :: ((H, Obj.cells (#[g, M, c, a, a0, (.int .i64 a2)] : Array Value) 294 (0, 0)) :: (N ++ (Q ++ (T ++ (U ++ (Y ++ e4))))))) ∧ E 0 = (.pointer (some ⟨H, 0, none⟩)) ∧ E 5 = (.int .i64 K) ∧ E 7 = (.pointer (some ⟨e8, 0, none⟩)) ∧ E 14 = d1 ∧ E 15 = (.int .i64 ((a1.length : Int))) ∧ E 16 = (.int .i64 ((f6 : Int))) ∧ E 30 = (.bool f7)) (bm 11 2047) 0 ?_ (fun f7 Z d4 => ?_)))⟩
    · rintro l5 E W ⟨e4, hST, c5, e9, f0, f1, f2, f3, i4⟩ J
      have hS0 := hST.has.sel (Kb (Kb Sn))
      refine dC (by kernel_rfl) (aG (CI J i4 (fun g2 J => ?_) (fun g2 J => ?_)))
      · refine aC (aA (V (aB c5) (V (aI f0 (aK hST.has Mh (aJ I) rfl Tryz.isAgg53 Tryz.sizeOf53)) (bS J fun c0 g6 J => ?_))))
        have hsz := hST.size
        refine VE (iu hST (Cb (Pb Pz) (Cr (Qb Qz) (Cr (Qb Qz) (Cr (Qb Qz) (Cr (Qb Qz) (Cr (Qb Qz) Cn)))))) Tryz.call324 (fun hH hN hsb hmm => dJ.weak (rU H g a3 N M a4 Q c a9 T a b0 U a0 a5 Y a2 I _ _ ⟨hH, hN, aW.refl _⟩ b2 a6 b3 b4 b5 g6)) (fun k4 l2 l6 j8 hST f4 hl743 hlift f9 => ?_))
        obtain ⟨f8, e5, e6, e7, c8, rfl, e0, e1, e2⟩ := f9
        replace c8 := c8.symm; subst c8
        replace hST := hST.perm (Tb (Tr (Tr (Tr (Tr (Tr Tn))))))
        refine aD (aG (aA (V (aB c5) (V (aI f0 (aK hST.has (Mt (Ma (Ma (Ma (Ma (Ma Mh)))))) (aJ I) rfl Tryz.isAgg53 Tryz.sizeOf53)) (bS J fun d8 g7 J => ?_)))))
        have hsz := hST.size
        refine VE (iu hST (Cb Pz (Cr Qz (Cr Qz (Cr Qz (Cr Qz (Cr Qz Cn)))))) Tryz.call325 (fun hH hN hsb hmm => (rB H g a3 N f8 c0.1 e5 c c0.2.1 e6 a c0.2.2 e7 a0 a5 Y a2 I _ _ ⟨hH, hN, aW.refl _⟩ b2 e0 e1 e2 b5 g7)) (fun k5 l3 i8 j9 hST f5 hl760 hlift g0 => ?_))
        obtain ⟨i0, i6, i1, c9, rfl, h3, h4⟩ := g0
        replace c9 := c9.symm; subst c9
        replace hST := hST.perm (Tb (Tr (Tr (Tr (Tr (Tr Tn))))))
        refine aD (cM (aG ?_))
        replace hST := hST.sel (Kb (Kr (Kr (Kr (Kr (Kr (Db St)))))))
        exact ⟨f3, d8.1, i0, f8, c0.1, e5, c0.2.1, e6, c0.2.2, e7, i6, d8.2.1, i1, d8.2.2, i8, _, ⟨rfl, f2⟩, ((b1.trans f4).trans f5), (hST.sel St), c5, e9, f1, h3, e0, e1, e2, h4, (by rw [d9]; exact J)⟩
      refine aT (cM (aG ?_))
      replace hST := hST.sel (Db St)
      exact ⟨f3, a3, N, M, a4, Q, a9, T, b0, U, a0, a5, Y, a2, c1, _, ⟨rfl, f2⟩, b1, (hST.sel St), c5, e9, f1, b2, a6, b3, b4, b5, (by rw [d9]; exact J)⟩
    refine bC Z (fun j Z => ?_) (fun j Z => ?_)
    · refine Xg 3 rfl rfl (cB j) hS0 (aB b9) (Xg 4 rfl rfl (cB j) hS0 (bP rfl) (Xg 5 rfl rfl (cB j) hS0 (aM xe rfl) (ql 6 rfl rfl (cB j) hS0 (fun _ hS => aI rfl (aN hS (Mt Mh) rfl Tryz.isAgg22)) (ql 7 rfl rfl (cB j) hS0 (fun _ hS => aI rfl (aK hS Mh (aJ I) rfl Tryz.isAgg53 Tryz.sizeOf53)) (bS Z fun l1 g8 Z => Do 8 rfl rfl (cB j) (Eg hST Tryz.call201 (bW.weak (qb M a4 I _ _ (a6.sl bV (fun b o hq => hST.at_ (Mt (Mt (Ma (Ml hq)))))) g8)) (fun k6 hST => ?_)))))))
      have hS0 := hST.has.sel (Kb (Kb Sn))
      refine ⟨hS0, (Xg 9 rfl rfl (cB j) hS0 (iS rfl) (X 10 rfl hS0 (cD (cB j) rfl) ?_))⟩
      have hx := sj Z; subst hx
      refine kL (by kernel_rfl) (d4 _ _ ⟨_, (hST.sel St), b9, c3, rfl, c4, eN, eI, rfl⟩)
    refine Xn 3 rfl rfl (cB j) hS0 (Xn 4 rfl rfl (cB j) hS0 (Xn 5 rfl rfl (cB j) hS0 (Xn 6 rfl rfl (cB j) hS0 (Xn 7 rfl rfl (cB j) hS0 (Xn 8 rfl rfl (cB j) hS0 (Xn 9 rfl rfl (cB j) hS0 (X 10 rfl hS0 (cI (cB j) rfl) ?_)))))))
    have hx := sj Z; subst hx
    refine kL (by kernel_rfl) (d4 _ _ ⟨_, (hST.sel St), b9, c3, rfl, c4, eN, eI, rfl⟩)
  rintro E W ⟨a3, N, M, a4, Q, a9, T, b0, U, a0, a5, Y, a2, c1, d5, ⟨eI, eN⟩, b1, hST, b9, c3, c4, b2, a6, b3, b4, b5, D⟩
  rw [List.drop_length] at D
  rw [eU] at D
  refine aG (aC (aA (V (aB b9) (bS D fun i5 g9 D => ?_))))
  have hsz := hST.size
  refine VE (iu hST (Cb Pz (Cr Qz (Cr Qz (Cr Qz (Cr Qz (Cr Qz Cn)))))) Tryz.call326 (fun hH hN hsb hmm => (qY H g a3 N M a4 Q c a9 T a b0 U a0 a5 Y a2 _ _ ⟨hH, hN, aW.refl _⟩ b2 a6 b3 b4 b5 g9)) (fun k7 l4 l7 k0 hST j4 hl782 hlift g1 => ?_))
  obtain ⟨i2, i7, i3, d0, rfl, h5, h6⟩ := g1
  replace d0 := d0.symm; subst d0
  replace hST := hST.perm (Tb (Tr (Tr (Tr (Tr (Tr Tn))))))
  refine aD (aG (aC (aA (V (aB b9) (V (bP rfl) (V (aM uB rfl) (V (aI rfl (aN hST.has Mh rfl Tryz.isAgg3)) (V (aB c3) (V (aP rfl rfl rfl) (V (aF rfl) (aD (aG (aS ?_)))))))))))))
  have hx := sj D; subst hx
  exact dI (v := (.int .i64 ((IntKind.i64.wrap (i5.2.2 - K))))) rfl rfl ⟨_, _, rfl, (hST.bkM (Kb (Kr (Kr (Kr (Kr (Kr Sn))))))), i2, M, Q, T, U, i7, i3, rfl, rfl, h5, a6, b3, b4, h6⟩
theorem Be (j : Value) (H : List Cred) (r : ((List (Role × (List (ByteArray × Bool)))) × (List Cred) × (List (Role × (List Cred))) × (List (ByteArray × (List Cred))) × (List aZ) × Int)) (w : World) (J : Sl (Pl aJ) 9 (hp w) j H) (hm : oN H = some r) :
    dJ false Tryz.prog 117 [j] w [] (fun v L1 W' => ∃ (b1 : Nat) (y2 : Value) (S3 : List (Nat × Obj)) (y5 : Value) (S6 : List (Nat × Obj)) (y8 : Value) (S9 : List (Nat × Obj)) (D : Value) (u : List (Nat × Obj)) (G : Value) (y : List (Nat × Obj)), v = (.pointer (some ⟨b1, 0, none⟩)) ∧ L1 = ((b1, Obj.cells (#[y2, y5, y8, D, G, (.int .i64 (r.2.2.2.2.2))] : Array Value) 294 (0, 0)) :: (S3 ++ (S6 ++ (S9 ++ (u ++ (y ++ [])))))) ∧ dN (fun (x : Role) => (.agg (aO x).toArray)) (dK Value.string (fun (x : Bool) => (Value.bool x))) y2 r.1 S3 ∧ bE 53 aJ 9 y5 r.2.1 S6 ∧ dN (fun (x : Role) => (.agg (aO x).toArray)) (bE 53 aJ 9) y8 r.2.2.1 S9 ∧ dN Value.string (bE 53 aJ 9) D r.2.2.2.1 u ∧ jv 38 cZ 3 G r.2.2.2.2.1 y) := by
  have hST := ST.start (dd := false) w
  unfold oN at hm
  refine cF 13 Tryz.func117 rfl (aC (aA (V (aF rfl) (aD (aG (aC (aA (VE (rZ (P := Tryz.prog) (fun (x : Role) => (.agg (aO x).toArray)) (dK Value.string (fun (x : Bool) => (Value.bool x))) hST (fun W1 v4 R2 hST z => VE (rZ (P := Tryz.prog) (fun (x : Role) => (.agg (aO x).toArray)) (bE 53 aJ 9) hST (fun W5 v8 R6 hST B => VE (rZ (P := Tryz.prog) Value.string (bE 53 aJ 9) hST (fun W9 c4 Y hST t => ?_))))))))))))))
  obtain ⟨a, rfl⟩ := z.form
  obtain ⟨c, rfl⟩ := B.form
  obtain ⟨g, rfl⟩ := t.form
  refine V (dX (qs := #[(0, (.map (some a))), (2, (.map (some c))), (3, (.map (some g)))]) (v := (.agg #[(.map (some a)), (.slice none 0 0), (.map (some c)), (.map (some g)), (.slice none 0 0), (.int .i64 0)])) (vP rfl rfl rfl) (cV Tryz.zeroValue294 Tryz.underlying294 (E1 _ Tryz.underlying294) (by kernel_rfl))) (VE (cH (v := (.agg #[(.map (some a)), (.slice none 0 0), (.map (some c)), (.map (some g)), (.slice none 0 0), (.int .i64 0)])) hST rfl (fun c1 k hST => V (aF rfl) (aD (aG (aC (aA (V (aB rfl) (V (aB rfl) (bS hm fun c3 K hm => ?_))))))))))
  have hsz := hST.size
  refine VE (iu hST (Cb Pz (Cr (Qr (Qr Qz)) (C0 (Cr (Qr Qz) (Cr Qz (C0 Cn)))))) Tryz.call233 (fun hH hN hsb hmm => (tf k (.map (some a)) ([]) R2 (.slice none 0 0) ([]) [] (.map (some c)) ([]) R6 (.map (some g)) ([]) Y (.slice none 0 0) ([]) [] 0 j H _ _ ⟨hH, hN, aW.refl _⟩ z (bE.nil _ _ _) B t (jv.nil _ _ _) (J.mono (Pl.mono _) hsb) K)) (fun c2 c5 c6 c0 hST b5 hl23 hlift I => ?_))
  obtain ⟨Z, b0, a2, a3, a4, b2, a5, i, rfl, M, N, Q, T, U⟩ := I
  replace i := i.symm; subst i
  replace hST := hST.perm (Tb (Tr (Tr (Tr (Tr (Tr Tn))))))
  refine aD (aG (aC (aA (V (aB rfl) (V (aF rfl) (aD (aG (aS ?_))))))))
  have hx := sj hm; subst hx
  exact dI (v := (.pointer (some ⟨k, 0, none⟩))) rfl rfl ⟨_, _, rfl, (hST.bkL (Kb (Kr (Kr (Kr (Kr (Kr Sn))))))), k, (.map (some a)), Z, b0, a2, (.map (some c)), a3, (.map (some g)), a4, b2, a5, rfl, rfl, M, N, Q, T, U⟩
theorem yg (c : Value) (D : List Cred) (G : ByteArray) (r : ((List (Role × (List (ByteArray × Bool)))) × (List Cred) × (List (Role × (List Cred))) × (List (ByteArray × (List Cred))) × (List aZ) × Int × ByteArray)) (w : World) (I : Sl (Pl aJ) 9 (hp w) c D) (hm : nz D G = some r) :
    dJ false Tryz.prog 182 [c, (.string G)] w [] (fun v L1 W' => ∃ (g : Nat) (b2 : Nat) (y3 : Value) (S4 : List (Nat × Obj)) (y6 : Value) (S7 : List (Nat × Obj)) (y9 : Value) (j : List (Nat × Obj)) (z : Value) (k : List (Nat × Obj)) (B : Value) (t : List (Nat × Obj)) (u : Nat), v = (.func (.func 287) #[] #[(.pointer (some ⟨g, 0, none⟩)), (.pointer (some ⟨u, 0, none⟩))]) ∧ L1 = ((g, Obj.cells (#[(.pointer (some ⟨b2, 0, none⟩))] : Array Value) 171 (0, 0)) :: ((b2, Obj.cells (#[y3, y6, y9, z, B, (.int .i64 (r.2.2.2.2.2.1))] : Array Value) 294 (0, 0)) :: ((u, Obj.cells (#[(.string (r.2.2.2.2.2.2))] : Array Value) 9 (0, 0)) :: (S4 ++ (S7 ++ (j ++ (k ++ (t ++ [])))))))) ∧ dN (fun (x : Role) => (.agg (aO x).toArray)) (dK Value.string (fun (x : Bool) => (Value.bool x))) y3 r.1 S4 ∧ bE 53 aJ 9 y6 r.2.1 S7 ∧ dN (fun (x : Role) => (.agg (aO x).toArray)) (bE 53 aJ 9) y9 r.2.2.1 j ∧ dN Value.string (bE 53 aJ 9) z r.2.2.2.1 k ∧ jv 38 cZ 3 B r.2.2.2.2.1 t) := by
  have hST := ST.start (dd := false) w
  unfold nz at hm
  refine cF 9 Tryz.func182 rfl (aC (aA (VE (cH (v := (.string G)) hST rfl (fun W2 g hST => V (aF rfl) (aD (aG (aC (aA (V (aB rfl) (bS hm fun r3 a6 hm => ?_)))))))))))
  have hsz := hST.size
  refine VE (iu hST (List.Perm.refl _) Tryz.call117 (fun _ _ _ _ => (Be c D _ _ (I.mono (Pl.mono _) hST.sub_hp) a6)) (fun W5 v9 μ6 c0 hST b9 hl8 hlift H => ?_) (L0 := []))
  obtain ⟨i, a7, T, a8, U, a9, Y, b0, Z, b3, a2, a, rfl, J, K, M, N, Q⟩ := H
  replace a := a.symm; subst a
  replace hST := hST.perm (Tb (Tr (Tr (Tr (Tr (Tr Tn))))))
  refine VE (cA hST Tryz.zeroValue171 (fun c1 y hST => VO (aX (.pointer (some ⟨i, 0, none⟩)) (#[(.pointer (some ⟨i, 0, none⟩))]) hST rfl rfl Tryz.sizeOf171 (by simp [Value.cells, Value.oneCell']) nb rfl (fun c2 hST => aD (aG (aC (aA (V (ko (by exact no rfl rfl) rfl) (V (aF rfl) (aD (aG (aS ?_))))))))))))
  have hx := sj hm; subst hx
  exact dI (v := (.func (.func 287) #[] #[(.pointer (some ⟨y, 0, none⟩)), (.pointer (some ⟨g, 0, none⟩))])) rfl rfl ⟨_, _, rfl, (hST.bkL (Kb (Kb (Sb (Pr (Pr (Pr (Pr (Pr Pz))))) (Kr (Kr (Kr (Kr (Kr Sn))))))))), y, i, a7, T, a8, U, a9, Y, b0, Z, b3, a2, g, rfl, rfl, J, K, M, N, Q⟩
theorem kI (g : Value) (t : List aV) (j : Value) (z : aV → Option Bool) (r : Int) (w : World) (c : Sl bB 15 (hp w) g t) (B : nY Tryz.prog j (hp w) (qr bB) (fun (r : Bool) => (.bool r)) z) (hm : eC t z = some r) :
    bW false Tryz.prog 184 [g, j] w (.int .i64 r) := by
  have hST := ST.start (dd := false) w
  unfold eC at hm
  refine cF 19 Tryz.func184 rfl (aC (aA (V (aF rfl) (aD (aG (aC (aC (aA (V (aB rfl) (V (eH Tryz.underlying107 rfl c) (V (aB rfl) (aD (aG (dP (fun i E W => ∃  (k : List (Nat × Obj)), (E 8 = .int .i64 (i : Nat) ∧ E 7 = .int .i64 (t.length : Nat)) ∧ ST false dW w W (hp w) k ∧ E 0 = g ∧ E 1 = j ∧ eA z (t.drop i) i = some r) t.length c.len ⟨_, ⟨rfl, rfl⟩, (hST.sel St), rfl, rfl, hm⟩ (by decide) (by decide) (by decide) (fun _ _ _ h => by obtain ⟨_, eIN, _⟩ := h; exact eIN) ?_ ?_))))))))))))))
  · rintro T E W G ⟨k, ⟨eI, eN⟩, hST, u, x, a⟩
    obtain ⟨y, Z, N, M, Q⟩ := dB G
    rw [N] at a
    rw [eA] at a
    refine aU (aC (aA (V (aB eI) (V (aF rfl) (aD (aG (aC (aA (V (aB x) (V (aB u) (V (aB rfl) (VQ (fN (i := (T : Int)) (x0 := y) bB.out Tryz.underlying107 Tryz.sizeOf138 rfl rfl c (Int.natCast_nonneg _) M) (fun a2 ⟨_, ⟨U, Y, rfl, J, K⟩, H⟩ => V (aI rfl (bN hST.has H Tryz.isAgg138 Tryz.sizeOf138)) (bS a fun a3 I a => ?_))))))))))))))
    refine VE (oT y hST B (aW.refl _) (qr.mk bD (bB.mk ⟨U, Y, rfl, J, K⟩) hST.sub_hp) rfl (lQ rfl) I (fun a1 hST => aD (aG (CI a rfl (fun D a => ?_) (fun D a => ?_)))))
    · refine aC (aA (V (aB rfl) (V (aF rfl) (aD (aG (aS (gA (cR (gA (cR ?_))))))))))
      have hx := sj a; subst hx
      exact rP hST
    exact aT (cM (aG ⟨eI, _, ⟨rfl, eN⟩, (hST.sel St), u, x, (by rw [Q]; exact a)⟩))
  rintro E W ⟨k, ⟨eI, eN⟩, hST, u, x, a⟩
  rw [List.drop_length] at a
  rw [eA] at a
  refine aG (aC (aA (V (aF rfl) (aD (aG (aS ?_))))))
  have hx := sj a; subst hx
  exact rP hST
theorem wi (a : aV) (g : Value) (c : Value) (k : Nat) (u : Cred) (r : Bool) (w : World) (j : Sl (Pl (cT .u8)) 1 (hp w) g a.Signed.Tag) (i : Sl aH 5 (hp w) c a.Release.Kids) (t : At (hp w) (.pointer (some ⟨k, 0, none⟩)) (aJ u)) (hm : lU a u = some r) :
    bW true Tryz.prog 305 [(.agg #[(.int .i64 a.Signed.Cred.Kind), (.string a.Signed.Cred.Head.Owner), (.string a.Signed.Cred.Head.Word), (.string a.Signed.Cred.Who), (.string a.Signed.Cred.B.Owner), (.string a.Signed.Cred.B.Word), (.string a.Signed.Cred.C.Owner), (.string a.Signed.Cred.C.Word), (.string a.Signed.Cred.Word2), g, (.int .i64 a.Release.Op), (.int .i64 a.Release.K), (.string a.Release.Role.Owner), (.string a.Release.Role.Word), c]), (.pointer (some ⟨k, 0, none⟩))] w (.bool r) := by
  have hST := ST.start (dd := true) w
  unfold lU at hm
  refine cF 9 Tryz.func305 rfl (aC (aA ?_))
  obtain ⟨x, z, rfl⟩ := j.form
  obtain ⟨y, B, rfl⟩ := i.form
  refine VE (cH (v := (.agg (C3 a.Signed.Cred.Kind a.Signed.Cred.Head.Owner a.Signed.Cred.Head.Word a.Signed.Cred.Who a.Signed.Cred.B.Owner a.Signed.Cred.B.Word a.Signed.Cred.C.Owner a.Signed.Cred.C.Word a.Signed.Cred.Word2 x a.Signed.Tag.length z a.Release.Op a.Release.K a.Release.Role.Owner a.Release.Role.Word y a.Release.Kids.length B).toArray)) hST rfl (fun D G hST => V (aF rfl) (aD (aG (aC (aA (V (aM qh rfl) (V (aM rK rfl) (V (aI rfl (aK hST.has Mh (aJ a.Signed.Cred) rfl Tryz.isAgg53 Tryz.sizeOf53)) (V (aI rfl (bN hST.has t Tryz.isAgg53 Tryz.sizeOf53)) (V (qc rfl rfl (kT Tryz.eqGuardType53) (nP (ov _ a.Signed.Cred u))) (V (aF rfl) (aD (aG ?_))))))))))))))
  replace hST := hST.sel (Db St)
  refine aS ?_
  have hx := sj hm; subst hx
  exact rP hST
theorem yB (k : bT) (g : Value) (j : Value) (D : Cred) (r : (aV × Bool)) (w : World) {J : aY} (h0 : ie J [] w) (c : Sl bB 15 J g k.Creds) (B : Sl cN 8 J j k.Acks) (hm : nB k D = some r) :
    dO false Tryz.prog 212 [(.agg #[(.string k.Name), g, j]), (.agg (aJ D).toArray)] w J [] (fun v L1 μ1 => ∃ (y1 : Value) (y3 : Value), v = (.tuple #[(.agg #[(.int .i64 ((((r.1).Signed).Cred).Kind)), (.string (((((r.1).Signed).Cred).Head).Owner)), (.string (((((r.1).Signed).Cred).Head).Word)), (.string ((((r.1).Signed).Cred).Who)), (.string (((((r.1).Signed).Cred).B).Owner)), (.string (((((r.1).Signed).Cred).B).Word)), (.string (((((r.1).Signed).Cred).C).Owner)), (.string (((((r.1).Signed).Cred).C).Word)), (.string ((((r.1).Signed).Cred).Word2)), y1, (.int .i64 (((r.1).Release).Op)), (.int .i64 (((r.1).Release).K)), (.string ((((r.1).Release).Role).Owner)), (.string ((((r.1).Release).Role).Word)), y3]), (.bool (r.2))]) ∧ L1 = [] ∧ Sl (Pl (cT .u8)) 1 μ1 y1 (((r.1).Signed).Tag) ∧ Sl aH 5 μ1 y3 (((r.1).Release).Kids)) := by
  have hST := ST.startE (dd := false) h0
  unfold nB at hm
  refine cF 19 Tryz.func212 rfl (aC (aA ?_))
  obtain ⟨T, U, rfl⟩ := c.form
  obtain ⟨A3, c4, rfl⟩ := B.form
  refine VE (cH (v := (.agg (C6 k.Name T k.Creds.length U A3 k.Acks.length c4).toArray)) hST rfl (fun W6 b5 hST => VE (cH (v := (.agg (aJ D).toArray)) hST rfl (fun W8 K hST => VE (cA hST Tryz.zeroValue138 (fun b3 b9 hST => V (aF rfl) (aD (aG (aC (aA (V (aM kZ rfl) (V (aI rfl (aN hST.has (Mt (Mt Mh)) rfl Tryz.isAgg107)) (V (ko (by exact lQ rfl) rfl) (bS hm fun Z Q hm => VE (Eg hST Tryz.call184 ((kI (.slice T k.Creds.length U) k.Creds (.func (.func 305) #[] #[(.pointer (some ⟨K, 0, none⟩))]) (fun (x : aV) => lU x D) _ _ (c.mono bD.mono hST.sub_hp) ⟨305, #[], #[(.pointer (some ⟨K, 0, none⟩))], rfl, Tryz.call305, fun W x vs r hs hR hm => by obtain ⟨_, rfl, Y⟩ := hR; obtain ⟨u0, u1, rfl, k0, k1⟩ := Y.out; exact (wi x u0 u1 K D r W k0 k1 (At.of (hs _ _ (hST.at_ (Mt Mh))) _ rfl) hm).weak⟩ Q)) (fun b4 hST => V (aF rfl) (aD ?_)))))))))))))))))
  refine aG ?_
  replace hST := hST.sel (Kb (Db St))
  refine aC (aC (aA (V (aB rfl) (V (aP rfl rfl rfl) (aD (aG (CI hm rfl (fun M hm => ?_) (fun M hm => ?_))))))))
  · refine aC (aA (V (dX (qs := #[]) (v := (.agg C8.toArray)) lT (cV Tryz.zeroValue138 Tryz.underlying138 (Dm _ Tryz.underlying138) (by kernel_rfl))) (VO (aX (.agg C8.toArray) (C8.toArray) hST rfl rfl Tryz.sizeOf138 (by simp [Value.cells, Value.oneCell']) nb rfl (fun b6 hST => V (aF rfl) (aD (aG ?_)))))))
    replace hST := hST.sel (Kb (Db St))
    refine aS (cR ?_)
    have hx := sj hm; subst hx
    exact kd (v0 := (.agg C8.toArray)) (v1 := (.bool false)) rfl rfl (aK hST.has Mh C8 rfl Tryz.isAgg138 Tryz.sizeOf138) rfl ⟨_, _, _, rfl, (hST.bkM Sn), (aW.refl _), Lo.refl, (ST.sub_hpx hST (eQ.mem Sn)), (.slice none 0 0), (.slice none 0 0), rfl, rfl, (Sl.nil _ _ _), (Sl.nil _ _ _)⟩
  refine aT (aG (aC (aA (V (aM kZ rfl) (V (aI rfl (aN hST.has (Mt Mh) rfl Tryz.isAgg107)) (V (aB rfl) (bS hm fun a I hm => VQ (fN (i := Z) (x0 := a) bB.out Tryz.underlying107 Tryz.sizeOf138 rfl rfl c (bM I) (bJ I)) (fun c1 ⟨_, ⟨c3, c5, rfl, G, H⟩, N⟩ => V (aI rfl (bN hST.has N Tryz.isAgg138 Tryz.sizeOf138)) ?_))))))))
  obtain ⟨t, y, rfl⟩ := G.form
  obtain ⟨u, z, rfl⟩ := H.form
  refine VO (aX (.agg (C3 a.Signed.Cred.Kind a.Signed.Cred.Head.Owner a.Signed.Cred.Head.Word a.Signed.Cred.Who a.Signed.Cred.B.Owner a.Signed.Cred.B.Word a.Signed.Cred.C.Owner a.Signed.Cred.C.Word a.Signed.Cred.Word2 t a.Signed.Tag.length y a.Release.Op a.Release.K a.Release.Role.Owner a.Release.Role.Word u a.Release.Kids.length z).toArray) ((C3 a.Signed.Cred.Kind a.Signed.Cred.Head.Owner a.Signed.Cred.Head.Word a.Signed.Cred.Who a.Signed.Cred.B.Owner a.Signed.Cred.B.Word a.Signed.Cred.C.Owner a.Signed.Cred.C.Word a.Signed.Cred.Word2 t a.Signed.Tag.length y a.Release.Op a.Release.K a.Release.Role.Owner a.Release.Role.Word u a.Release.Kids.length z).toArray) hST rfl rfl Tryz.sizeOf138 (by simp [Value.cells, Value.oneCell']) nb rfl (fun c0 hST => V (aF rfl) (aD (aG ?_))))
  replace hST := hST.sel (Kb (Db St))
  refine aS ?_
  have hx := sj hm; subst hx
  exact kd (v0 := (.agg (C3 a.Signed.Cred.Kind a.Signed.Cred.Head.Owner a.Signed.Cred.Head.Word a.Signed.Cred.Who a.Signed.Cred.B.Owner a.Signed.Cred.B.Word a.Signed.Cred.C.Owner a.Signed.Cred.C.Word a.Signed.Cred.Word2 t a.Signed.Tag.length y a.Release.Op a.Release.K a.Release.Role.Owner a.Release.Role.Word u a.Release.Kids.length z).toArray)) (v1 := (.bool true)) rfl rfl (aK hST.has Mh (C3 a.Signed.Cred.Kind a.Signed.Cred.Head.Owner a.Signed.Cred.Head.Word a.Signed.Cred.Who a.Signed.Cred.B.Owner a.Signed.Cred.B.Word a.Signed.Cred.C.Owner a.Signed.Cred.C.Word a.Signed.Cred.Word2 t a.Signed.Tag.length y a.Release.Op a.Release.K a.Release.Role.Owner a.Release.Role.Word u a.Release.Kids.length z) rfl Tryz.isAgg138 Tryz.sizeOf138) rfl ⟨_, _, _, rfl, (hST.bkM Sn), (aW.refl _), Lo.refl, (ST.sub_hpx hST (eQ.mem Sn)), (.slice t a.Signed.Tag.length y), (.slice u a.Release.Kids.length z), rfl, rfl, G, H⟩
theorem tk (c : Value) (u : List eS) (r : List eS) (w : World) {j : aY} (I : ie j [] w) (a : Sl cN 8 j c u) (hm : lK u = some r) :
    dO true Tryz.prog 302 [c] w j [] (fun v G J => ∃ (z : Value) (t : List (Nat × Obj)), v = z ∧ G = (t ++ []) ∧ bX 263 cN 8 J z r t) := by
  have hST := ST.startE (dd := true) I
  unfold lK at hm
  refine cF 8 Tryz.func302 rfl (aC (aA (V (aF rfl) (aD (aG (aC (aC (aA (V (aB rfl) ?_)))))))))
  obtain ⟨D, Q, rfl⟩ := a.form
  refine V (pI Tryz.underlying108 rfl rfl) (aD (aG ?_))
  rcases D with _ | M
  · have y := a.isNil
    replace hm : some [] = some r := by rw [y] at hm; simpa [gT, maxLen] using hm
    refine nF (rfl) (aC (aA (V (aF rfl) (aD (aG (aS (cR ?_)))))))
    have hx := sj hm; subst hx
    refine dI (v := (.slice none 0 0)) rfl rfl ?_
    replace hST := hST.row0
    exact ⟨_, _, _, rfl, (hST.bkM (Kr Sn)), (aW.refl _), Lo.refl, (ST.sub_hpx hST (eQ.mem (Kr Sn))), (.slice none 0 0), [], rfl, rfl, (bX.nil _ _ _ _)⟩
  · refine kp (rfl) (aT (aG (aC (aA (VE (bU (qs := #[]) (cs := #[]) hST lT (eF [] Tryz.underlying108 Tryz.sizeOf263 Tryz.zeroValue263 (by decide) rfl (by simp) rfl rfl) (fun N H hST => V (aB rfl) (bS hm fun T x hm => VE (mJ (B := [(H, Obj.cells (#[] : Array Value) 263 (0, 0))]) dV hST (by decide) Tryz.underlying108 ut.1 ut.2.1 rfl ut.2.2.1 ut.2.2.2 rfl rfl (bX.lit dV (l := []) .nil rfl nb rfl) (rJ.sl dV a hST.sub_hp) x (fun K g k hST i => V (aF rfl) (aD (aG (aS ?_)))))))))))))
    have hx := sj hm; subst hx
    exact dI (v := g) rfl rfl ⟨_, _, _, rfl, (hST.bkM (Kr Sn)), (aW.refl _), Lo.refl, (ST.sub_hpx hST (eQ.mem (Kr Sn))), g, k, rfl, rfl, i⟩
theorem re (g : Value) (t : List eS) (j : Value) (z : eS → Option Bool) (r : Int) (w : World) (c : Sl cN 8 (hp w) g t) (B : nY Tryz.prog j (hp w) (qr cN) (fun (r : Bool) => (.bool r)) z) (hm : kl t z = some r) :
    bW false Tryz.prog 304 [g, j] w (.int .i64 r) := by
  have hST := ST.start (dd := false) w
  unfold kl at hm
  refine cF 19 Tryz.func304 rfl (aC (aA (V (aF rfl) (aD (aG (aC (aC (aA (V (aB rfl) (V (eH Tryz.underlying108 rfl c) (V (aB rfl) (aD (aG (dP (fun i E W => ∃  (k : List (Nat × Obj)), (E 8 = .int .i64 (i : Nat) ∧ E 7 = .int .i64 (t.length : Nat)) ∧ ST false dW w W (hp w) k ∧ E 0 = g ∧ E 1 = j ∧ eM z (t.drop i) i = some r) t.length c.len ⟨_, ⟨rfl, rfl⟩, (hST.sel St), rfl, rfl, hm⟩ (by decide) (by decide) (by decide) (fun _ _ _ h => by obtain ⟨_, eIN, _⟩ := h; exact eIN) ?_ ?_))))))))))))))
  · rintro T E W G ⟨k, ⟨eI, eN⟩, hST, u, x, a⟩
    obtain ⟨y, Z, N, M, Q⟩ := dB G
    rw [N] at a
    rw [eM] at a
    refine aU (aC (aA (V (aB eI) (V (aF rfl) (aD (aG (aC (aA (V (aB x) (V (aB u) (V (aB rfl) (VQ (fN (i := (T : Int)) (x0 := y) cN.out Tryz.underlying108 Tryz.sizeOf263 rfl rfl c (Int.natCast_nonneg _) M) (fun a2 ⟨_, ⟨U, Y, rfl, J, K⟩, H⟩ => V (aI rfl (bN hST.has H Tryz.isAgg263 Tryz.sizeOf263)) (bS a fun a3 I a => ?_))))))))))))))
    refine VE (oT y hST B (aW.refl _) (qr.mk dV (cN.mk ⟨U, Y, rfl, J, K⟩) hST.sub_hp) rfl (lQ rfl) I (fun a1 hST => aD (aG (CI a rfl (fun D a => ?_) (fun D a => ?_)))))
    · refine aC (aA (V (aB rfl) (V (aF rfl) (aD (aG (aS (gA (cR (gA (cR ?_))))))))))
      have hx := sj a; subst hx
      exact rP hST
    exact aT (cM (aG ⟨eI, _, ⟨rfl, eN⟩, (hST.sel St), u, x, (by rw [Q]; exact a)⟩))
  rintro E W ⟨k, ⟨eI, eN⟩, hST, u, x, a⟩
  rw [List.drop_length] at a
  rw [eM] at a
  refine aG (aC (aA (V (aF rfl) (aD (aG (aS ?_))))))
  have hx := sj a; subst hx
  exact rP hST
theorem qE (k : Value) (a0 : List eS) (y : List (Nat × Obj)) (J : Value) (f1 : eS → Option Bool) (r : List eS) (w : World) {Y : aY} (h0 : ie Y (y ++ []) w) (a1 : bX 263 cN 8 Y k a0 y) (a9 : nY Tryz.prog J Y (qr cN) (fun (r : Bool) => (.bool r)) f1) (hm : iL a0 f1 = some r) :
    dO false Tryz.prog 301 [k, J] w Y (y ++ []) (fun v L1 μ1 => ∃ (y1 : Value), v = y1 ∧ L1 = [] ∧ Sl cN 8 μ1 y1 (r)) := by
  have hST := ST.startE (dd := false) h0
  unfold iL at hm
  refine cF 42 Tryz.func301 rfl (aC (aA (V (aF rfl) (aD (aG (aC (aA (V (aB rfl) (V (aB rfl) (bS hm fun r1 d7 hm => VE (Eg hST Tryz.call304 ((re k a0 J f1 _ _ (a1.sl dV hST.sub_hp (fun b o hq => hST.at_ (Ml hq))) (a9.mono hST.sub_hp) d7)) (fun W3 hST => V (aF rfl) (aD (aG ?_))))))))))))))
  refine aC (aC (aA (V (aB rfl) (V (aP rfl rfl rfl) (aD (aG (CI hm rfl (fun d6 hm => ?_) (fun d6 hm => ?_))))))))
  · refine aC (aA (V (aB rfl) (V (aF rfl) (aD (aG (aS (cR ?_)))))))
    have hx := sj hm; subst hx
    refine dI (v := k) rfl rfl ?_
    obtain ⟨μ5, hST, d2, hl7, d8⟩ := ST.pubD dV hST a1
    exact ⟨_, _, _, rfl, (hST.bkM Sn), d2, hl7, (ST.sub_hpx hST (eQ.mem Sn)), k, rfl, rfl, d8⟩
  refine aT (aG (aC (aC (aA (V (aB rfl) (V (aP rfl rfl rfl) (V (aF rfl) (aD (aG (aU (gH (fun m E W => ∃ (a2 : List eS) (K : List (Nat × Obj)) (G : Int) (H : Int) (a7 : List (Nat × Obj)), ST false (keys (y ++ [])) w W Y (K ++ a7) ∧ E 0 = k ∧ E 1 = J ∧ E 5 = (.int .i64 G) ∧ E 6 = (.int .i64 H) ∧ bX 263 cN 8 Y k a2 K ∧ eX f1 m a2 G H = some r) bR ⟨a0, y, r1, ((IntKind.i64.wrap (r1 + 1))), _, (hST.sel St), rfl, rfl, rfl, rfl, a1, hm⟩ ?_)))))))))))
  rintro m E W ⟨a2, K, G, H, a7, hST, t, Z, I, N, j, c⟩
  cases m with
  | zero => rw [eX] at c; cases c
  | succ d4 =>
    rw [eX] at c
    refine aC (aC (aA (V (aB N) (V (aB t) (V (oD Tryz.underlying108 rfl j) (V (aP rfl rfl rfl) (aD (aG (CI c rfl (fun b6 c => ?_) (fun b6 c => ?_))))))))))
    · refine aT (aG (aC (CJ c (fun a3 E W => ∃ (M : List (Nat × Obj)) (a8 : List (Nat × Obj)), ST false (keys (y ++ [])) w W Y (M ++ a8) ∧ E 0 = k ∧ E 1 = J ∧ E 5 = (.int .i64 a3.2) ∧ E 6 = (.int .i64 H) ∧ bX 263 cN 8 Y k a3.1 M) (fun a3 g => ?_) ?_)))
      · refine aU (aC (aA (V (aB t) (V (aB N) (bS g fun a a6 g => VQ (cQ (i := H) cN.out Tryz.underlying108 Tryz.sizeOf263 rfl rfl j (bM a6) (bJ a6)) (fun f5 ⟨_, ⟨f8, f9, rfl, Q, T⟩, c1, e1⟩ => V (aI rfl (bN (gD.hp _) (c1.mono (dZ (fun b o hq => hST.has.2 b o (Ml hq)))) Tryz.isAgg263 Tryz.sizeOf263)) (VE (cA hST Tryz.zeroValue263 (fun e7 f3 hST => ?_)))))))))
        obtain ⟨u, B, rfl⟩ := Q.form
        obtain ⟨x, D, rfl⟩ := T.form
        refine VO (aX (.agg (C9 a.Role.Owner a.Role.Word a.Release.Op a.Release.K a.Release.Role.Owner a.Release.Role.Word u a.Release.Kids.length B x a.Closure.length D).toArray) ((C9 a.Role.Owner a.Role.Word a.Release.Op a.Release.K a.Release.Role.Owner a.Release.Role.Word u a.Release.Kids.length B x a.Closure.length D).toArray) hST rfl rfl Tryz.sizeOf263 (by simp [Value.cells, Value.oneCell']) nb rfl (fun e8 hST => aD (aG (aC (aA (V (aB Z) (V (aI rfl (aK hST.has Mh (C9 a.Role.Owner a.Role.Word a.Release.Op a.Release.K a.Release.Role.Owner a.Release.Role.Word u a.Release.Kids.length B x a.Closure.length D) rfl Tryz.isAgg263 Tryz.sizeOf263)) (bS g fun f7 c2 g => VE (oT a hST a9 (aW.refl _) (qr.mk dV (cN.mk ⟨(.slice u a.Release.Kids.length B), (.slice x a.Closure.length D), rfl, Q, T⟩) hST.sub_hp) rfl (lQ rfl) c2 (fun e9 hST => V (iS rfl) (aD (aG (CI g rfl (fun b7 g => ?_) (fun b7 g => ?_))))))))))))))
        · refine aC (aA (V (aB t) (V (aB I) (V (aI rfl (aK hST.has Mh (C9 a.Role.Owner a.Role.Word a.Release.Op a.Release.K a.Release.Role.Owner a.Release.Role.Word u a.Release.Kids.length B x a.Closure.length D) rfl Tryz.isAgg263 Tryz.sizeOf263)) (bS g fun g3 U g => VQ (cQ (i := G) cN.out Tryz.underlying108 Tryz.sizeOf263 rfl rfl j (bM U) (bJ U)) (fun f6 ⟨_, ⟨g0, g1, rfl, e3, e4⟩, e2, b9⟩ => ?_))))))
          replace hST := hST.perm (Nr (Qb Qz) Nz)
          refine VO (jC (x1 := a) dV hST j rfl rfl (cN.mk ⟨(.slice u a.Release.Kids.length B), (.slice x a.Closure.length D), rfl, Q, T⟩) b9 (bJ U) Tryz.sizeOf263 (fun f0 c7 hST b4 => aD (aG ?_)))
          replace hST := hST.sel (Kr (Db St))
          refine aA (V (aB I) (V (aP rfl rfl rfl) (V (aF rfl) (aD (cM (aG ?_))))))
          have hx := sj g; subst hx
          exact ⟨c7, _, (hST.sel St), t, Z, rfl, N, b4⟩
        refine aT (cM (aG ?_))
        have hx := sj g; subst hx
        exact ⟨K, _, (hST.sel (Db St)), t, Z, I, N, j⟩
      rintro ⟨d3, d5⟩ E W ⟨M, a8, hST, c8, c9, d0, d1, c3⟩ c0
      exact aA (V (aB d1) (V (aP rfl rfl rfl) (V (aF rfl) (aD (aG ⟨d4, Nat.lt_succ_self _, d3, M, d5, ((IntKind.i64.wrap (H + 1))), _, (hST.sel St), c8, c9, d0, rfl, c3, c0⟩)))))
    refine gI (gc (gc (li (aG (aC (aA (V (aB t) (V (aB I) (bS c fun _ a4 c => VQ (qw (i := G) Tryz.underlying108 Tryz.sizeOf263 rfl rfl j (nE a4) (nR a4)) (fun g2 c4 => VO (tq (z := (⟨K0, (⟨0, 0, K0, []⟩ : Formula), []⟩ : eS)) (zs := [(.string zS), (.string zS), (.int .i64 0), (.int .i64 0), (.string zS), (.string zS), (.slice none 0 0), (.slice none 0 0)]) dV hST j (cN.mk ⟨(.slice none 0 0), (.slice none 0 0), rfl, (Sl.nil _ _ _), (Sl.nil _ _ _)⟩) Tryz.underlying108 Tryz.zeroValue263 c4 rfl rfl (fun f2 e6 hST b5 => aD (aG (aC (aA (V (aB t) ?_))))))))))))))))
    refine V (aB I) (bS c fun _ a5 c => VQ (vL (i := G) Tryz.underlying108 Tryz.sizeOf263 rfl rfl b5 (nE a5) (nR a5)) (fun b1 c5 => V (aF rfl) (aD (aG (aS ?_)))))
    have hx := sj c; subst hx
    refine dI (v := b1) rfl rfl ?_
    obtain ⟨g5, hST, b0, hl564, c6⟩ := ST.pubD dV hST c5
    exact ⟨_, _, _, rfl, (hST.bkM Sn), b0, hl564, (ST.sub_hpx hST (eQ.mem Sn)), b1, rfl, rfl, c6⟩
theorem vw (c : eS) (a : Value) (i : Value) (k : Nat) (u : Cred) (r : Bool) (w : World) (j : Sl aH 5 (hp w) a c.Release.Kids) (g : Sl (Pl aJ) 9 (hp w) i c.Closure) (t : At (hp w) (.pointer (some ⟨k, 0, none⟩)) (aJ u)) (hm : jq c u = some r) :
    bW true Tryz.prog 303 [(.agg #[(.string c.Role.Owner), (.string c.Role.Word), (.int .i64 c.Release.Op), (.int .i64 c.Release.K), (.string c.Release.Role.Owner), (.string c.Release.Role.Word), a, i]), (.pointer (some ⟨k, 0, none⟩))] w (.bool r) := by
  have hST := ST.start (dd := true) w
  unfold jq at hm
  refine cF 9 Tryz.func303 rfl (aC (aA ?_))
  obtain ⟨B, D, rfl⟩ := j.form
  obtain ⟨x, y, rfl⟩ := g.form
  refine VE (cH (v := (.agg (C9 c.Role.Owner c.Role.Word c.Release.Op c.Release.K c.Release.Role.Owner c.Release.Role.Word B c.Release.Kids.length D x c.Closure.length y).toArray)) hST rfl (fun G I hST => V (aF rfl) (aD (aG (aC (aA (V (aM zK rfl) (V (aI rfl (aN hST.has Mh rfl Tryz.isAgg22)) (V (aI rfl (bN hST.has t Tryz.isAgg53 Tryz.sizeOf53)) (bS hm fun J z hm => VE (Eg hST Tryz.call201 ((qb (.slice x c.Closure.length y) c.Closure u _ _ (g.mono (Pl.mono _) hST.sub_hp) z)) (fun H hST => V (iS rfl) (V (aF rfl) (aD (aG ?_)))))))))))))))
  replace hST := hST.sel (Db St)
  refine aS ?_
  have hx := sj hm; subst hx
  exact rP hST
theorem xN (i : bT) (a : Value) (g : Value) (y : Cred) (r : List eS) (w : World) {G : aY} (h0 : ie G [] w) (j : Sl bB 15 G a i.Creds) (c : Sl cN 8 G g i.Acks) (hm : nc i y = some r) :
    dO false Tryz.prog 209 [(.agg #[(.string i.Name), a, g]), (.agg (aJ y).toArray)] w G [] (fun v L1 μ1 => ∃ (y1 : Value), v = y1 ∧ L1 = [] ∧ Sl cN 8 μ1 y1 (r)) := by
  have hST := ST.startE (dd := false) h0
  unfold nc at hm
  refine cF 10 Tryz.func209 rfl (aC (aA ?_))
  obtain ⟨A1, c2, rfl⟩ := j.form
  obtain ⟨Y, c4, rfl⟩ := c.form
  refine VE (cH (v := (.agg (C6 i.Name A1 i.Creds.length c2 Y i.Acks.length c4).toArray)) hST rfl (fun W6 b5 hST => VE (cH (v := (.agg (aJ y).toArray)) hST rfl (fun W8 z hST => V (aF rfl) (aD (aG (aC (aA (V (aM ur rfl) (V (aI rfl (aN hST.has (Mt Mh) rfl Tryz.isAgg108)) (bS hm fun r9 N hm => ?_)))))))))))
  have hsz := hST.size
  refine VE (je hST (List.Perm.refl _) Tryz.call302 (fun hH hN hsb hmm => dO.weak (tk (.slice Y i.Acks.length c4) i.Acks _ _ ⟨hH, hN, hsb⟩ (c.mono dV.mono (aW.refl _)) N)) (fun b9 c3 c6 b4 hST B hl14 I => ?_) (L0 := []))
  obtain ⟨a5, Z, k, rfl, T⟩ := I
  replace k := k.symm; subst k
  replace hST := hST.perm (Tr Tn)
  refine V (ko (by exact lQ rfl) rfl) ?_
  replace hST := hST.perm (Nb (Pr Pz) Nz)
  obtain ⟨c7, hST, u, hl24, M⟩ := ST.pubAll (R := [(z, Obj.cells ((aJ y).toArray : Array Value) 53 (0, 0))]) hST
  have K := At.of (M _ _ (.head _)) _ rfl
  refine bS hm fun c1 Q hm => ?_
  have hsz := hST.size
  refine VE (je hST (Cr Qz Cn) Tryz.call301 (fun hH hN hsb hmm => (qE a5 r9 Z (.func (.func 303) #[] #[(.pointer (some ⟨z, 0, none⟩))]) (fun (x : eS) => jq x y) _ _ ⟨hH, hN, hsb⟩ (T.mono dV u) ⟨303, #[], #[(.pointer (some ⟨z, 0, none⟩))], rfl, Tryz.call303, fun W x vs r hs hR hm => by obtain ⟨_, rfl, a3⟩ := hR; obtain ⟨u0, u1, rfl, k0, k1⟩ := a3.out; exact (vw x u0 u1 z y r W k0 k1 (K.mono ((aW.refl _).trans hs)) hm).weak⟩ Q)) (fun c0 c5 c8 b6 hST D hl32 J => ?_))
  obtain ⟨H, t, rfl, U⟩ := J
  replace t := t.symm; subst t
  replace hST := hST.perm Tn
  refine V (aF rfl) (aD (aG ?_))
  replace hST := hST.sel (Db St)
  refine aS ?_
  have hx := sj hm; subst hx
  exact dI (v := H) rfl rfl ⟨_, _, _, rfl, (hST.bkM Sn), ((B.trans u).trans D), ((hl14.trans hl24).trans hl32), (ST.sub_hpx hST (eQ.mem Sn)), H, rfl, rfl, U⟩
theorem rV (T : Formula → Int → Option ((Int × Int))) (a6 : ∀ (t : Formula) (j : Value) (I : Int) (r : (Int × Int)) (w : World) (g : Sl aH 5 (hp w) j t.Kids), T t I = some r → bW false Tryz.prog 308 [(.agg #[(.int .i64 t.Op), (.int .i64 t.K), (.string t.Role.Owner), (.string t.Role.Word), j]), (.int .i64 I)] w (.tuple #[(.int .i64 r.1), (.int .i64 r.2)])) (t : Formula) (j : Value) (I : Int) (r : (Int × Int)) (w : World) (g : Sl aH 5 (hp w) j t.Kids) (hm : kQ T t I = some r) :
    bW false Tryz.prog 308 [(.agg #[(.int .i64 t.Op), (.int .i64 t.K), (.string t.Role.Owner), (.string t.Role.Word), j]), (.int .i64 I)] w (.tuple #[(.int .i64 r.1), (.int .i64 r.2)]) := by
  have hST := ST.start (dd := false) w
  unfold kQ at hm
  refine cF 40 Tryz.func308 rfl (aC (aA ?_))
  obtain ⟨A1, c2, rfl⟩ := g.form
  refine VE (cH (v := (.agg (C2 t.Op t.K t.Role.Owner t.Role.Word A1 t.Kids.length c2).toArray)) hST rfl (fun W4 b3 hST => V (aF rfl) (V (aF rfl) (aD (aG (aC (aA (V (aF rfl) (V (aF rfl) (aD (aG (aC (aC (aA (V (aM jL rfl) ?_)))))))))))))))
  refine V (aI rfl (aN hST.has Mh rfl Tryz.isAgg111)) (V (eH Tryz.underlying111 rfl g) (V (aB rfl) (aD (aG ?_))))
  replace hST := hST.sel (Db St)
  refine CJ hm (fun Q E W => ∃  (a2 : List (Nat × Obj)), ST false dW w W (hp w) a2 ∧ E 6 = (.int .i64 Q.1) ∧ E 7 = (.int .i64 Q.2)) (fun Q a5 => ?_) ?_
  · refine dP (fun i E W => ∃ (y : Int) (z : Int) (J : List (Nat × Obj)), (E 15 = .int .i64 (i : Nat) ∧ E 14 = .int .i64 (t.Kids.length : Nat)) ∧ ST false dW w W (hp w) J ∧ E 1 = (.int .i64 I) ∧ E 6 = (.int .i64 y) ∧ E 7 = (.int .i64 z) ∧ E 13 = (.slice A1 t.Kids.length c2) ∧ gu I T (t.Kids.drop i) y z = some Q) t.Kids.length g.len ⟨1, 0, _, ⟨rfl, rfl⟩, (hST.sel St), rfl, rfl, rfl, rfl, a5⟩ (by decide) (by decide) (by decide) (fun _ _ _ h => by obtain ⟨_, _, _, eIN, _⟩ := h; exact eIN) ?_ ?_
    · rintro b5 E W a3 ⟨y, z, J, ⟨eI, eN⟩, hST, G, x, H, K, a⟩
      obtain ⟨c, c6, a8, a7, a9⟩ := dB a3
      rw [a8] at a
      rw [gu] at a
      refine aU (aC (aA (VQ (fN (i := (b5 : Int)) (x0 := c) aH.out Tryz.underlying111 Tryz.sizeOf113 K eI g (Int.natCast_nonneg _) a7) (fun c4 ⟨_, ⟨c5, rfl, N⟩, Y⟩ => V (aI rfl (bN hST.has Y Tryz.isAgg113 Tryz.sizeOf113)) (VE (cA hST Tryz.zeroValue113 (fun b9 c3 hST => ?_)))))))
      obtain ⟨B, D, rfl⟩ := N.form
      refine VO (aX (.agg (C2 c.Op c.K c.Role.Owner c.Role.Word B c.Kids.length D).toArray) ((C2 c.Op c.K c.Role.Owner c.Role.Word B c.Kids.length D).toArray) hST rfl rfl Tryz.sizeOf113 (by simp [Value.cells, Value.oneCell']) nb rfl (fun c0 hST => aD (aG (aC (aC (aA (V (aB x) (V (aB G) (V (aP rfl rfl rfl) (aD (aG (CI a rfl (fun U a => ?_) (fun U a => ?_)))))))))))))
      · refine gI (gc (EP (by simp) (gc (li (aG ?_)))))
        have hx := sj a; subst hx
        exact ⟨_, (hST.sel (Db St)), x, H⟩
      refine aT (aG (aC (aA (V (aI rfl (aK hST.has Mh (C2 c.Op c.K c.Role.Owner c.Role.Word B c.Kids.length D) rfl Tryz.isAgg113 Tryz.sizeOf113)) (V (aB G) (V (aB x) (V (aP rfl rfl rfl) (bS a fun M Z a => VE (Eg hST Tryz.call308 ((a6 c (.slice B c.Kids.length D) ((IntKind.i64.wrap (I - y))) _ _ (N.mono aQ.mono hST.sub_hp) Z)) (fun c1 hST => V (aB rfl) (V (bQ rfl rfl) (V (bQ rfl rfl) (V (aF rfl) (V (aF rfl) ?_))))))))))))))
      refine aD (aG ?_)
      replace hST := hST.sel (Db St)
      exact aA (V (aB x) (V (aB rfl) (V (aP rfl rfl rfl) (V (aB H) (V (aB rfl) (V (Ev (k := .i64) rfl rfl) (V (aF rfl) (V (aF rfl) (aD (cM (aG ⟨eI, ((IntKind.i64.wrap (y + M.1))), ((if M.2 > z then M.2 else z)), _, ⟨rfl, eN⟩, (hST.sel St), G, rfl, rfl, K, (by rw [a9]; exact a)⟩)))))))))))
    rintro E W ⟨y, z, J, ⟨eI, eN⟩, hST, G, x, H, K, a⟩
    rw [List.drop_length] at a
    rw [gu] at a
    refine aG ?_
    have hx := sj a; subst hx
    exact ⟨_, (hST.sel St), x, H⟩
  rintro ⟨b6, b7⟩ E W ⟨a2, hST, b2, b4⟩ a4
  refine aC (aA (V (aB b2) (V (aB b4) (V (aP rfl rfl rfl) (V (aF rfl) (V (aF rfl) (aD (aG (aS ?_)))))))))
  have hx := sj a4; subst hx
  exact tR (v := (.int .i64 b6)) (u := (.int .i64 ((IntKind.i64.wrap (b7 + 1))))) rfl rfl rfl ⟨rfl, hST.ex⟩
theorem qP : ∀ (n : Nat) (c : Formula) (a : Value) (i : Int) (r : (Int × Int)) (w : World) (g : Sl aH 5 (hp w) a c.Kids) (_ : gM n c i = some r),
    bW false Tryz.prog 308 [(.agg #[(.int .i64 c.Op), (.int .i64 c.K), (.string c.Role.Owner), (.string c.Role.Word), a]), (.int .i64 i)] w (.tuple #[(.int .i64 r.1), (.int .i64 r.2)])
  | 0 => by intros; rename_i h; simp only [gM] at h; cases h
  | n + 1 => rV (gM n) (qP n)
theorem wE (a : Formula) (g : Value) (r : (Int × Int)) (w : World) (c : Sl aH 5 (hp w) g a.Kids) (hm : mw a = some r) :
    bW false Tryz.prog 214 [(.agg #[(.int .i64 a.Op), (.int .i64 a.K), (.string a.Role.Owner), (.string a.Role.Word), g])] w (.tuple #[(.int .i64 r.1), (.int .i64 r.2)]) := by
  have hST := ST.start (dd := false) w
  unfold mw at hm
  refine cF 15 Tryz.func214 rfl (aC (aA ?_))
  obtain ⟨i, j, rfl⟩ := c.form
  refine VE (cH (v := (.agg (C2 a.Op a.K a.Role.Owner a.Role.Word i a.Kids.length j).toArray)) hST rfl (fun y B hST => V (aF rfl) (V (aF rfl) (aD (aG (aC (aA (V (aI rfl (aK hST.has Mh (C2 a.Op a.K a.Role.Owner a.Role.Word i a.Kids.length j) rfl Tryz.isAgg113 Tryz.sizeOf113)) (bS hm fun x t hm => VE (Eg hST Tryz.call308 (((qP bR) a (.slice i a.Kids.length j) 4096 _ _ (c.mono aQ.mono hST.sub_hp) t)) (fun z hST => V (aB rfl) (V (bQ rfl rfl) (V (bQ rfl rfl) (V (aF rfl) (V (aF rfl) ?_)))))))))))))))
  refine aD (aG ?_)
  replace hST := hST.sel (Db St)
  refine aC (aC (aA (V (aB rfl) (V (aP rfl rfl rfl) (aD (aG (CI hm rfl (fun k hm => ?_) (fun k hm => ?_))))))))
  · refine aC (aA (V (aF rfl) (V (aF rfl) (aD (aG (aS (cR ?_)))))))
    have hx := sj hm; subst hx
    exact tR (v := (.int .i64 0)) (u := (.int .i64 0)) rfl rfl rfl ⟨rfl, hST.ex⟩
  refine aT (aG (aC (aA (V (aB rfl) (V (aB rfl) (V (aF rfl) (V (aF rfl) (aD (aG (aS ?_))))))))))
  have hx := sj hm; subst hx
  exact tR (v := (.int .i64 x.1)) (u := (.int .i64 x.2)) rfl rfl rfl ⟨rfl, hST.ex⟩
theorem wV (a : Formula) (H : Value) (r : Bool) (w : World) (t : Sl aH 5 (hp w) H a.Kids) (hm : mz a = some r) :
    bW true Tryz.prog 309 [(.agg #[(.int .i64 a.Op), (.int .i64 a.K), (.string a.Role.Owner), (.string a.Role.Word), H])] w (.bool r) := by
  have hST := ST.start (dd := true) w
  unfold mz at hm
  refine cF 63 Tryz.func309 rfl (aC (aA ?_))
  obtain ⟨A1, c2, rfl⟩ := t.form
  refine VE (cH (v := (.agg (C2 a.Op a.K a.Role.Owner a.Role.Word A1 a.Kids.length c2).toArray)) hST rfl (fun W4 N hST => V (aF rfl) (aD (aG (aC (aA (V (dX (qs := #[]) (v := (.agg (aO K0).toArray)) lT (cV Tryz.zeroValue28 Tryz.underlying28 (AG _ Tryz.underlying28) (by kernel_rfl))) (VE (cA hST Tryz.zeroValue28 (fun W6 b5 hST => VO (aX (.agg (aO K0).toArray) ((aO K0).toArray) hST rfl rfl Tryz.sizeOf28 (oC K0) nb rfl (fun W7 hST => aD (aG (aC (aC (aA (V (aM kC rfl) ?_)))))))))))))))))
  refine V (aI rfl (aN hST.has (Mt Mh) rfl Tryz.isAgg3)) (aD (aG (aU (aC (aA (V (aP rfl rfl rfl) (V (aF rfl) (aD (aG (CI hm rfl (fun d9 hm => ?_) (fun d9 hm => ?_)))))))))))
  · refine aC (aA (V (aM nL rfl) (V (aI rfl (aK hST.has (Mt Mh) (aO a.Role) rfl Tryz.isAgg28 Tryz.sizeOf28)) (bS hm fun f7 e5 hm => VE (Eg hST Tryz.call254 ((lw a.Role _ _  e5)) (fun f5 hST => V (aB rfl) (LJ hm (fun d2 E W => ∃  (c4 : List (Nat × Obj)), ST true dW w W (hp w) ((N, Obj.cells ((C2 a.Op a.K a.Role.Owner a.Role.Word A1 a.Kids.length c2).toArray : Array Value) 113 (0, 0)) :: c4) ∧ E 1 = (.pointer (some ⟨N, 0, none⟩)) ∧ E 2 = (.bool false) ∧ E 17 = (.bool d2)) 5 ?_ (fun d2 J a4 => ?_))))))))
    · rintro f8 E W ⟨c4, hST, e7, c9, e8⟩ e1
      refine V (aB e8) (LJ e1 (fun d1 E W => ∃  (c5 : List (Nat × Obj)), ST true dW w W (hp w) c5 ∧ E 2 = (.bool false) ∧ E 22 = (.bool d1)) 4 ?_ (fun d1 I a3 => ?_))
      · rintro f9 E W ⟨c5, hST, f6, e9⟩ e2
        refine V (aF e9) (aD (aG (aS (gA (cR ?_)))))
        have hx := sj e2; subst hx
        exact rP hST
      refine bC I (fun u I => ?_) (fun u I => ?_)
      · refine Vg rfl (cB u) (aM nK e7) (Vg rfl (cB u) (aI rfl (aN hST.has Mh rfl Tryz.isAgg3)) (Vg rfl (cB u) (aP rfl rfl rfl) (V (cD (cB u) rfl) ?_)))
        have hx := sj I; subst hx
        exact a3 _ _ ⟨_, (hST.sel (Db St)), c9, rfl⟩
      refine Vn rfl (cB u) (Vn rfl (cB u) (Vn rfl (cB u) (V (cI (cB u) rfl) ?_)))
      have hx := sj I; subst hx
      exact a3 _ _ ⟨_, (hST.sel (Db St)), c9, rfl⟩
    refine bC J (fun j J => ?_) (fun j J => ?_)
    · refine Vg rfl (cB j) (aM jL rfl) (Vg rfl (cB j) (aI rfl (aN hST.has (Mt Mh) rfl Tryz.isAgg111)) (Vg rfl (cB j) (eH Tryz.underlying111 rfl t) (Vg rfl (cB j) (aP rfl rfl rfl) (V (cD (cB j) rfl) ?_))))
      have hx := sj J; subst hx
      exact a4 _ _ ⟨_, (hST.sel (Db St)), rfl, rfl, rfl⟩
    refine Vn rfl (cB j) (Vn rfl (cB j) (Vn rfl (cB j) (Vn rfl (cB j) (V (cI (cB j) rfl) ?_))))
    have hx := sj J; subst hx
    exact a4 _ _ ⟨_, (hST.sel (Db St)), rfl, rfl, rfl⟩
  refine aC (CJ hm (fun b7 E W => ∃  (c6 : List (Nat × Obj)), ST true dW w W (hp w) ((b5, Obj.cells ((aO K0).toArray : Array Value) 28 (0, 0)) :: ((N, Obj.cells ((C2 a.Op a.K a.Role.Owner a.Role.Word A1 a.Kids.length c2).toArray : Array Value) 113 (0, 0)) :: c6)) ∧ E 1 = (.pointer (some ⟨N, 0, none⟩)) ∧ E 3 = (.pointer (some ⟨b5, 0, none⟩)) ∧ E 23 = (.bool b7)) (fun b7 G => ?_) ?_)
  · refine aC (aA (V (aP rfl rfl rfl) (V (aF rfl) (aD (aG (CI G rfl (fun b9 G => ?_) (fun b9 G => ?_)))))))
    · refine aT (aG ?_)
      have hx := sj G; subst hx
      exact ⟨_, (hST.sel St), rfl, rfl, rfl⟩
    refine aA (V (aP rfl rfl rfl) (V (aF rfl) (aD (aG ?_))))
    have hx := sj G; subst hx
    exact ⟨_, (hST.sel St), rfl, rfl, rfl⟩
  rintro g0 E W ⟨c6, hST, Q, d0, f0⟩ K
  refine CI K f0 (fun e0 K => ?_) (fun e0 K => ?_)
  · refine aC (aA (V (aM nL Q) (V (aI rfl (aK hST.has (Mt Mh) (aO a.Role) rfl Tryz.isAgg28 Tryz.sizeOf28)) (V (aI d0 (aK hST.has Mh (aO K0) rfl Tryz.isAgg28 Tryz.sizeOf28)) (V (qc rfl rfl (kT Tryz.eqGuardType28) (nP (ot _ a.Role K0))) (V (aB rfl) (LJ K (fun d3 E W => ∃  (c7 : List (Nat × Obj)), ST true dW w W (hp w) c7 ∧ E 34 = (.bool d3)) 4 ?_ (fun d3 M a5 => ?_))))))))
    · rintro g1 E W ⟨c7, hST, f1⟩ e3
      refine V (aF f1) (aD (aG (aS (gA (cR ?_)))))
      have hx := sj e3; subst hx
      exact rP hST
    refine bC M (fun x M => ?_) (fun x M => ?_)
    · refine Vg rfl (cB x) (aM nK Q) (Vg rfl (cB x) (aI rfl (aN hST.has (Mt Mh) rfl Tryz.isAgg3)) (Vg rfl (cB x) (aP rfl rfl rfl) (V (cD (cB x) rfl) ?_)))
      have hx := sj M; subst hx
      exact a5 _ _ ⟨_, (hST.sel (Db (Db St))), rfl⟩
    refine Vn rfl (cB x) (Vn rfl (cB x) (Vn rfl (cB x) (V (cI (cB x) rfl) ?_)))
    have hx := sj M; subst hx
    exact a5 _ _ ⟨_, (hST.sel (Db (Db St))), rfl⟩
  refine aT (cM (aG (aC (aA (V (aM kC Q) (V (aI rfl (aN hST.has (Mt Mh) rfl Tryz.isAgg3)) (V (aP rfl rfl rfl) (V (aB rfl) (LJ K (fun b6 E W => ∃  (c8 : List (Nat × Obj)), ST true dW w W (hp w) ((N, Obj.cells ((C2 a.Op a.K a.Role.Owner a.Role.Word A1 a.Kids.length c2).toArray : Array Value) 113 (0, 0)) :: c8) ∧ E 1 = (.pointer (some ⟨N, 0, none⟩)) ∧ E 43 = (.bool b6)) 5 ?_ (fun b6 D a1 => ?_))))))))))
  · rintro g2 E W ⟨c8, hST, a2, d4⟩ e4
    refine V (aB d4) (LJ e4 (fun b4 E W => ∃  (a8 : List (Nat × Obj)), ST true dW w W (hp w) ((N, Obj.cells ((C2 a.Op a.K a.Role.Owner a.Role.Word A1 a.Kids.length c2).toArray : Array Value) 113 (0, 0)) :: a8) ∧ E 1 = (.pointer (some ⟨N, 0, none⟩)) ∧ E 48 = (.bool b4)) 4 ?_ (fun b4 B Z => ?_))
    · rintro f2 E W ⟨a8, hST, T, d5⟩ c0
      refine V (aB d5) (LJ c0 (fun b2 E W => ∃  (a9 : List (Nat × Obj)), ST true dW w W (hp w) ((N, Obj.cells ((C2 a.Op a.K a.Role.Owner a.Role.Word A1 a.Kids.length c2).toArray : Array Value) 113 (0, 0)) :: a9) ∧ E 1 = (.pointer (some ⟨N, 0, none⟩)) ∧ E 56 = (.bool b2)) 7 ?_ (fun b2 z Y => ?_))
      · rintro f3 E W ⟨a9, hST, d6, d7⟩ c1
        refine V (aB d7) (LJ c1 (fun b1 E W => ∃  (b0 : List (Nat × Obj)), ST true dW w W (hp w) b0 ∧ E 62 = (.bool b1)) 5 ?_ (fun b1 y U => ?_))
        · rintro f4 E W ⟨b0, hST, d8⟩ c3
          refine V (aF d8) (aD (aG (aS ?_)))
          have hx := sj c3; subst hx
          exact rP hST
        refine bC y (fun g y => ?_) (fun g y => ?_)
        · refine Vg rfl (cB g) (aM jL d6) (Vg rfl (cB g) (aI rfl (aN hST.has Mh rfl Tryz.isAgg111)) (Vg rfl (cB g) (eH Tryz.underlying111 rfl t) (Vg rfl (cB g) (aP rfl rfl rfl) (V (cD (cB g) rfl) ?_))))
          have hx := sj y; subst hx
          exact U _ _ ⟨_, (hST.sel (Db St)), rfl⟩
        refine Vn rfl (cB g) (Vn rfl (cB g) (Vn rfl (cB g) (Vn rfl (cB g) (V (cI (cB g) rfl) ?_))))
        have hx := sj y; subst hx
        exact U _ _ ⟨_, (hST.sel (Db St)), rfl⟩
      refine bC z (fun c z => ?_) (fun c z => ?_)
      · refine Vg rfl (cB c) (aM nK T) (Vg rfl (cB c) (aI rfl (aN hST.has Mh rfl Tryz.isAgg3)) (Vg rfl (cB c) (aM jL T) (Vg rfl (cB c) (aI rfl (aN hST.has Mh rfl Tryz.isAgg111)) (Vg rfl (cB c) (eH Tryz.underlying111 rfl t) (Vg rfl (cB c) (aP rfl rfl rfl) (V (cD (cB c) rfl) ?_))))))
        have hx := sj z; subst hx
        exact Y _ _ ⟨_, (hST.sel St), T, rfl⟩
      refine Vn rfl (cB c) (Vn rfl (cB c) (Vn rfl (cB c) (Vn rfl (cB c) (Vn rfl (cB c) (Vn rfl (cB c) (V (cI (cB c) rfl) ?_))))))
      have hx := sj z; subst hx
      exact Y _ _ ⟨_, (hST.sel St), T, rfl⟩
    refine bC B (fun i B => ?_) (fun i B => ?_)
    · refine Vg rfl (cB i) (aM nK a2) (Vg rfl (cB i) (aI rfl (aN hST.has Mh rfl Tryz.isAgg3)) (Vg rfl (cB i) (aP rfl rfl rfl) (V (cD (cB i) rfl) ?_)))
      have hx := sj B; subst hx
      exact Z _ _ ⟨_, (hST.sel St), a2, rfl⟩
    refine Vn rfl (cB i) (Vn rfl (cB i) (Vn rfl (cB i) (V (cI (cB i) rfl) ?_)))
    have hx := sj B; subst hx
    exact Z _ _ ⟨_, (hST.sel St), a2, rfl⟩
  refine bC D (fun k D => ?_) (fun k D => ?_)
  · refine Vg rfl (cB k) (aM nL Q) (Vg rfl (cB k) (aI rfl (aK hST.has (Mt Mh) (aO a.Role) rfl Tryz.isAgg28 Tryz.sizeOf28)) (Vg rfl (cB k) (aI d0 (aK hST.has Mh (aO K0) rfl Tryz.isAgg28 Tryz.sizeOf28)) (Vg rfl (cB k) (qc rfl rfl (kT Tryz.eqGuardType28) (nP (ot _ a.Role K0))) (V (cD (cB k) rfl) ?_))))
    have hx := sj D; subst hx
    exact a1 _ _ ⟨_, (hST.sel (Db St)), Q, rfl⟩
  refine Vn rfl (cB k) (Vn rfl (cB k) (Vn rfl (cB k) (Vn rfl (cB k) (V (cI (cB k) rfl) ?_))))
  have hx := sj D; subst hx
  exact a1 _ _ ⟨_, (hST.sel (Db St)), Q, rfl⟩
theorem pN (g : Value) (t : List Formula) (j : Value) (z : Formula → Option Bool) (r : Int) (w : World) (c : Sl aH 5 (hp w) g t) (B : nY Tryz.prog j (hp w) (qr aH) (fun (r : Bool) => (.bool r)) z) (hm : jf t z = some r) :
    bW false Tryz.prog 352 [g, j] w (.int .i64 r) := by
  have hST := ST.start (dd := false) w
  unfold jf at hm
  refine cF 19 Tryz.func352 rfl (aC (aA (V (aF rfl) (aD (aG (aC (aC (aA (V (aB rfl) (V (eH Tryz.underlying111 rfl c) (V (aB rfl) (aD (aG (dP (fun i E W => ∃  (k : List (Nat × Obj)), (E 8 = .int .i64 (i : Nat) ∧ E 7 = .int .i64 (t.length : Nat)) ∧ ST false dW w W (hp w) k ∧ E 0 = g ∧ E 1 = j ∧ eB z (t.drop i) i = some r) t.length c.len ⟨_, ⟨rfl, rfl⟩, (hST.sel St), rfl, rfl, hm⟩ (by decide) (by decide) (by decide) (fun _ _ _ h => by obtain ⟨_, eIN, _⟩ := h; exact eIN) ?_ ?_))))))))))))))
  · rintro Q E W G ⟨k, ⟨eI, eN⟩, hST, u, x, a⟩
    obtain ⟨y, U, M, K, N⟩ := dB G
    rw [M] at a
    rw [eB] at a
    refine aU (aC (aA (V (aB eI) (V (aF rfl) (aD (aG (aC (aA (V (aB x) (V (aB u) (V (aB rfl) (VQ (fN (i := (Q : Int)) (x0 := y) aH.out Tryz.underlying111 Tryz.sizeOf113 rfl rfl c (Int.natCast_nonneg _) K) (fun Z ⟨_, ⟨T, rfl, J⟩, H⟩ => V (aI rfl (bN hST.has H Tryz.isAgg113 Tryz.sizeOf113)) (bS a fun a1 I a => ?_))))))))))))))
    refine VE (oT y hST B (aW.refl _) (qr.mk aQ (aH.mk ⟨T, rfl, J⟩) hST.sub_hp) rfl (lQ rfl) I (fun Y hST => aD (aG (CI a rfl (fun D a => ?_) (fun D a => ?_)))))
    · refine aC (aA (V (aB rfl) (V (aF rfl) (aD (aG (aS (gA (cR (gA (cR ?_))))))))))
      have hx := sj a; subst hx
      exact rP hST
    exact aT (cM (aG ⟨eI, _, ⟨rfl, eN⟩, (hST.sel St), u, x, (by rw [N]; exact a)⟩))
  rintro E W ⟨k, ⟨eI, eN⟩, hST, u, x, a⟩
  rw [List.drop_length] at a
  rw [eB] at a
  refine aG (aC (aA (V (aF rfl) (aD (aG (aS ?_))))))
  have hx := sj a; subst hx
  exact rP hST
theorem me (a : Value) (g : List Formula) (c : Value) (i : Formula → Option Bool) (r : Bool) (w : World) (j : Sl aH 5 (hp w) a g) (k : nY Tryz.prog c (hp w) (qr aH) (fun (r : Bool) => (.bool r)) i) (hm : fB g i = some r) :
    bW false Tryz.prog 310 [a, c] w (.bool r) := by
  have hST := ST.start (dd := false) w
  unfold fB at hm
  refine cF 9 Tryz.func310 rfl (aC (aA (V (aF rfl) (aD (aG (aC (aA (V (aB rfl) (V (aB rfl) (bS hm fun x t hm => VE (Eg hST Tryz.call352 ((pN a g c i _ _ (j.mono aQ.mono hST.sub_hp) (k.mono hST.sub_hp) t)) (fun u hST => V (aP rfl rfl rfl) (V (aF rfl) (aD ?_))))))))))))))
  refine aG (aS ?_)
  have hx := sj hm; subst hx
  exact rP hST
theorem tG (i : Formula → Option Bool) (t : ∀ (c : Formula) (a : Value) (r : Bool) (w : World) (g : Sl aH 5 (hp w) a c.Kids), i c = some r → bW false Tryz.prog 215 [(.agg #[(.int .i64 c.Op), (.int .i64 c.K), (.string c.Role.Owner), (.string c.Role.Word), a])] w (.bool r)) (c : Formula) (a : Value) (r : Bool) (w : World) (g : Sl aH 5 (hp w) a c.Kids) (hm : kx i c = some r) :
    bW false Tryz.prog 311 [(.agg #[(.int .i64 c.Op), (.int .i64 c.K), (.string c.Role.Owner), (.string c.Role.Word), a])] w (.bool r) := by
  have hST := ST.start (dd := false) w
  unfold kx at hm
  refine cF 6 Tryz.func311 rfl (aC (aA ?_))
  obtain ⟨j, k, rfl⟩ := g.form
  refine VE (cH (v := (.agg (C2 c.Op c.K c.Role.Owner c.Role.Word j c.Kids.length k).toArray)) hST rfl (fun x z hST => V (aF rfl) (aD (aG (aC (aA (V (aI rfl (aK hST.has Mh (C2 c.Op c.K c.Role.Owner c.Role.Word j c.Kids.length k) rfl Tryz.isAgg113 Tryz.sizeOf113)) (bS hm fun B u hm => VE (Eg hST Tryz.call215 ((t c (.slice j c.Kids.length k) _ _ (g.mono aQ.mono hST.sub_hp) u)) (fun y hST => V (iS rfl) (V (aF rfl) (aD (aG ?_)))))))))))))
  replace hST := hST.sel (Db St)
  refine aS ?_
  have hx := sj hm; subst hx
  exact rP hST
theorem rW (z : Formula → Option Bool) (T : ∀ (a : Formula) (g : Value) (r : Bool) (w : World) (c : Sl aH 5 (hp w) g a.Kids), z a = some r → bW false Tryz.prog 215 [(.agg #[(.int .i64 a.Op), (.int .i64 a.K), (.string a.Role.Owner), (.string a.Role.Word), g])] w (.bool r)) (a : Formula) (g : Value) (r : Bool) (w : World) (c : Sl aH 5 (hp w) g a.Kids) (hm : kM z a = some r) :
    bW false Tryz.prog 215 [(.agg #[(.int .i64 a.Op), (.int .i64 a.K), (.string a.Role.Owner), (.string a.Role.Word), g])] w (.bool r) := by
  have hST := ST.start (dd := false) w
  unfold kM at hm
  refine cF 17 Tryz.func215 rfl (aC (aA ?_))
  obtain ⟨B, D, rfl⟩ := c.form
  refine VE (cH (v := (.agg (C2 a.Op a.K a.Role.Owner a.Role.Word B a.Kids.length D).toArray)) hST rfl (fun W4 U hST => V (aF rfl) (aD (aG (aC (aA (V (aI rfl (aK hST.has Mh (C2 a.Op a.K a.Role.Owner a.Role.Word B a.Kids.length D) rfl Tryz.isAgg113 Tryz.sizeOf113)) (bS hm fun r5 a3 hm => VE (Eg hST Tryz.call309 (bW.weak (wV a (.slice B a.Kids.length D) _ _ (c.mono aQ.mono hST.sub_hp) a3)) (fun W7 hST => V (aB rfl) (LJ hm (fun K E W => ∃  (G : List (Nat × Obj)), ST false dW w W (hp w) ((U, Obj.cells ((C2 a.Op a.K a.Role.Owner a.Role.Word B a.Kids.length D).toArray : Array Value) 113 (0, 0)) :: G) ∧ E 1 = (.pointer (some ⟨U, 0, none⟩)) ∧ E 2 = (.bool false) ∧ E 10 = (.bool K)) 5 ?_ (fun K t y => ?_))))))))))))
  · rintro x9 E W ⟨G, hST, Y, I, Z⟩ M
    refine V (aB Z) (LJ M (fun J E W => ∃  (H : List (Nat × Obj)), ST false dW w W (hp w) H ∧ E 2 = (.bool false) ∧ E 16 = (.bool J)) 5 ?_ (fun J k u => ?_))
    · rintro a8 E W ⟨H, hST, a6, a1⟩ N
      refine V (aF a1) (aD (aG (aS ?_)))
      have hx := sj N; subst hx
      exact rP hST
    refine bC k (fun i k => ?_) (fun i k => ?_)
    · refine Vg rfl (cB i) (aM jL Y) (Vg rfl (cB i) (aI rfl (aN hST.has Mh rfl Tryz.isAgg111)) (bS k fun a7 Q k => np rfl (cB i) (Eg hST Tryz.call310 ((me (.slice B a.Kids.length D) a.Kids (.func (.func 311) #[] #[]) (fun (x : Formula) => kx z x) _ _ (c.mono aQ.mono hST.sub_hp) ⟨311, #[], #[], rfl, Tryz.call311, fun W x vs r hs hR hm => by obtain ⟨_, rfl, a2⟩ := hR; obtain ⟨u0, rfl, k0⟩ := a2.out; exact tG z T x u0 r W k0 hm⟩ Q)) (fun a5 hST => Vg rfl (cB i) (iS rfl) (V (cD (cB i) rfl) ?_)))))
      have hx := sj k; subst hx
      exact u _ _ ⟨_, (hST.sel (Db St)), I, rfl⟩
    refine Vn rfl (cB i) (Vn rfl (cB i) (Vn rfl (cB i) (Vn rfl (cB i) (V (cI (cB i) rfl) ?_))))
    have hx := sj k; subst hx
    exact u _ _ ⟨_, (hST.sel (Db St)), I, rfl⟩
  refine bC t (fun j t => ?_) (fun j t => ?_)
  · refine Vg rfl (cB j) (aM jL rfl) (Vg rfl (cB j) (aI rfl (aN hST.has Mh rfl Tryz.isAgg111)) (Vg rfl (cB j) (eH Tryz.underlying111 rfl c) (Vg rfl (cB j) (aP rfl rfl rfl) (V (cD (cB j) rfl) ?_))))
    have hx := sj t; subst hx
    exact y _ _ ⟨_, (hST.sel St), rfl, rfl, rfl⟩
  refine Vn rfl (cB j) (Vn rfl (cB j) (Vn rfl (cB j) (Vn rfl (cB j) (V (cI (cB j) rfl) ?_))))
  have hx := sj t; subst hx
  exact y _ _ ⟨_, (hST.sel St), rfl, rfl, rfl⟩
theorem qF : ∀ (n : Nat) (c : Formula) (a : Value) (r : Bool) (w : World) (g : Sl aH 5 (hp w) a c.Kids) (_ : jF n c = some r),
    bW false Tryz.prog 215 [(.agg #[(.int .i64 c.Op), (.int .i64 c.K), (.string c.Role.Owner), (.string c.Role.Word), a])] w (.bool r)
  | 0 => by intros; rename_i h; simp only [jF] at h; cases h
  | n + 1 => rW (jF n) (qF n)
theorem nm (a : Formula) (k : Value) (r : Bool) (w : World) (c : Sl aH 5 (hp w) k a.Kids) (hm : iT a = some r) :
    bW false Tryz.prog 107 [(.agg #[(.int .i64 a.Op), (.int .i64 a.K), (.string a.Role.Owner), (.string a.Role.Word), k])] w (.bool r) := by
  have hST := ST.start (dd := false) w
  unfold iT at hm
  refine cF 24 Tryz.func107 rfl (aC (aA ?_))
  obtain ⟨y, z, rfl⟩ := c.form
  refine VE (cH (v := (.agg (C2 a.Op a.K a.Role.Owner a.Role.Word y a.Kids.length z).toArray)) hST rfl (fun W4 H hST => V (aF rfl) (aD (aG (aC (aA (V (aI rfl (aK hST.has Mh (C2 a.Op a.K a.Role.Owner a.Role.Word y a.Kids.length z) rfl Tryz.isAgg113 Tryz.sizeOf113)) (bS hm fun r5 a9 hm => VE (Eg hST Tryz.call214 ((wE a (.slice y a.Kids.length z) _ _ (c.mono aQ.mono hST.sub_hp) a9)) (fun W7 hST => V (aB rfl) (V (bQ rfl rfl) (V (bQ rfl rfl) (V (aF rfl) (V (aF rfl) (aD ?_)))))))))))))))
  refine aG (aC (aA (V (aB rfl) (V (aP rfl rfl rfl) (V (aB rfl) (LJ hm (fun Y E W => ∃  (I : List (Nat × Obj)), ST false dW w W (hp w) ((H, Obj.cells ((C2 a.Op a.K a.Role.Owner a.Role.Word y a.Kids.length z).toArray : Array Value) 113 (0, 0)) :: I) ∧ E 1 = (.pointer (some ⟨H, 0, none⟩)) ∧ E 2 = (.bool false) ∧ E 4 = (.int .i64 r5.2) ∧ E 15 = (.bool Y)) 3 ?_ (fun Y x G => ?_)))))))
  · rintro x9 E W ⟨I, hST, M, N, a4, a5⟩ Z
    refine V (aB a5) (LJ Z (fun U E W => ∃  (J : List (Nat × Obj)), ST false dW w W (hp w) ((H, Obj.cells ((C2 a.Op a.K a.Role.Owner a.Role.Word y a.Kids.length z).toArray : Array Value) 113 (0, 0)) :: J) ∧ E 1 = (.pointer (some ⟨H, 0, none⟩)) ∧ E 2 = (.bool false) ∧ E 19 = (.bool U)) 3 ?_ (fun U u D => ?_))
    · rintro b5 E W ⟨J, hST, a6, Q, a7⟩ a1
      refine V (aB a7) (LJ a1 (fun T E W => ∃  (K : List (Nat × Obj)), ST false dW w W (hp w) K ∧ E 2 = (.bool false) ∧ E 23 = (.bool T)) 3 ?_ (fun T j B => ?_))
      · rintro b6 E W ⟨K, hST, b2, a8⟩ a2
        refine V (aF a8) (aD (aG (aS ?_)))
        have hx := sj a2; subst hx
        exact rP hST
      refine bC j (fun i j => ?_) (fun i j => ?_)
      · refine Vg rfl (cB i) (aI a6 (aK hST.has Mh (C2 a.Op a.K a.Role.Owner a.Role.Word y a.Kids.length z) rfl Tryz.isAgg113 Tryz.sizeOf113)) (bS j fun b4 a3 j => np rfl (cB i) (Eg hST Tryz.call215 (((qF bR) a (.slice y a.Kids.length z) _ _ (c.mono aQ.mono hST.sub_hp) a3)) (fun b1 hST => V (cD (cB i) rfl) ?_)))
        have hx := sj j; subst hx
        exact B _ _ ⟨_, (hST.sel (Db St)), Q, rfl⟩
      refine Vn rfl (cB i) (Vn rfl (cB i) (V (cI (cB i) rfl) ?_))
      have hx := sj j; subst hx
      exact B _ _ ⟨_, (hST.sel (Db St)), Q, rfl⟩
    refine bC u (fun g u => ?_) (fun g u => ?_)
    · refine Vg rfl (cB g) (aB a4) (Vg rfl (cB g) (aP rfl rfl rfl) (V (cD (cB g) rfl) ?_))
      have hx := sj u; subst hx
      exact D _ _ ⟨_, (hST.sel St), M, N, rfl⟩
    refine Vn rfl (cB g) (Vn rfl (cB g) (V (cI (cB g) rfl) ?_))
    have hx := sj u; subst hx
    exact D _ _ ⟨_, (hST.sel St), M, N, rfl⟩
  refine bC x (fun t x => ?_) (fun t x => ?_)
  · refine Vg rfl (cB t) (aB rfl) (Vg rfl (cB t) (aP rfl rfl rfl) (V (cD (cB t) rfl) ?_))
    have hx := sj x; subst hx
    exact G _ _ ⟨_, (hST.sel St), rfl, rfl, rfl, rfl⟩
  refine Vn rfl (cB t) (Vn rfl (cB t) (V (cI (cB t) rfl) ?_))
  have hx := sj x; subst hx
  exact G _ _ ⟨_, (hST.sel St), rfl, rfl, rfl, rfl⟩
theorem po (i : Formula) (g : Value) (x : Int) (r : Bool) (w : World) (c : Sl aH 5 (hp w) g i.Kids) (hm : kc i x = some r) :
    bW true Tryz.prog 433 [(.agg #[(.int .i64 i.Op), (.int .i64 i.K), (.string i.Role.Owner), (.string i.Role.Word), g]), (.int .i64 x)] w (.bool r) := by
  have hST := ST.start (dd := true) w
  unfold kc at hm
  refine cF 15 Tryz.func433 rfl (aC (aA ?_))
  obtain ⟨B, D, rfl⟩ := c.form
  refine VE (cH (v := (.agg (C2 i.Op i.K i.Role.Owner i.Role.Word B i.Kids.length D).toArray)) hST rfl (fun G H hST => V (aF rfl) (aD (aG (aC (aA (V (aM kC rfl) (V (aI rfl (aN hST.has Mh rfl Tryz.isAgg3)) (V (aB rfl) (V (aP rfl rfl rfl) (V (aB rfl) (LJ hm (fun t E W => ∃  (u : List (Nat × Obj)), ST true dW w W (hp w) u ∧ E 4 = (.bool false) ∧ E 14 = (.bool t)) 5 ?_ (fun t j k => ?_)))))))))))))
  · rintro J E W ⟨u, hST, I, y⟩ z
    refine V (aF y) (aD (aG (aS ?_)))
    have hx := sj z; subst hx
    exact rP hST
  refine bC j (fun a j => ?_) (fun a j => ?_)
  · refine Vg rfl (cB a) (aM jL rfl) (Vg rfl (cB a) (aI rfl (aN hST.has Mh rfl Tryz.isAgg111)) (Vg rfl (cB a) (eH Tryz.underlying111 rfl c) (Vg rfl (cB a) (aP rfl rfl rfl) (V (cD (cB a) rfl) ?_))))
    have hx := sj j; subst hx
    exact k _ _ ⟨_, (hST.sel (Db St)), rfl, rfl⟩
  refine Vn rfl (cB a) (Vn rfl (cB a) (Vn rfl (cB a) (Vn rfl (cB a) (V (cI (cB a) rfl) ?_))))
  have hx := sj j; subst hx
  exact k _ _ ⟨_, (hST.sel (Db St)), rfl, rfl⟩
theorem vT  (r : Formula) (w : World) {c : aY} (i : ie c [] w)  (hm : nk  = some r) :
    dO true Tryz.prog 434 [] w c [] (fun v g j => ∃ (a : Value), v = (.agg #[(.int .i64 ((r).Op)), (.int .i64 ((r).K)), (.string (((r).Role).Owner)), (.string (((r).Role).Word)), a]) ∧ g = [] ∧ Sl aH 5 j a ((r).Kids)) := by
  have hST := ST.startE (dd := true) i
  unfold nk at hm
  refine cF 2 Tryz.func434 rfl (aC (aA (VE (cA hST Tryz.zeroValue113 (fun k u hST => aD (aG (aC (aA (V (dX (qs := #[(0, (.int .i64 2))]) (v := (.agg wo.toArray)) (fH rfl) (cV Tryz.zeroValue113 Tryz.underlying113 (nQ _ Tryz.underlying113) (by kernel_rfl))) (VO (aX (.agg wo.toArray) (wo.toArray) hST rfl rfl Tryz.sizeOf113 (by simp [Value.cells, Value.oneCell']) nb rfl (fun t hST => aD (aG (aS ?_))))))))))))))
  have hx := sj hm; subst hx
  exact ju (v := (.agg wo.toArray)) rfl rfl (aK hST.has Mh wo rfl Tryz.isAgg113 Tryz.sizeOf113) ⟨_, _, _, rfl, (hST.bkM Sn), (aW.refl _), Lo.refl, (ST.sub_hpx hST (eQ.mem Sn)), (.slice none 0 0), rfl, rfl, (Sl.nil _ _ _)⟩
theorem xf  (r : Formula) (w : World) {c : aY} (i : ie c [] w)  (hm : nI  = some r) :
    dO true Tryz.prog 435 [] w c [] (fun v g j => ∃ (a : Value), v = (.agg #[(.int .i64 ((r).Op)), (.int .i64 ((r).K)), (.string (((r).Role).Owner)), (.string (((r).Role).Word)), a]) ∧ g = [] ∧ Sl aH 5 j a ((r).Kids)) := by
  have hST := ST.startE (dd := true) i
  unfold nI at hm
  refine cF 2 Tryz.func435 rfl (aC (aA (VE (cA hST Tryz.zeroValue113 (fun k u hST => aD (aG (aC (aA (V (dX (qs := #[(0, (.int .i64 3))]) (v := (.agg BL.toArray)) (fH rfl) (cV Tryz.zeroValue113 Tryz.underlying113 (nQ _ Tryz.underlying113) (by kernel_rfl))) (VO (aX (.agg BL.toArray) (BL.toArray) hST rfl rfl Tryz.sizeOf113 (by simp [Value.cells, Value.oneCell']) nb rfl (fun t hST => aD (aG (aS ?_))))))))))))))
  have hx := sj hm; subst hx
  exact ju (v := (.agg BL.toArray)) rfl rfl (aK hST.has Mh BL rfl Tryz.isAgg113 Tryz.sizeOf113) ⟨_, _, _, rfl, (hST.bkM Sn), (aW.refl _), Lo.refl, (ST.sub_hpx hST (eQ.mem Sn)), (.slice none 0 0), rfl, rfl, (Sl.nil _ _ _)⟩
theorem xO (T : Int) (J : Value) (M : List Formula) (r : List Formula) (w : World) {Q : aY} (h0 : ie Q [] w) (I : Sl aH 5 Q J M) (hm : oc T M = some r) :
    dO true Tryz.prog 437 [(.int .i64 T), J] w Q [] (fun v L1 μ1 => ∃ (y1 : Value), v = y1 ∧ L1 = [] ∧ Sl aH 5 μ1 y1 (r)) := by
  have hST := ST.startE (dd := true) h0
  unfold oc at hm
  refine cF 28 Tryz.func437 rfl (aC (aA (V (aF rfl) (aD (aG (aC (aA (V (aF rfl) (aD (aG (aC (aC (aA (V (aB rfl) ?_))))))))))))))
  refine V (eH Tryz.underlying111 rfl I) (V (aB rfl) (aD (aG (dP (fun i E W => ∃ (t : Value) (G : List Formula) (k : List (Nat × Obj)) (H : List (Nat × Obj)), (E 10 = .int .i64 (i : Nat) ∧ E 9 = .int .i64 (M.length : Nat)) ∧ ST true (keys []) w W Q (k ++ H) ∧ E 0 = (.int .i64 T) ∧ E 5 = t ∧ E 8 = J ∧ bX 113 aH 5 Q t G k ∧ gQ T (M.drop i) G = some r) M.length I.len ⟨(.slice none 0 0), ([]), [], _, ⟨rfl, rfl⟩, (hST.sel St), rfl, rfl, rfl, (bX.nil _ _ _ _), hm⟩ (by decide) (by decide) (by decide) (fun _ _ _ h => by obtain ⟨_, _, _, _, eIN, _⟩ := h; exact eIN) ?_ ?_))))
  · rintro b5 E W a4 ⟨t, G, k, H, ⟨eI, eN⟩, hST, x, y, z, u, c⟩
    obtain ⟨a, b7, a8, a7, K⟩ := dB a4
    rw [a8] at c
    rw [gQ] at c
    refine aU (aC (aA (VQ (fN (i := (b5 : Int)) (x0 := a) aH.out Tryz.underlying111 Tryz.sizeOf113 z eI I (Int.natCast_nonneg _) a7) (fun c8 ⟨_, ⟨c9, rfl, D⟩, a5⟩ => V (aI rfl (bN hST.has a5 Tryz.isAgg113 Tryz.sizeOf113)) (VE (cA hST Tryz.zeroValue113 (fun c0 c5 hST => ?_)))))))
    obtain ⟨g, j, rfl⟩ := D.form
    refine VO (aX (.agg (C2 a.Op a.K a.Role.Owner a.Role.Word g a.Kids.length j).toArray) ((C2 a.Op a.K a.Role.Owner a.Role.Word g a.Kids.length j).toArray) hST rfl rfl Tryz.sizeOf113 (by simp [Value.cells, Value.oneCell']) nb rfl (fun c1 hST => aD (aG (aC (aA (V (aM kC rfl) (V (aI rfl (aN hST.has Mh rfl Tryz.isAgg3)) (V (aB x) (V (aP rfl rfl rfl) (aD (aG (CI c rfl (fun Z c => ?_) (fun Z c => ?_)))))))))))))
    · refine aA (V (aB y) (V (aM jL rfl) (V (aI rfl (aN hST.has Mh rfl Tryz.isAgg111)) ?_)))
      replace hST := hST.perm (Nr (Qb Qz) Nz)
      refine bS c fun b1 a2 c => VE (mJ (B := k) aQ hST (by decide) Tryz.underlying111 gB.1 gB.2.1 rfl gB.2.2.1 gB.2.2.2 rfl rfl u (rJ.sl aQ D hST.sub_hp) a2 (fun c2 b3 a9 hST U => V (aF rfl) (aD (cM (aG ?_)))))
      replace hST := hST.sel (Kr (Db St))
      exact ⟨eI, b3, b1, a9, _, ⟨rfl, eN⟩, (hST.sel St), x, rfl, z, U, (by rw [K]; exact c)⟩
    refine aA (V (aB y) (V (aI rfl (aK hST.has Mh (C2 a.Op a.K a.Role.Owner a.Role.Word g a.Kids.length j) rfl Tryz.isAgg113 Tryz.sizeOf113)) (VE (bU (qs := #[(0, (.agg (C2 a.Op a.K a.Role.Owner a.Role.Word g a.Kids.length j).toArray))]) (cs := (C2 a.Op a.K a.Role.Owner a.Role.Word g a.Kids.length j).toArray) hST (fH rfl) (eF [(.agg (C2 a.Op a.K a.Role.Owner a.Role.Word g a.Kids.length j).toArray)] Tryz.underlying111 Tryz.sizeOf113 Tryz.zeroValue113 (by decide) rfl (by intro v hv; simp only [List.mem_cons, List.not_mem_nil, or_false] at hv; rcases hv with rfl <;> rfl) rfl rfl) (fun c3 c6 hST => ?_)))))
    replace hST := hST.perm (Nr (Qb (Qb Qz)) Nz)
    refine bS c fun b2 a3 c => VE (mJ (B := k) aQ hST (by decide) Tryz.underlying111 gB.1 gB.2.1 rfl gB.2.2.1 gB.2.2.2 rfl rfl u (rJ.lit aQ (l := [a]) (.cons (ys := C2 a.Op a.K a.Role.Owner a.Role.Word g a.Kids.length j) (aH.mk ⟨(.slice g a.Kids.length j), rfl, D⟩) .nil) rfl nb (hST.at_ (Ma Mh))) a3 (fun c4 b4 b0 hST Y => V (aF rfl) (aD (cM (aG ?_)))))
    replace hST := hST.sel (Kr (Db (Db St)))
    exact ⟨eI, b4, b2, b0, _, ⟨rfl, eN⟩, (hST.sel St), x, rfl, z, Y, (by rw [K]; exact c)⟩
  rintro E W ⟨t, G, k, H, ⟨eI, eN⟩, hST, x, y, z, u, c⟩
  rw [List.drop_length] at c
  rw [gQ] at c
  refine aG (aC (aA (V (aB y) (V (aF rfl) (aD (aG (aS ?_)))))))
  have hx := sj c; subst hx
  refine dI (v := t) rfl rfl ?_
  obtain ⟨d1, hST, N, hl199, a6⟩ := ST.pubD aQ hST u
  exact ⟨_, _, _, rfl, (hST.bkM Sn), N, hl199, (ST.sub_hpx hST (eQ.mem Sn)), t, rfl, rfl, a6⟩
theorem qa (a : Formula) (g : Value) (i : Nat) (j : Int) (r : Bool) (w : World) (c : Sl aH 5 (hp w) g a.Kids) (k : At (hp w) (.pointer (some ⟨i, 0, none⟩)) [(.int .i64 j)]) (hm : ii a j = some r) :
    bW true Tryz.prog 438 [(.agg #[(.int .i64 a.Op), (.int .i64 a.K), (.string a.Role.Owner), (.string a.Role.Word), g]), (.pointer (some ⟨i, 0, none⟩))] w (.bool r) := by
  have hST := ST.start (dd := true) w
  unfold ii at hm
  refine cF 7 Tryz.func438 rfl (aC (aA ?_))
  obtain ⟨t, u, rfl⟩ := c.form
  refine VE (cH (v := (.agg (C2 a.Op a.K a.Role.Owner a.Role.Word t a.Kids.length u).toArray)) hST rfl (fun z D hST => V (aF rfl) (aD (aG (aC (aA (V (aI rfl (aK hST.has Mh (C2 a.Op a.K a.Role.Owner a.Role.Word t a.Kids.length u) rfl Tryz.isAgg113 Tryz.sizeOf113)) (V (aI rfl (lZ hST.has (y := (.int .i64 j)) k Tryz.isAgg3)) (bS hm fun G x hm => VE (Eg hST Tryz.call433 ((po a (.slice t a.Kids.length u) j _ _ (c.mono aQ.mono hST.sub_hp) x)) (fun B hST => V (aF rfl) (aD (aG ?_)))))))))))))
  replace hST := hST.sel (Db St)
  refine aS ?_
  have hx := sj hm; subst hx
  exact rP hST
theorem rf (c : Value) (u : List Formula) (r : List Formula) (w : World) {j : aY} (I : ie j [] w) (a : Sl aH 5 j c u) (hm : kq u = some r) :
    dO true Tryz.prog 456 [c] w j [] (fun v G J => ∃ (z : Value) (t : List (Nat × Obj)), v = z ∧ G = (t ++ []) ∧ bX 113 aH 5 J z r t) := by
  have hST := ST.startE (dd := true) I
  unfold kq at hm
  refine cF 8 Tryz.func456 rfl (aC (aA (V (aF rfl) (aD (aG (aC (aC (aA (V (aB rfl) ?_)))))))))
  obtain ⟨D, Q, rfl⟩ := a.form
  refine V (pI Tryz.underlying111 rfl rfl) (aD (aG ?_))
  rcases D with _ | M
  · have y := a.isNil
    replace hm : some [] = some r := by rw [y] at hm; simpa [gT, maxLen] using hm
    refine nF (rfl) (aC (aA (V (aF rfl) (aD (aG (aS (cR ?_)))))))
    have hx := sj hm; subst hx
    refine dI (v := (.slice none 0 0)) rfl rfl ?_
    replace hST := hST.row0
    exact ⟨_, _, _, rfl, (hST.bkM (Kr Sn)), (aW.refl _), Lo.refl, (ST.sub_hpx hST (eQ.mem (Kr Sn))), (.slice none 0 0), [], rfl, rfl, (bX.nil _ _ _ _)⟩
  · refine kp (rfl) (aT (aG (aC (aA (VE (bU (qs := #[]) (cs := #[]) hST lT (eF [] Tryz.underlying111 Tryz.sizeOf113 Tryz.zeroValue113 (by decide) rfl (by simp) rfl rfl) (fun N H hST => V (aB rfl) (bS hm fun T x hm => VE (mJ (B := [(H, Obj.cells (#[] : Array Value) 113 (0, 0))]) aQ hST (by decide) Tryz.underlying111 gB.1 gB.2.1 rfl gB.2.2.1 gB.2.2.2 rfl rfl (bX.lit aQ (l := []) .nil rfl nb rfl) (rJ.sl aQ a hST.sub_hp) x (fun K g k hST i => V (aF rfl) (aD (aG (aS ?_)))))))))))))
    have hx := sj hm; subst hx
    exact dI (v := g) rfl rfl ⟨_, _, _, rfl, (hST.bkM (Kr Sn)), (aW.refl _), Lo.refl, (ST.sub_hpx hST (eQ.mem (Kr Sn))), g, k, rfl, rfl, i⟩
end Go.Proofs.YtmlncblocfcmiaaGreat
