/- a part of a proof of GuardRises -/
import Derived.Test.YtmlncblocfcmiaaGreatGRMg
import Derived.Test.YtmlncblocfcmiaaGreatProg
set_option linter.all false
namespace Go.Proofs.YtmlncblocfcmiaaGreat
open Go.RowKit
set_option maxRecDepth 10000
abbrev K0 : Role := ⟨zS, zS⟩
abbrev K1 : ByteArray := ⟨#[120]⟩
abbrev K2 : ByteArray := ⟨#[121]⟩
abbrev K3 : ByteArray := ⟨#[109, 101]⟩
abbrev K4 : ByteArray := ⟨#[97]⟩
abbrev K5 : ByteArray := ⟨#[114]⟩
abbrev K6 : ByteArray := ⟨#[98]⟩
abbrev K7 : ByteArray := ⟨#[115]⟩
abbrev K9 : ByteArray := ⟨#[121, 111, 117]⟩
abbrev Jw : bW := ⟨0⟩
abbrev Jl : ByteArray := ⟨#[98, 111, 98]⟩
abbrev rQ : Role := ⟨K1, K2⟩
abbrev GY : Role := ⟨K4, K5⟩
abbrev GD : Role := ⟨K6, K7⟩
abbrev Im : Cred := ⟨0, K0, zS, K0, K0, zS⟩
abbrev cI : Cred := ⟨1, rQ, K3, K0, K0, zS⟩
abbrev pN : aB := ⟨1, 0, GD, []⟩
abbrev KX : aB := ⟨1, 0, GY, []⟩
abbrev pL : eO := ⟨rQ, KX, [cI]⟩
abbrev C1 (p0 : Option Addr) (p1 : Nat) (p2 : Nat) : List Value := [(.int .i64 1), (.string (rQ.Owner)), (.string (rQ.Word)), (.string K3), (.string (K0.Owner)), (.string (K0.Word)), (.string (K0.Owner)), (.string (K0.Word)), (.string zS), (.slice p0 p1 p2), (.int .i64 1), (.int .i64 0), (.string K6), (.string K7), (.slice none 0 0)]
abbrev C2 (p0 : Nat) : List Value := [(.string (rQ.Owner)), (.string (rQ.Word)), (.int .i64 1), (.int .i64 0), (.string K4), (.string K5), (.slice none 0 0), (.slice (some ⟨p0, 0, none⟩) 1 1)]
abbrev C3 (p0 : Int) (p1 : Int) (p2 : ByteArray) (p3 : ByteArray) (p4 : Option Addr) (p5 : Nat) (p6 : Nat) : List Value := [(.int .i64 p0), (.int .i64 p1), (.string p2), (.string p3), (.slice p4 p5 p6)]
abbrev C4 (p0 : Int) (p1 : ByteArray) (p2 : ByteArray) (p3 : ByteArray) (p4 : ByteArray) (p5 : ByteArray) (p6 : ByteArray) (p7 : ByteArray) (p8 : ByteArray) (p9 : Option Addr) (p10 : Nat) (p11 : Nat) (p12 : Int) (p13 : Int) (p14 : ByteArray) (p15 : ByteArray) (p16 : Option Addr) (p17 : Nat) (p18 : Nat) : List Value := [(.int .i64 p0), (.string p1), (.string p2), (.string p3), (.string p4), (.string p5), (.string p6), (.string p7), (.string p8), (.slice p9 p10 p11), (.int .i64 p12), (.int .i64 p13), (.string p14), (.string p15), (.slice p16 p17 p18)]
abbrev C5 (p0 : ByteArray) (p1 : Option Addr) (p2 : Nat) (p3 : Nat) (p4 : Option Addr) (p5 : Nat) (p6 : Nat) : List Value := [(.string p0), (.slice p1 p2 p3), (.slice p4 p5 p6)]
abbrev C6 (p0 : Option Addr) (p1 : Nat) (p2 : Nat) : List Value := [(.int .i64 1), (.string (rQ.Owner)), (.string (rQ.Word)), (.string K3), (.string (K0.Owner)), (.string (K0.Word)), (.string (K0.Owner)), (.string (K0.Word)), (.string zS), (.slice p0 p1 p2)]
abbrev C7 (p0 : ByteArray) (p1 : ByteArray) (p2 : Int) (p3 : Int) (p4 : ByteArray) (p5 : ByteArray) (p6 : Option Addr) (p7 : Nat) (p8 : Nat) (p9 : Option Addr) (p10 : Nat) (p11 : Nat) : List Value := [(.string p0), (.string p1), (.int .i64 p2), (.int .i64 p3), (.string p4), (.string p5), (.slice p6 p7 p8), (.slice p9 p10 p11)]
abbrev C8 (p0 : Nat) (p1 : Nat) : List Value := [(.string K3), (.slice (some ⟨p0, 0, none⟩) 1 1), (.slice (some ⟨p1, 0, none⟩) 1 1)]
abbrev C9 (p0 : Int) (p1 : ByteArray) (p2 : ByteArray) (p3 : ByteArray) (p4 : ByteArray) (p5 : ByteArray) (p6 : ByteArray) (p7 : ByteArray) (p8 : ByteArray) (p9 : Option Addr) (p10 : Nat) (p11 : Nat) : List Value := [(.int .i64 p0), (.string p1), (.string p2), (.string p3), (.string p4), (.string p5), (.string p6), (.string p7), (.string p8), (.slice p9 p10 p11)]
abbrev qG : List Value := [(.int .i64 0), (.int .i64 0), (.string zS), (.string zS), (.slice none 0 0)]
abbrev G3 : List Value := [(.int .i64 0), (.string (K0.Owner)), (.string (K0.Word)), (.string zS), (.string (K0.Owner)), (.string (K0.Word)), (.string (K0.Owner)), (.string (K0.Word)), (.string zS), (.slice none 0 0), (.int .i64 0), (.int .i64 0), (.string zS), (.string zS), (.slice none 0 0)]
abbrev wR : List Value := [(.int .i64 1), (.int .i64 0), (.string K4), (.string K5), (.slice none 0 0)]
abbrev wG : List Value := [(.int .i64 1), (.int .i64 0), (.string K6), (.string K7), (.slice none 0 0)]
abbrev Gz (p0 : Int) : List Value := [(.int .i64 p0), (.int .i64 0), (.string zS), (.string zS), (.slice none 0 0)]
abbrev Gs : List Value := [(.int .i64 2), (.int .i64 0), (.string zS), (.string zS), (.slice none 0 0)]
abbrev Gx : List Value := [(.int .i64 3), (.int .i64 0), (.string zS), (.string zS), (.slice none 0 0)]
theorem cC : Tryz.prog.follows .mixedOrders = true := by rfl
theorem dZ : Tryz.prog.info? 5 = some Tryz.t5 ∧ Tryz.t5.zero = some (.int .u8 0) ∧ Tryz.t5.size = 1 ∧ Tryz.t5.bytes = 1 := ⟨by kernel_rfl, by kernel_rfl, by kernel_rfl, by kernel_rfl⟩
theorem rE : Tryz.prog.info? 28 = some Tryz.t28 ∧ Tryz.t28.zero = some (.agg #[(.string ⟨#[]⟩), (.string ⟨#[]⟩)]) ∧ Tryz.t28.size = 2 ∧ Tryz.t28.bytes = 32 := ⟨by kernel_rfl, by kernel_rfl, by kernel_rfl, by kernel_rfl⟩
theorem Bm : Tryz.prog.info? 38 = some Tryz.t38 ∧ Tryz.t38.zero = some (.agg #[(.string ⟨#[]⟩), (.string ⟨#[]⟩), (.string ⟨#[]⟩)]) ∧ Tryz.t38.size = 3 ∧ Tryz.t38.bytes = 48 := ⟨by kernel_rfl, by kernel_rfl, by kernel_rfl, by kernel_rfl⟩
theorem fT : Tryz.prog.info? 53 = some Tryz.t53 ∧ Tryz.t53.zero = some (.agg #[(.int .i64 0), (.string ⟨#[]⟩), (.string ⟨#[]⟩), (.string ⟨#[]⟩), (.string ⟨#[]⟩), (.string ⟨#[]⟩), (.string ⟨#[]⟩), (.string ⟨#[]⟩), (.string ⟨#[]⟩)]) ∧ Tryz.t53.size = 9 ∧ Tryz.t53.bytes = 136 := ⟨by kernel_rfl, by kernel_rfl, by kernel_rfl, by kernel_rfl⟩
theorem gV : Tryz.prog.info? 113 = some Tryz.t113 ∧ Tryz.t113.zero = some (.agg #[(.int .i64 0), (.int .i64 0), (.string ⟨#[]⟩), (.string ⟨#[]⟩), (.slice none 0 0)]) ∧ Tryz.t113.size = 5 ∧ Tryz.t113.bytes = 72 := ⟨by kernel_rfl, by kernel_rfl, by kernel_rfl, by kernel_rfl⟩
theorem zO : Tryz.prog.info? 263 = some Tryz.t263 ∧ Tryz.t263.zero = some (.agg #[(.string ⟨#[]⟩), (.string ⟨#[]⟩), (.int .i64 0), (.int .i64 0), (.string ⟨#[]⟩), (.string ⟨#[]⟩), (.slice none 0 0), (.slice none 0 0)]) ∧ Tryz.t263.size = 8 ∧ Tryz.t263.bytes = 128 := ⟨by kernel_rfl, by kernel_rfl, by kernel_rfl, by kernel_rfl⟩
theorem qM : eE Tryz.prog 28 0 0 := cW Tryz.underlying28 rfl Tryz.sizeOf9 (by decide) rfl
theorem te : eE Tryz.prog 28 1 1 := cW Tryz.underlying28 rfl Tryz.sizeOf9 (by decide) rfl
theorem HS : (Tryz.prog.fieldsOf 28).toList = (match Tryz.prog.underlying 28 with | some (.struct fs) => fs.toList | _ => []) := by rw [Tryz.underlying28]; simp [Program.fieldsOf, Tryz.underlying28]
theorem sg (d : Nat) (x y : Role) (W : World) : (Op.equalIn (d + 2) 28 (.agg (aO x).toArray) (.agg (aO y).toArray)).run Tryz.prog W = .ok (bA x y) W := by
  rw [run_equalIn_struct W (d + 1) 28 _ _ (by kernel_rfl) Tryz.stoodInHeld28, HS, Tryz.underlying28]
  exact (mN (by decide) (nX Tryz.isAgg9 rfl) (nX Tryz.isAgg9 rfl) (Ia Tryz.underlying9 _ _ _ _) (mN (by decide) (nX Tryz.isAgg9 rfl) (nX Tryz.isAgg9 rfl) (Ia Tryz.underlying9 _ _ _ _) (zn _ _ _)))
theorem DU : ∀ fs, Tryz.prog.underlying 28 = some (.struct fs) → ∀ w, (fs.mapM (fun (f : Field) => do pure (f.offset, ← sizeOf f.type)) : Sem (Array (Nat × Nat))).run Tryz.prog w = .ok #[(0, 1), (1, 1)] w := by
  intro fs h w
  rw [Tryz.underlying28] at h
  cases h
  kernel_rfl
theorem uq : eE Tryz.prog 53 0 0 := cW Tryz.underlying53 rfl Tryz.sizeOf3 (by decide) rfl
theorem oA : eE Tryz.prog 53 1 1 := cW Tryz.underlying53 rfl Tryz.sizeOf28 (by decide) rfl
theorem xG : eE Tryz.prog 53 2 3 := cW Tryz.underlying53 rfl Tryz.sizeOf9 (by decide) rfl
theorem kR : eE Tryz.prog 53 3 4 := cW Tryz.underlying53 rfl Tryz.sizeOf28 (by decide) rfl
theorem un : eE Tryz.prog 53 4 6 := cW Tryz.underlying53 rfl Tryz.sizeOf28 (by decide) rfl
theorem uX : eE Tryz.prog 53 5 8 := cW Tryz.underlying53 rfl Tryz.sizeOf9 (by decide) rfl
theorem H0 : (Tryz.prog.fieldsOf 53).toList = (match Tryz.prog.underlying 53 with | some (.struct fs) => fs.toList | _ => []) := by rw [Tryz.underlying53]; simp [Program.fieldsOf, Tryz.underlying53]
theorem tN (d : Nat) (x y : Cred) (W : World) : (Op.equalIn (d + 3) 53 (.agg (aI x).toArray) (.agg (aI y).toArray)).run Tryz.prog W = .ok (fB x y) W := by
  rw [run_equalIn_struct W (d + 2) 53 _ _ (by kernel_rfl) Tryz.stoodInHeld53, H0, Tryz.underlying53]
  exact (mN (by decide) (nX Tryz.isAgg3 rfl) (nX Tryz.isAgg3 rfl) (KW Tryz.underlying3 _ _ _ _) (mN (by decide) (uM Tryz.isAgg28 Tryz.sizeOf28 rfl) (uM Tryz.isAgg28 Tryz.sizeOf28 rfl) (sg _ x.Head y.Head W) (mN (by decide) (nX Tryz.isAgg9 rfl) (nX Tryz.isAgg9 rfl) (Ia Tryz.underlying9 _ _ _ _) (mN (by decide) (uM Tryz.isAgg28 Tryz.sizeOf28 rfl) (uM Tryz.isAgg28 Tryz.sizeOf28 rfl) (sg _ x.B y.B W) (mN (by decide) (uM Tryz.isAgg28 Tryz.sizeOf28 rfl) (uM Tryz.isAgg28 Tryz.sizeOf28 rfl) (sg _ x.C y.C W) (mN (by decide) (nX Tryz.isAgg9 rfl) (nX Tryz.isAgg9 rfl) (Ia Tryz.underlying9 _ _ _ _) (zn _ _ _)))))))
theorem Fp : ∀ fs, Tryz.prog.underlying 53 = some (.struct fs) → ∀ w, (fs.mapM (fun (f : Field) => do pure (f.offset, ← sizeOf f.type)) : Sem (Array (Nat × Nat))).run Tryz.prog w = .ok #[(0, 1), (1, 2), (3, 1), (4, 2), (6, 2), (8, 1)] w := by
  intro fs h w
  rw [Tryz.underlying53] at h
  cases h
  kernel_rfl
theorem Du : eE Tryz.prog 38 0 0 := cW Tryz.underlying38 rfl Tryz.sizeOf28 (by decide) rfl
theorem xD : eE Tryz.prog 38 1 2 := cW Tryz.underlying38 rfl Tryz.sizeOf9 (by decide) rfl
theorem JQ : ∀ fs, Tryz.prog.underlying 38 = some (.struct fs) → ∀ w, (fs.mapM (fun (f : Field) => do pure (f.offset, ← sizeOf f.type)) : Sem (Array (Nat × Nat))).run Tryz.prog w = .ok #[(0, 2), (2, 1)] w := by
  intro fs h w
  rw [Tryz.underlying38] at h
  cases h
  kernel_rfl
theorem EN : eE Tryz.prog 376 0 0 := cW Tryz.underlying376 rfl Tryz.sizeOf57 (by decide) rfl
theorem Kc : ∀ fs, Tryz.prog.underlying 376 = some (.struct fs) → ∀ w, (fs.mapM (fun (f : Field) => do pure (f.offset, ← sizeOf f.type)) : Sem (Array (Nat × Nat))).run Tryz.prog w = .ok #[(0, 1)] w := by
  intro fs h w
  rw [Tryz.underlying376] at h
  cases h
  kernel_rfl
theorem In : eE Tryz.prog 196 0 0 := cW Tryz.underlying196 rfl Tryz.sizeOf9 (by decide) rfl
theorem I5 : eE Tryz.prog 196 1 1 := cW Tryz.underlying196 rfl Tryz.sizeOf54 (by decide) rfl
theorem ue : eE Tryz.prog 56 0 0 := cW Tryz.underlying56 rfl Tryz.sizeOf53 (by decide) rfl
theorem Ea : eE Tryz.prog 56 1 9 := cW Tryz.underlying56 rfl Tryz.sizeOf54 (by decide) rfl
theorem yo : ∀ fs, Tryz.prog.underlying 56 = some (.struct fs) → ∀ w, (fs.mapM (fun (f : Field) => do pure (f.offset, ← sizeOf f.type)) : Sem (Array (Nat × Nat))).run Tryz.prog w = .ok #[(0, 9), (9, 1)] w := by
  intro fs h w
  rw [Tryz.underlying56] at h
  cases h
  kernel_rfl
theorem I7 : eE Tryz.prog 212 0 0 := cW Tryz.underlying212 rfl Tryz.sizeOf210 (by decide) rfl
theorem wv : eE Tryz.prog 92 0 0 := cW Tryz.underlying92 rfl Tryz.sizeOf54 (by decide) rfl
theorem J6 : ∀ fs, Tryz.prog.underlying 92 = some (.struct fs) → ∀ w, (fs.mapM (fun (f : Field) => do pure (f.offset, ← sizeOf f.type)) : Sem (Array (Nat × Nat))).run Tryz.prog w = .ok #[(0, 1)] w := by
  intro fs h w
  rw [Tryz.underlying92] at h
  cases h
  kernel_rfl
theorem nR : eE Tryz.prog 113 0 0 := cW Tryz.underlying113 rfl Tryz.sizeOf3 (by decide) rfl
theorem sO : eE Tryz.prog 113 1 1 := cW Tryz.underlying113 rfl Tryz.sizeOf3 (by decide) rfl
theorem qK : eE Tryz.prog 113 2 2 := cW Tryz.underlying113 rfl Tryz.sizeOf28 (by decide) rfl
theorem lK : eE Tryz.prog 113 3 4 := cW Tryz.underlying113 rfl Tryz.sizeOf111 (by decide) rfl
theorem tu : ∀ fs, Tryz.prog.underlying 113 = some (.struct fs) → ∀ w, (fs.mapM (fun (f : Field) => do pure (f.offset, ← sizeOf f.type)) : Sem (Array (Nat × Nat))).run Tryz.prog w = .ok #[(0, 1), (1, 1), (2, 2), (4, 1)] w := by
  intro fs h w
  rw [Tryz.underlying113] at h
  cases h
  kernel_rfl
theorem sL : eE Tryz.prog 138 0 0 := cW Tryz.underlying138 rfl Tryz.sizeOf56 (by decide) rfl
theorem Ce : eE Tryz.prog 138 1 10 := cW Tryz.underlying138 rfl Tryz.sizeOf113 (by decide) rfl
theorem uP : ∀ fs, Tryz.prog.underlying 138 = some (.struct fs) → ∀ w, (fs.mapM (fun (f : Field) => do pure (f.offset, ← sizeOf f.type)) : Sem (Array (Nat × Nat))).run Tryz.prog w = .ok #[(0, 10), (10, 5)] w := by
  intro fs h w
  rw [Tryz.underlying138] at h
  cases h
  kernel_rfl
theorem uF : eE Tryz.prog 263 0 0 := cW Tryz.underlying263 rfl Tryz.sizeOf28 (by decide) rfl
theorem zV : eE Tryz.prog 263 1 2 := cW Tryz.underlying263 rfl Tryz.sizeOf113 (by decide) rfl
theorem zW : eE Tryz.prog 263 2 7 := cW Tryz.underlying263 rfl Tryz.sizeOf22 (by decide) rfl
theorem vD : ∀ fs, Tryz.prog.underlying 263 = some (.struct fs) → ∀ w, (fs.mapM (fun (f : Field) => do pure (f.offset, ← sizeOf f.type)) : Sem (Array (Nat × Nat))).run Tryz.prog w = .ok #[(0, 2), (2, 5), (7, 1)] w := by
  intro fs h w
  rw [Tryz.underlying263] at h
  cases h
  kernel_rfl
theorem Fe : eE Tryz.prog 110 0 0 := cW Tryz.underlying110 rfl Tryz.sizeOf9 (by decide) rfl
theorem sE : eE Tryz.prog 110 1 1 := cW Tryz.underlying110 rfl Tryz.sizeOf107 (by decide) rfl
theorem vP : eE Tryz.prog 110 2 2 := cW Tryz.underlying110 rfl Tryz.sizeOf108 (by decide) rfl
theorem iO : ∀ fs, Tryz.prog.underlying 110 = some (.struct fs) → ∀ w, (fs.mapM (fun (f : Field) => do pure (f.offset, ← sizeOf f.type)) : Sem (Array (Nat × Nat))).run Tryz.prog w = .ok #[(0, 1), (1, 1), (2, 1)] w := by
  intro fs h w
  rw [Tryz.underlying110] at h
  cases h
  kernel_rfl
theorem sM : eE Tryz.prog 294 0 0 := cW Tryz.underlying294 rfl Tryz.sizeOf290 (by decide) rfl
theorem Cd : eE Tryz.prog 294 1 1 := cW Tryz.underlying294 rfl Tryz.sizeOf22 (by decide) rfl
theorem Fa : eE Tryz.prog 294 2 2 := cW Tryz.underlying294 rfl Tryz.sizeOf291 (by decide) rfl
theorem BU : eE Tryz.prog 294 3 3 := cW Tryz.underlying294 rfl Tryz.sizeOf292 (by decide) rfl
theorem vN : eE Tryz.prog 294 4 4 := cW Tryz.underlying294 rfl Tryz.sizeOf68 (by decide) rfl
theorem zL : eE Tryz.prog 294 5 5 := cW Tryz.underlying294 rfl Tryz.sizeOf3 (by decide) rfl
theorem Kg : ∀ fs, Tryz.prog.underlying 294 = some (.struct fs) → ∀ w, (fs.mapM (fun (f : Field) => do pure (f.offset, ← sizeOf f.type)) : Sem (Array (Nat × Nat))).run Tryz.prog w = .ok #[(0, 1), (1, 1), (2, 1), (3, 1), (4, 1), (5, 1)] w := by
  intro fs h w
  rw [Tryz.underlying294] at h
  cases h
  kernel_rfl
def xW : jX Key := fun μ ys x => ∃ (v0 : Value), ys = [.string x.Who, v0] ∧ Sl (Pl (bV .u8)) 1 μ v0 x.Key
theorem xW.out {μ : bD} {ys : List Value} {x : Key} (h : xW μ ys x) : ∃ (v0 : Value), ys = [.string x.Who, v0] ∧ Sl (Pl (bV .u8)) 1 μ v0 x.Key := h
theorem xW.mk {μ : bD} {ys : List Value} {x : Key} (h : ∃ (v0 : Value), ys = [.string x.Who, v0] ∧ Sl (Pl (bV .u8)) 1 μ v0 x.Key) : xW μ ys x := h
def oM : jX Signed := fun μ ys x => ∃ (v0 : Value), ys = [.int .i64 x.Cred.Kind, .string x.Cred.Head.Owner, .string x.Cred.Head.Word, .string x.Cred.Who, .string x.Cred.B.Owner, .string x.Cred.B.Word, .string x.Cred.C.Owner, .string x.Cred.C.Word, .string x.Cred.Word2, v0] ∧ Sl (Pl (bV .u8)) 1 μ v0 x.Tag
theorem oM.out {μ : bD} {ys : List Value} {x : Signed} (h : oM μ ys x) : ∃ (v0 : Value), ys = [.int .i64 x.Cred.Kind, .string x.Cred.Head.Owner, .string x.Cred.Head.Word, .string x.Cred.Who, .string x.Cred.B.Owner, .string x.Cred.B.Word, .string x.Cred.C.Owner, .string x.Cred.C.Word, .string x.Cred.Word2, v0] ∧ Sl (Pl (bV .u8)) 1 μ v0 x.Tag := h
theorem oM.mk {μ : bD} {ys : List Value} {x : Signed} (h : ∃ (v0 : Value), ys = [.int .i64 x.Cred.Kind, .string x.Cred.Head.Owner, .string x.Cred.Head.Word, .string x.Cred.Who, .string x.Cred.B.Owner, .string x.Cred.B.Word, .string x.Cred.C.Owner, .string x.Cred.C.Word, .string x.Cred.Word2, v0] ∧ Sl (Pl (bV .u8)) 1 μ v0 x.Tag) : oM μ ys x := h
theorem vK : Deep oM 10 where
  mono := by rintro _ _ _ _ hs ⟨v0, rfl, h0⟩; exact ⟨v0, rfl, h0.mono (Pl.mono _) hs⟩
  len := by rintro _ _ _ ⟨v0, rfl, h0⟩; rfl
  one := by
    rintro _ _ _ ⟨v0, rfl, h0⟩
    intro u hu; simp only [List.mem_cons, List.not_mem_nil, or_false] at hu; rcases hu with rfl | rfl | rfl | rfl | rfl | rfl | rfl | rfl | rfl | rfl
    · rfl
    · rfl
    · rfl
    · rfl
    · rfl
    · rfl
    · rfl
    · rfl
    · rfl
    · exact h0.cell1
def jG : jX kT := fun μ ys x => ∃ (v0 : Value), ys = [v0] ∧ mS Value.string (bI 5 (bV .u8) 1) μ v0 x.m
theorem jG.out {μ : bD} {ys : List Value} {x : kT} (h : jG μ ys x) : ∃ (v0 : Value), ys = [v0] ∧ mS Value.string (bI 5 (bV .u8) 1) μ v0 x.m := h
theorem jG.mk {μ : bD} {ys : List Value} {x : kT} (h : ∃ (v0 : Value), ys = [v0] ∧ mS Value.string (bI 5 (bV .u8) 1) μ v0 x.m) : jG μ ys x := h
theorem yB : Deep jG 1 where
  mono := by rintro _ _ _ _ hs ⟨v0, rfl, h0⟩; exact ⟨v0, rfl, h0.mono  hs⟩
  len := by rintro _ _ _ ⟨v0, rfl, h0⟩; rfl
  one := by
    rintro _ _ _ ⟨v0, rfl, h0⟩
    intro u hu; simp only [List.mem_cons, List.not_mem_nil, or_false] at hu; rcases hu with rfl
    · exact h0.cell1
def tg : Nat → jX aB
  | 0 => fun _ _ _ => False
  | n + 1 => fun μ ys x => ∃ (v0 : Value), ys = [.int .i64 x.Op, .int .i64 x.K, .string x.Role.Owner, .string x.Role.Word, v0] ∧ Sl (tg n) 5 μ v0 x.Kids
def aK : jX aB := fun μ ys x => ∃ n, tg n μ ys x
theorem zH : ∀ n, Br (tg n)
  | 0 => fun _ _ _ _ _ h => h
  | n + 1 => by rintro _ _ _ _ hs ⟨v0, rfl, h0⟩; exact ⟨v0, rfl, h0.mono (zH n) hs⟩
theorem Bq : ∀ n m (μ : bD) (ys : List Value) (x : aB), n ≤ m → tg n μ ys x → tg m μ ys x
  | 0, _, _, _, _, _, h => h.elim
  | n + 1, 0, _, _, _, hl, _ => absurd hl (by omega)
  | n + 1, m + 1, μ, ys, x, hl, h => by
    obtain ⟨v0, rfl, h0⟩ := h
    exact ⟨v0, rfl, h0.imp fun ys x h => Bq n m μ ys x (by omega) h⟩
theorem aK.out {μ : bD} {ys : List Value} {x : aB} (h : aK μ ys x) : ∃ (v0 : Value), ys = [.int .i64 x.Op, .int .i64 x.K, .string x.Role.Owner, .string x.Role.Word, v0] ∧ Sl aK 5 μ v0 x.Kids := by
  obtain ⟨n, h⟩ := h
  cases n with
  | zero => exact h.elim
  | succ n =>
    obtain ⟨v0, rfl, h0⟩ := h
    exact ⟨v0, rfl, h0.imp fun ys x h => ⟨n, h⟩⟩
theorem aK.mk {μ : bD} {ys : List Value} {x : aB} (h : ∃ (v0 : Value), ys = [.int .i64 x.Op, .int .i64 x.K, .string x.Role.Owner, .string x.Role.Word, v0] ∧ Sl aK 5 μ v0 x.Kids) : aK μ ys x := by
  obtain ⟨v0, rfl, h0⟩ := h
  obtain ⟨n, hn⟩ := h0.bound (fun _ _ h => h) (fun a b ys x hl h => Bq a b _ ys x hl h)
  exact ⟨n + 1, v0, rfl, hn⟩
theorem aV : Deep aK 5 where
  mono := fun _ _ _ _ hs ⟨n, h⟩ => ⟨n, zH n _ _ _ _ hs h⟩
  len := by rintro _ _ _ h; obtain ⟨v0, rfl, h0⟩ := h.out; rfl
  one := by
    rintro _ _ _ h
    obtain ⟨v0, rfl, h0⟩ := h.out
    intro u hu; simp only [List.mem_cons, List.not_mem_nil, or_false] at hu; rcases hu with rfl | rfl | rfl | rfl | rfl
    · rfl
    · rfl
    · rfl
    · rfl
    · exact h0.cell1
def bF : jX bK := fun μ ys x => ∃ (v0 : Value) (v1 : Value), ys = [.int .i64 x.Signed.Cred.Kind, .string x.Signed.Cred.Head.Owner, .string x.Signed.Cred.Head.Word, .string x.Signed.Cred.Who, .string x.Signed.Cred.B.Owner, .string x.Signed.Cred.B.Word, .string x.Signed.Cred.C.Owner, .string x.Signed.Cred.C.Word, .string x.Signed.Cred.Word2, v0, .int .i64 x.Release.Op, .int .i64 x.Release.K, .string x.Release.Role.Owner, .string x.Release.Role.Word, v1] ∧ Sl (Pl (bV .u8)) 1 μ v0 x.Signed.Tag ∧ Sl aK 5 μ v1 x.Release.Kids
theorem bF.out {μ : bD} {ys : List Value} {x : bK} (h : bF μ ys x) : ∃ (v0 : Value) (v1 : Value), ys = [.int .i64 x.Signed.Cred.Kind, .string x.Signed.Cred.Head.Owner, .string x.Signed.Cred.Head.Word, .string x.Signed.Cred.Who, .string x.Signed.Cred.B.Owner, .string x.Signed.Cred.B.Word, .string x.Signed.Cred.C.Owner, .string x.Signed.Cred.C.Word, .string x.Signed.Cred.Word2, v0, .int .i64 x.Release.Op, .int .i64 x.Release.K, .string x.Release.Role.Owner, .string x.Release.Role.Word, v1] ∧ Sl (Pl (bV .u8)) 1 μ v0 x.Signed.Tag ∧ Sl aK 5 μ v1 x.Release.Kids := h
theorem bF.mk {μ : bD} {ys : List Value} {x : bK} (h : ∃ (v0 : Value) (v1 : Value), ys = [.int .i64 x.Signed.Cred.Kind, .string x.Signed.Cred.Head.Owner, .string x.Signed.Cred.Head.Word, .string x.Signed.Cred.Who, .string x.Signed.Cred.B.Owner, .string x.Signed.Cred.B.Word, .string x.Signed.Cred.C.Owner, .string x.Signed.Cred.C.Word, .string x.Signed.Cred.Word2, v0, .int .i64 x.Release.Op, .int .i64 x.Release.K, .string x.Release.Role.Owner, .string x.Release.Role.Word, v1] ∧ Sl (Pl (bV .u8)) 1 μ v0 x.Signed.Tag ∧ Sl aK 5 μ v1 x.Release.Kids) : bF μ ys x := h
theorem bR : Deep bF 15 where
  mono := by rintro _ _ _ _ hs ⟨v0, v1, rfl, h0, h1⟩; exact ⟨v0, v1, rfl, h0.mono (Pl.mono _) hs, h1.mono aV.mono hs⟩
  len := by rintro _ _ _ ⟨v0, v1, rfl, h0, h1⟩; rfl
  one := by
    rintro _ _ _ ⟨v0, v1, rfl, h0, h1⟩
    intro u hu; simp only [List.mem_cons, List.not_mem_nil, or_false] at hu; rcases hu with rfl | rfl | rfl | rfl | rfl | rfl | rfl | rfl | rfl | rfl | rfl | rfl | rfl | rfl | rfl
    · rfl
    · rfl
    · rfl
    · rfl
    · rfl
    · rfl
    · rfl
    · rfl
    · rfl
    · exact h0.cell1
    · rfl
    · rfl
    · rfl
    · rfl
    · exact h1.cell1
def cD : jX eO := fun μ ys x => ∃ (v0 : Value) (v1 : Value), ys = [.string x.Role.Owner, .string x.Role.Word, .int .i64 x.Release.Op, .int .i64 x.Release.K, .string x.Release.Role.Owner, .string x.Release.Role.Word, v0, v1] ∧ Sl aK 5 μ v0 x.Release.Kids ∧ Sl (Pl aI) 9 μ v1 x.Closure
theorem cD.out {μ : bD} {ys : List Value} {x : eO} (h : cD μ ys x) : ∃ (v0 : Value) (v1 : Value), ys = [.string x.Role.Owner, .string x.Role.Word, .int .i64 x.Release.Op, .int .i64 x.Release.K, .string x.Release.Role.Owner, .string x.Release.Role.Word, v0, v1] ∧ Sl aK 5 μ v0 x.Release.Kids ∧ Sl (Pl aI) 9 μ v1 x.Closure := h
theorem cD.mk {μ : bD} {ys : List Value} {x : eO} (h : ∃ (v0 : Value) (v1 : Value), ys = [.string x.Role.Owner, .string x.Role.Word, .int .i64 x.Release.Op, .int .i64 x.Release.K, .string x.Release.Role.Owner, .string x.Release.Role.Word, v0, v1] ∧ Sl aK 5 μ v0 x.Release.Kids ∧ Sl (Pl aI) 9 μ v1 x.Closure) : cD μ ys x := h
theorem dR : Deep cD 8 where
  mono := by rintro _ _ _ _ hs ⟨v0, v1, rfl, h0, h1⟩; exact ⟨v0, v1, rfl, h0.mono aV.mono hs, h1.mono (Pl.mono _) hs⟩
  len := by rintro _ _ _ ⟨v0, v1, rfl, h0, h1⟩; rfl
  one := by
    rintro _ _ _ ⟨v0, v1, rfl, h0, h1⟩
    intro u hu; simp only [List.mem_cons, List.not_mem_nil, or_false] at hu; rcases hu with rfl | rfl | rfl | rfl | rfl | rfl | rfl | rfl
    · rfl
    · rfl
    · rfl
    · rfl
    · rfl
    · rfl
    · exact h0.cell1
    · exact h1.cell1
theorem Av : jE Tryz.prog 9 Value.string cQ := jE.string Tryz.underlying9
theorem vp : jE Tryz.prog 28 (fun (x : Role) => (.agg (aO x).toArray)) bA :=
  jE.struct Tryz.underlying28 (fun d x y W => sg (d + 8) x y W) (fun b k W => BC Tryz.underlying28 rfl (List.forall_mem_cons.2 ⟨fun _ => ⟨.string k.Owner, nX Tryz.isAgg9 rfl, uu Tryz.underlying9 _ _ _ _⟩, (List.forall_mem_cons.2 ⟨fun _ => ⟨.string k.Word, nX Tryz.isAgg9 rfl, uu Tryz.underlying9 _ _ _ _⟩, (fun _ h => by cases h)⟩)⟩))
    (fun k x h => (aZ.1 h).symm) (fun k => by simp [Instr.sameBits, aO, zh, eP])
theorem rx (g : Value) (t : List bK) (j : Value) (z : bK → Option Bool) (r : Int) (w : World) (c : Sl bF 15 (hp w) g t) (B : sf Tryz.prog j (hp w) (uG bF) (fun (r : Bool) => (.bool r)) z) (hm : gL t z = some r) :
    bO false Tryz.prog 184 [g, j] w (.int .i64 r) := by
  have hST := ST.start (dd := false) w
  unfold gL at hm
  refine cF 19 Tryz.func184 rfl (aD (aA (V (aG rfl) (aF (aH (aD (aD (aA (V (aC rfl) (V (dO Tryz.underlying107 rfl c) (V (aC rfl) (aF (aH (dA (fun i E W => ∃  (k : List (Nat × Obj)), (E 8 = .int .i64 (i : Nat) ∧ E 7 = .int .i64 (t.length : Nat)) ∧ ST false dC w W (hp w) k ∧ E 0 = g ∧ E 1 = j ∧ eK z (t.drop i) i = some r) t.length c.len ⟨_, ⟨rfl, rfl⟩, (hST.sel St), rfl, rfl, hm⟩ (by decide) (by decide) (by decide) (fun _ _ _ h => by obtain ⟨_, eIN, _⟩ := h; exact eIN) ?_ ?_))))))))))))))
  · rintro T E W G ⟨k, ⟨eI, eN⟩, hST, u, x, a⟩
    obtain ⟨y, Z, N, M, Q⟩ := cR G
    rw [N] at a
    rw [eK] at a
    refine aY (aD (aA (V (aC eI) (V (aG rfl) (aF (aH (aD (aA (V (aC x) (V (aC u) (V (aC rfl) (VQ (eV (i := (T : Int)) (x0 := y) bF.out Tryz.underlying107 Tryz.sizeOf138 rfl rfl c (Int.natCast_nonneg _) M) (fun a2 ⟨_, ⟨U, Y, rfl, J, K⟩, H⟩ => V (aJ rfl (bN hST.has H Tryz.isAgg138 Tryz.sizeOf138)) (bS a fun a3 I a => ?_))))))))))))))
    refine VE (ut y hST B (bE.refl _) (uG.mk bR (bF.mk ⟨U, Y, rfl, J, K⟩) hST.sub_hp) rfl (tG rfl) I (fun a1 hST => aF (aH (CI a rfl (fun D a => ?_) (fun D a => ?_)))))
    · refine aD (aA (V (aC rfl) (V (aG rfl) (aF (aH (aU (fE (cU (fE (cU ?_))))))))))
      have hx := sj a; subst hx
      exact rP hST
    exact aX (cL (aH ⟨eI, _, ⟨rfl, eN⟩, (hST.sel St), u, x, (by rw [Q]; exact a)⟩))
  rintro E W ⟨k, ⟨eI, eN⟩, hST, u, x, a⟩
  rw [List.drop_length] at a
  rw [eK] at a
  refine aH (aD (aA (V (aG rfl) (aF (aH (aU ?_))))))
  have hx := sj a; subst hx
  exact rP hST
theorem BK (a : bK) (g : Value) (c : Value) (k : Nat) (u : Cred) (r : Bool) (w : World) (j : Sl (Pl (bV .u8)) 1 (hp w) g a.Signed.Tag) (i : Sl aK 5 (hp w) c a.Release.Kids) (t : At (hp w) (.pointer (some ⟨k, 0, none⟩)) (aI u)) (hm : pR a u = some r) :
    bO true Tryz.prog 305 [(.agg #[(.int .i64 a.Signed.Cred.Kind), (.string a.Signed.Cred.Head.Owner), (.string a.Signed.Cred.Head.Word), (.string a.Signed.Cred.Who), (.string a.Signed.Cred.B.Owner), (.string a.Signed.Cred.B.Word), (.string a.Signed.Cred.C.Owner), (.string a.Signed.Cred.C.Word), (.string a.Signed.Cred.Word2), g, (.int .i64 a.Release.Op), (.int .i64 a.Release.K), (.string a.Release.Role.Owner), (.string a.Release.Role.Word), c]), (.pointer (some ⟨k, 0, none⟩))] w (.bool r) := by
  have hST := ST.start (dd := true) w
  unfold pR at hm
  refine cF 9 Tryz.func305 rfl (aD (aA ?_))
  obtain ⟨x, z, rfl⟩ := j.form
  obtain ⟨y, B, rfl⟩ := i.form
  refine VE (cO (v := (.agg (C4 a.Signed.Cred.Kind a.Signed.Cred.Head.Owner a.Signed.Cred.Head.Word a.Signed.Cred.Who a.Signed.Cred.B.Owner a.Signed.Cred.B.Word a.Signed.Cred.C.Owner a.Signed.Cred.C.Word a.Signed.Cred.Word2 x a.Signed.Tag.length z a.Release.Op a.Release.K a.Release.Role.Owner a.Release.Role.Word y a.Release.Kids.length B).toArray)) hST rfl (fun D G hST => V (aG rfl) (aF (aH (aD (aA (V (aN sL rfl) (V (aN ue rfl) (V (aJ rfl (aM hST.has Mh (aI a.Signed.Cred) rfl Tryz.isAgg53 Tryz.sizeOf53)) (V (aJ rfl (bN hST.has t Tryz.isAgg53 Tryz.sizeOf53)) (V (vJ rfl rfl (nM Tryz.eqGuardType53) (sR (tN _ a.Signed.Cred u))) (V (aG rfl) (aF (aH ?_))))))))))))))
  replace hST := hST.sel (Db St)
  refine aU ?_
  have hx := sj hm; subst hx
  exact rP hST
theorem Ec (k : cG) (g : Value) (j : Value) (D : Cred) (r : (bK × Bool)) (w : World) {J : bD} (h0 : jU J [] w) (c : Sl bF 15 J g k.Creds) (B : Sl cD 8 J j k.Acks) (hm : sk k D = some r) :
    eS false Tryz.prog 212 [(.agg #[(.string k.Name), g, j]), (.agg (aI D).toArray)] w J [] (fun v L1 μ1 => ∃ (y1 : Value) (y3 : Value), v = (.tuple #[(.agg #[(.int .i64 ((((r.1).Signed).Cred).Kind)), (.string (((((r.1).Signed).Cred).Head).Owner)), (.string (((((r.1).Signed).Cred).Head).Word)), (.string ((((r.1).Signed).Cred).Who)), (.string (((((r.1).Signed).Cred).B).Owner)), (.string (((((r.1).Signed).Cred).B).Word)), (.string (((((r.1).Signed).Cred).C).Owner)), (.string (((((r.1).Signed).Cred).C).Word)), (.string ((((r.1).Signed).Cred).Word2)), y1, (.int .i64 (((r.1).Release).Op)), (.int .i64 (((r.1).Release).K)), (.string ((((r.1).Release).Role).Owner)), (.string ((((r.1).Release).Role).Word)), y3]), (.bool (r.2))]) ∧ L1 = [] ∧ Sl (Pl (bV .u8)) 1 μ1 y1 (((r.1).Signed).Tag) ∧ Sl aK 5 μ1 y3 (((r.1).Release).Kids)) := by
  have hST := ST.startE (dd := false) h0
  unfold sk at hm
  refine cF 19 Tryz.func212 rfl (aD (aA ?_))
  obtain ⟨T, U, rfl⟩ := c.form
  obtain ⟨A3, c4, rfl⟩ := B.form
  refine VE (cO (v := (.agg (C5 k.Name T k.Creds.length U A3 k.Acks.length c4).toArray)) hST rfl (fun W6 b5 hST => VE (cO (v := (.agg (aI D).toArray)) hST rfl (fun W8 K hST => VE (bL hST Tryz.zeroValue138 (fun b3 b9 hST => V (aG rfl) (aF (aH (aD (aA (V (aN sE rfl) (V (aJ rfl (aP hST.has (Mt (Mt Mh)) rfl Tryz.isAgg107)) (V (qD (by exact tG rfl) rfl) (bS hm fun Z Q hm => VE (Eg hST Tryz.call184 ((rx (.slice T k.Creds.length U) k.Creds (.func (.func 305) #[] #[(.pointer (some ⟨K, 0, none⟩))]) (fun (x : bK) => pR x D) _ _ (c.mono bR.mono hST.sub_hp) ⟨305, #[], #[(.pointer (some ⟨K, 0, none⟩))], rfl, Tryz.call305, fun W x vs r hs hR hm => by obtain ⟨_, rfl, Y⟩ := hR; obtain ⟨u0, u1, rfl, k0, k1⟩ := Y.out; exact (BK x u0 u1 K D r W k0 k1 (At.of (hs _ _ (hST.at_ (Mt Mh))) _ rfl) hm).weak⟩ Q)) (fun b4 hST => V (aG rfl) (aF ?_)))))))))))))))))
  refine aH ?_
  replace hST := hST.sel (Kb (Db St))
  refine aD (aD (aA (V (aC rfl) (V (aQ rfl rfl rfl) (aF (aH (CI hm rfl (fun M hm => ?_) (fun M hm => ?_))))))))
  · refine aD (aA (V (bJ (qs := #[]) (v := (.agg G3.toArray)) nZ (aW Tryz.zeroValue138 Tryz.underlying138 (uP _ Tryz.underlying138) (by kernel_rfl))) (VO (bH (.agg G3.toArray) (G3.toArray) hST rfl rfl Tryz.sizeOf138 (by simp [Value.cells, Value.oneCell']) nb rfl (fun b6 hST => V (aG rfl) (aF (aH ?_)))))))
    replace hST := hST.sel (Kb (Db St))
    refine aU (cU ?_)
    have hx := sj hm; subst hx
    exact rK (v0 := (.agg G3.toArray)) (v1 := (.bool false)) rfl rfl (aM hST.has Mh G3 rfl Tryz.isAgg138 Tryz.sizeOf138) rfl ⟨_, _, _, rfl, (hST.bkM Sn), (bE.refl _), Lo.refl, (ST.sub_hpx hST (fF.mem Sn)), (.slice none 0 0), (.slice none 0 0), rfl, rfl, (Sl.nil _ _ _), (Sl.nil _ _ _)⟩
  refine aX (aH (aD (aA (V (aN sE rfl) (V (aJ rfl (aP hST.has (Mt Mh) rfl Tryz.isAgg107)) (V (aC rfl) (bS hm fun a I hm => VQ (eV (i := Z) (x0 := a) bF.out Tryz.underlying107 Tryz.sizeOf138 rfl rfl c (bY I) (bT I)) (fun c1 ⟨_, ⟨c3, c5, rfl, G, H⟩, N⟩ => V (aJ rfl (bN hST.has N Tryz.isAgg138 Tryz.sizeOf138)) ?_))))))))
  obtain ⟨t, y, rfl⟩ := G.form
  obtain ⟨u, z, rfl⟩ := H.form
  refine VO (bH (.agg (C4 a.Signed.Cred.Kind a.Signed.Cred.Head.Owner a.Signed.Cred.Head.Word a.Signed.Cred.Who a.Signed.Cred.B.Owner a.Signed.Cred.B.Word a.Signed.Cred.C.Owner a.Signed.Cred.C.Word a.Signed.Cred.Word2 t a.Signed.Tag.length y a.Release.Op a.Release.K a.Release.Role.Owner a.Release.Role.Word u a.Release.Kids.length z).toArray) ((C4 a.Signed.Cred.Kind a.Signed.Cred.Head.Owner a.Signed.Cred.Head.Word a.Signed.Cred.Who a.Signed.Cred.B.Owner a.Signed.Cred.B.Word a.Signed.Cred.C.Owner a.Signed.Cred.C.Word a.Signed.Cred.Word2 t a.Signed.Tag.length y a.Release.Op a.Release.K a.Release.Role.Owner a.Release.Role.Word u a.Release.Kids.length z).toArray) hST rfl rfl Tryz.sizeOf138 (by simp [Value.cells, Value.oneCell']) nb rfl (fun c0 hST => V (aG rfl) (aF (aH ?_))))
  replace hST := hST.sel (Kb (Db St))
  refine aU ?_
  have hx := sj hm; subst hx
  exact rK (v0 := (.agg (C4 a.Signed.Cred.Kind a.Signed.Cred.Head.Owner a.Signed.Cred.Head.Word a.Signed.Cred.Who a.Signed.Cred.B.Owner a.Signed.Cred.B.Word a.Signed.Cred.C.Owner a.Signed.Cred.C.Word a.Signed.Cred.Word2 t a.Signed.Tag.length y a.Release.Op a.Release.K a.Release.Role.Owner a.Release.Role.Word u a.Release.Kids.length z).toArray)) (v1 := (.bool true)) rfl rfl (aM hST.has Mh (C4 a.Signed.Cred.Kind a.Signed.Cred.Head.Owner a.Signed.Cred.Head.Word a.Signed.Cred.Who a.Signed.Cred.B.Owner a.Signed.Cred.B.Word a.Signed.Cred.C.Owner a.Signed.Cred.C.Word a.Signed.Cred.Word2 t a.Signed.Tag.length y a.Release.Op a.Release.K a.Release.Role.Owner a.Release.Role.Word u a.Release.Kids.length z) rfl Tryz.isAgg138 Tryz.sizeOf138) rfl ⟨_, _, _, rfl, (hST.bkM Sn), (bE.refl _), Lo.refl, (ST.sub_hpx hST (fF.mem Sn)), (.slice t a.Signed.Tag.length y), (.slice u a.Release.Kids.length z), rfl, rfl, G, H⟩
theorem zA (c : Value) (u : List eO) (r : List eO) (w : World) {j : bD} (I : jU j [] w) (a : Sl cD 8 j c u) (hm : pZ u = some r) :
    eS true Tryz.prog 302 [c] w j [] (fun v G J => ∃ (z : Value) (t : List (Nat × Obj)), v = z ∧ G = (t ++ []) ∧ bG 263 cD 8 J z r t) := by
  have hST := ST.startE (dd := true) I
  unfold pZ at hm
  refine cF 8 Tryz.func302 rfl (aD (aA (V (aG rfl) (aF (aH (aD (aD (aA (V (aC rfl) ?_)))))))))
  obtain ⟨D, Q, rfl⟩ := a.form
  refine V (wU Tryz.underlying108 rfl rfl) (aF (aH ?_))
  rcases D with _ | M
  · have y := a.isNil
    replace hm : some [] = some r := by rw [y] at hm; simpa [fK, maxLen] using hm
    refine uo (rfl) (aD (aA (V (aG rfl) (aF (aH (aU (cU ?_)))))))
    have hx := sj hm; subst hx
    refine eA (v := (.slice none 0 0)) rfl rfl ?_
    replace hST := hST.row0
    exact ⟨_, _, _, rfl, (hST.bkM (Kr Sn)), (bE.refl _), Lo.refl, (ST.sub_hpx hST (fF.mem (Kr Sn))), (.slice none 0 0), [], rfl, rfl, (bG.nil _ _ _ _)⟩
  · refine oL (rfl) (aX (aH (aD (aA (VE (aR (qs := #[]) (cs := #[]) hST nZ (bB [] Tryz.underlying108 Tryz.sizeOf263 Tryz.zeroValue263 (by decide) rfl (by simp) rfl rfl) (fun N H hST => V (aC rfl) (bS hm fun T x hm => VE (sw (B := [(H, Obj.cells (#[] : Array Value) 263 (0, 0))]) dR hST (by decide) Tryz.underlying108 zO.1 zO.2.1 rfl zO.2.2.1 zO.2.2.2 rfl rfl (bG.lit dR (l := []) .nil rfl nb rfl) (yD.sl dR a hST.sub_hp) x (fun K g k hST i => V (aG rfl) (aF (aH (aU ?_)))))))))))))
    have hx := sj hm; subst hx
    exact eA (v := g) rfl rfl ⟨_, _, _, rfl, (hST.bkM (Kr Sn)), (bE.refl _), Lo.refl, (ST.sub_hpx hST (fF.mem (Kr Sn))), g, k, rfl, rfl, i⟩
theorem tf (g : Value) (t : List eO) (j : Value) (z : eO → Option Bool) (r : Int) (w : World) (c : Sl cD 8 (hp w) g t) (B : sf Tryz.prog j (hp w) (uG cD) (fun (r : Bool) => (.bool r)) z) (hm : iX t z = some r) :
    bO false Tryz.prog 304 [g, j] w (.int .i64 r) := by
  have hST := ST.start (dd := false) w
  unfold iX at hm
  refine cF 19 Tryz.func304 rfl (aD (aA (V (aG rfl) (aF (aH (aD (aD (aA (V (aC rfl) (V (dO Tryz.underlying108 rfl c) (V (aC rfl) (aF (aH (dA (fun i E W => ∃  (k : List (Nat × Obj)), (E 8 = .int .i64 (i : Nat) ∧ E 7 = .int .i64 (t.length : Nat)) ∧ ST false dC w W (hp w) k ∧ E 0 = g ∧ E 1 = j ∧ eY z (t.drop i) i = some r) t.length c.len ⟨_, ⟨rfl, rfl⟩, (hST.sel St), rfl, rfl, hm⟩ (by decide) (by decide) (by decide) (fun _ _ _ h => by obtain ⟨_, eIN, _⟩ := h; exact eIN) ?_ ?_))))))))))))))
  · rintro T E W G ⟨k, ⟨eI, eN⟩, hST, u, x, a⟩
    obtain ⟨y, Z, N, M, Q⟩ := cR G
    rw [N] at a
    rw [eY] at a
    refine aY (aD (aA (V (aC eI) (V (aG rfl) (aF (aH (aD (aA (V (aC x) (V (aC u) (V (aC rfl) (VQ (eV (i := (T : Int)) (x0 := y) cD.out Tryz.underlying108 Tryz.sizeOf263 rfl rfl c (Int.natCast_nonneg _) M) (fun a2 ⟨_, ⟨U, Y, rfl, J, K⟩, H⟩ => V (aJ rfl (bN hST.has H Tryz.isAgg263 Tryz.sizeOf263)) (bS a fun a3 I a => ?_))))))))))))))
    refine VE (ut y hST B (bE.refl _) (uG.mk dR (cD.mk ⟨U, Y, rfl, J, K⟩) hST.sub_hp) rfl (tG rfl) I (fun a1 hST => aF (aH (CI a rfl (fun D a => ?_) (fun D a => ?_)))))
    · refine aD (aA (V (aC rfl) (V (aG rfl) (aF (aH (aU (fE (cU (fE (cU ?_))))))))))
      have hx := sj a; subst hx
      exact rP hST
    exact aX (cL (aH ⟨eI, _, ⟨rfl, eN⟩, (hST.sel St), u, x, (by rw [Q]; exact a)⟩))
  rintro E W ⟨k, ⟨eI, eN⟩, hST, u, x, a⟩
  rw [List.drop_length] at a
  rw [eY] at a
  refine aH (aD (aA (V (aG rfl) (aF (aH (aU ?_))))))
  have hx := sj a; subst hx
  exact rP hST
theorem wA (k : Value) (a0 : List eO) (y : List (Nat × Obj)) (J : Value) (f1 : eO → Option Bool) (r : List eO) (w : World) {Y : bD} (h0 : jU Y (y ++ []) w) (a1 : bG 263 cD 8 Y k a0 y) (a9 : sf Tryz.prog J Y (uG cD) (fun (r : Bool) => (.bool r)) f1) (hm : kC a0 f1 = some r) :
    eS false Tryz.prog 301 [k, J] w Y (y ++ []) (fun v L1 μ1 => ∃ (y1 : Value), v = y1 ∧ L1 = [] ∧ Sl cD 8 μ1 y1 (r)) := by
  have hST := ST.startE (dd := false) h0
  unfold kC at hm
  refine cF 42 Tryz.func301 rfl (aD (aA (V (aG rfl) (aF (aH (aD (aA (V (aC rfl) (V (aC rfl) (bS hm fun r1 d7 hm => VE (Eg hST Tryz.call304 ((tf k a0 J f1 _ _ (a1.sl dR hST.sub_hp (fun b o hq => hST.at_ (Ml hq))) (a9.mono hST.sub_hp) d7)) (fun W3 hST => V (aG rfl) (aF (aH ?_))))))))))))))
  refine aD (aD (aA (V (aC rfl) (V (aQ rfl rfl rfl) (aF (aH (CI hm rfl (fun d6 hm => ?_) (fun d6 hm => ?_))))))))
  · refine aD (aA (V (aC rfl) (V (aG rfl) (aF (aH (aU (cU ?_)))))))
    have hx := sj hm; subst hx
    refine eA (v := k) rfl rfl ?_
    obtain ⟨μ5, hST, d2, hl7, d8⟩ := ST.pubD dR hST a1
    exact ⟨_, _, _, rfl, (hST.bkM Sn), d2, hl7, (ST.sub_hpx hST (fF.mem Sn)), k, rfl, rfl, d8⟩
  refine aX (aH (aD (aD (aA (V (aC rfl) (V (aQ rfl rfl rfl) (V (aG rfl) (aF (aH (aY (iV (fun m E W => ∃ (a2 : List eO) (K : List (Nat × Obj)) (G : Int) (H : Int) (a7 : List (Nat × Obj)), ST false (keys (y ++ [])) w W Y (K ++ a7) ∧ E 0 = k ∧ E 1 = J ∧ E 5 = (.int .i64 G) ∧ E 6 = (.int .i64 H) ∧ bG 263 cD 8 Y k a2 K ∧ fI f1 m a2 G H = some r) cE ⟨a0, y, r1, ((IntKind.i64.wrap (r1 + 1))), _, (hST.sel St), rfl, rfl, rfl, rfl, a1, hm⟩ ?_)))))))))))
  rintro m E W ⟨a2, K, G, H, a7, hST, t, Z, I, N, j, c⟩
  cases m with
  | zero => rw [fI] at c; cases c
  | succ d4 =>
    rw [fI] at c
    refine aD (aD (aA (V (aC N) (V (aC t) (V (tX Tryz.underlying108 rfl j) (V (aQ rfl rfl rfl) (aF (aH (CI c rfl (fun b6 c => ?_) (fun b6 c => ?_))))))))))
    · refine aX (aH (aD (CJ c (fun a3 E W => ∃ (M : List (Nat × Obj)) (a8 : List (Nat × Obj)), ST false (keys (y ++ [])) w W Y (M ++ a8) ∧ E 0 = k ∧ E 1 = J ∧ E 5 = (.int .i64 a3.2) ∧ E 6 = (.int .i64 H) ∧ bG 263 cD 8 Y k a3.1 M) (fun a3 g => ?_) ?_)))
      · refine aY (aD (aA (V (aC t) (V (aC N) (bS g fun a a6 g => VQ (dD (i := H) cD.out Tryz.underlying108 Tryz.sizeOf263 rfl rfl j (bY a6) (bT a6)) (fun f5 ⟨_, ⟨f8, f9, rfl, Q, T⟩, c1, e1⟩ => V (aJ rfl (bN (iA.hp _) (c1.mono (eG (fun b o hq => hST.has.2 b o (Ml hq)))) Tryz.isAgg263 Tryz.sizeOf263)) (VE (bL hST Tryz.zeroValue263 (fun e7 f3 hST => ?_)))))))))
        obtain ⟨u, B, rfl⟩ := Q.form
        obtain ⟨x, D, rfl⟩ := T.form
        refine VO (bH (.agg (C7 a.Role.Owner a.Role.Word a.Release.Op a.Release.K a.Release.Role.Owner a.Release.Role.Word u a.Release.Kids.length B x a.Closure.length D).toArray) ((C7 a.Role.Owner a.Role.Word a.Release.Op a.Release.K a.Release.Role.Owner a.Release.Role.Word u a.Release.Kids.length B x a.Closure.length D).toArray) hST rfl rfl Tryz.sizeOf263 (by simp [Value.cells, Value.oneCell']) nb rfl (fun e8 hST => aF (aH (aD (aA (V (aC Z) (V (aJ rfl (aM hST.has Mh (C7 a.Role.Owner a.Role.Word a.Release.Op a.Release.K a.Release.Role.Owner a.Release.Role.Word u a.Release.Kids.length B x a.Closure.length D) rfl Tryz.isAgg263 Tryz.sizeOf263)) (bS g fun f7 c2 g => VE (ut a hST a9 (bE.refl _) (uG.mk dR (cD.mk ⟨(.slice u a.Release.Kids.length B), (.slice x a.Closure.length D), rfl, Q, T⟩) hST.sub_hp) rfl (tG rfl) c2 (fun e9 hST => V (fV rfl) (aF (aH (CI g rfl (fun b7 g => ?_) (fun b7 g => ?_))))))))))))))
        · refine aD (aA (V (aC t) (V (aC I) (V (aJ rfl (aM hST.has Mh (C7 a.Role.Owner a.Role.Word a.Release.Op a.Release.K a.Release.Role.Owner a.Release.Role.Word u a.Release.Kids.length B x a.Closure.length D) rfl Tryz.isAgg263 Tryz.sizeOf263)) (bS g fun g3 U g => VQ (dD (i := G) cD.out Tryz.underlying108 Tryz.sizeOf263 rfl rfl j (bY U) (bT U)) (fun f6 ⟨_, ⟨g0, g1, rfl, e3, e4⟩, e2, b9⟩ => ?_))))))
          replace hST := hST.perm (Nr (Qb Qz) Nz)
          refine VO (lV (x1 := a) dR hST j rfl rfl (cD.mk ⟨(.slice u a.Release.Kids.length B), (.slice x a.Closure.length D), rfl, Q, T⟩) b9 (bT U) Tryz.sizeOf263 (fun f0 c7 hST b4 => aF (aH ?_)))
          replace hST := hST.sel (Kr (Db St))
          refine aA (V (aC I) (V (aQ rfl rfl rfl) (V (aG rfl) (aF (cL (aH ?_))))))
          cases g
          exact ⟨c7, _, (hST.sel St), t, Z, rfl, N, b4⟩
        refine aX (cL (aH ?_))
        cases g
        exact ⟨K, _, (hST.sel (Db St)), t, Z, I, N, j⟩
      rintro ⟨d3, d5⟩ E W ⟨M, a8, hST, c8, c9, d0, d1, c3⟩ c0
      exact aA (V (aC d1) (V (aQ rfl rfl rfl) (V (aG rfl) (aF (aH ⟨d4, Nat.lt_succ_self _, d3, M, d5, ((IntKind.i64.wrap (H + 1))), _, (hST.sel St), c8, c9, d0, rfl, c3, c0⟩)))))
    refine iD (gI (gI (pC (aH (aD (aA (V (aC t) (V (aC I) (bS c fun _ a4 c => VQ (wx (i := G) Tryz.underlying108 Tryz.sizeOf263 rfl rfl j (rZ a4) (rX a4)) (fun g2 c4 => VO (zm (z := (⟨K0, (⟨0, 0, K0, []⟩ : aB), []⟩ : eO)) (zs := [(.string zS), (.string zS), (.int .i64 0), (.int .i64 0), (.string zS), (.string zS), (.slice none 0 0), (.slice none 0 0)]) dR hST j (cD.mk ⟨(.slice none 0 0), (.slice none 0 0), rfl, (Sl.nil _ _ _), (Sl.nil _ _ _)⟩) Tryz.underlying108 Tryz.zeroValue263 c4 rfl rfl (fun f2 e6 hST b5 => aF (aH (aD (aA (V (aC t) ?_))))))))))))))))
    refine V (aC I) (bS c fun _ a5 c => VQ (BH (i := G) Tryz.underlying108 Tryz.sizeOf263 rfl rfl b5 (rZ a5) (rX a5)) (fun b1 c5 => V (aG rfl) (aF (aH (aU ?_)))))
    have hx := sj c; subst hx
    refine eA (v := b1) rfl rfl ?_
    obtain ⟨g5, hST, b0, hl564, c6⟩ := ST.pubD dR hST c5
    exact ⟨_, _, _, rfl, (hST.bkM Sn), b0, hl564, (ST.sub_hpx hST (fF.mem Sn)), b1, rfl, rfl, c6⟩
theorem yH (j : Value) (t : List Cred) (c : Cred) (r : Int) (w : World) (g : Sl (Pl aI) 9 (hp w) j t) (hm : pI t c = some r) :
    bO true Tryz.prog 339 [j, (.agg (aI c).toArray)] w (.int .i64 r) := by
  have hST := ST.start (dd := true) w
  unfold pI at hm
  refine cF 19 Tryz.func339 rfl (aD (aA (VE (cO (v := (.agg (aI c).toArray)) hST rfl (fun Q J hST => V (aG rfl) (aF (aH (aD (aD (aA (V (aC rfl) (V (dO Tryz.underlying22 rfl g) (V (aC rfl) (aF (aH ?_)))))))))))))))
  refine dA (fun i E W => ∃  (k : List (Nat × Obj)), (E 8 = .int .i64 (i : Nat) ∧ E 7 = .int .i64 (t.length : Nat)) ∧ ST true dC w W (hp w) ((J, Obj.cells ((aI c).toArray : Array Value) 53 (0, 0)) :: k) ∧ E 0 = j ∧ E 3 = (.pointer (some ⟨J, 0, none⟩)) ∧ gS c (t.drop i) i = some r) t.length g.len ⟨_, ⟨rfl, rfl⟩, (hST.sel St), rfl, rfl, hm⟩ (by decide) (by decide) (by decide) (fun _ _ _ h => by obtain ⟨_, eIN, _⟩ := h; exact eIN) ?_ ?_
  · rintro K E W B ⟨k, ⟨eI, eN⟩, hST, u, x, a⟩
    obtain ⟨y, M, H, G, I⟩ := cR B
    rw [H] at a
    rw [gS] at a
    refine aY (aD (aA (V (aC eI) (V (aG rfl) (aF (aH (aD ?_)))))))
    replace hST := hST.drew
    have hS0 := hST.has.sel (Kb Sn)
    refine cX hS0 cC (XH 0 rfl hS0 (fun _ hS => aJ x (aM hS Mh (aI c) rfl Tryz.isAgg53 Tryz.sizeOf53)) (X 1 rfl hS0 (aC u) (X 2 rfl hS0 (aC rfl) (XQ 3 rfl hS0 (lZ (enc := aI) (i := (K : Int)) (x0 := y) Tryz.underlying22 Tryz.sizeOf53 rfl rfl g (Int.natCast_nonneg _) G) (fun N D => XH 4 rfl hS0 (fun _ hS => aJ rfl (bN hS D Tryz.isAgg53 Tryz.sizeOf53)) (X 5 rfl hS0 (vJ rfl rfl (nM Tryz.eqGuardType53) (sR (tN _ c y))) (dB (by kernel_rfl) (aH (CI a rfl (fun z a => ?_) (fun z a => ?_))))))))))
    · refine aD (aA (V (aC rfl) (V (aG rfl) (aF (aH ?_)))))
      replace hST := hST.sel (Db St)
      refine aU (fE (cU (fE (cU ?_))))
      have hx := sj a; subst hx
      exact rP hST
    exact aX (cL (aH ⟨eI, _, ⟨rfl, eN⟩, (hST.sel St), u, x, (by rw [I]; exact a)⟩))
  rintro E W ⟨k, ⟨eI, eN⟩, hST, u, x, a⟩
  rw [List.drop_length] at a
  rw [gS] at a
  refine aH ?_
  replace hST := hST.sel (Db St)
  refine aD (aA (V (aG rfl) (aF (aH (aU ?_)))))
  have hx := sj a; subst hx
  exact rP hST
theorem xg (a : Value) (g : List Cred) (c : Cred) (r : Bool) (w : World) (i : Sl (Pl aI) 9 (hp w) a g) (hm : kU g c = some r) :
    bO true Tryz.prog 262 [a, (.agg (aI c).toArray)] w (.bool r) := by
  have hST := ST.start (dd := true) w
  unfold kU at hm
  refine cF 9 Tryz.func262 rfl (aD (aA (VE (cO (v := (.agg (aI c).toArray)) hST rfl (fun k u hST => V (aG rfl) (aF (aH (aD (aA (V (aC rfl) (V (aJ rfl (aM hST.has Mh (aI c) rfl Tryz.isAgg53 Tryz.sizeOf53)) (bS hm fun x j hm => VE (Eg hST Tryz.call339 ((yH a g c _ _ (i.mono (Pl.mono _) hST.sub_hp) j)) (fun t hST => V (aQ rfl rfl rfl) (V (aG rfl) ?_)))))))))))))))
  refine aF (aH ?_)
  replace hST := hST.sel (Db St)
  refine aU ?_
  have hx := sj hm; subst hx
  exact rP hST
theorem Bx (a : Value) (g : List Cred) (c : Cred) (r : Bool) (w : World) (i : Sl (Pl aI) 9 (hp w) a g) (hm : qz g c = some r) :
    bO true Tryz.prog 201 [a, (.agg (aI c).toArray)] w (.bool r) := by
  have hST := ST.start (dd := true) w
  unfold qz at hm
  refine cF 8 Tryz.func201 rfl (aD (aA (VE (cO (v := (.agg (aI c).toArray)) hST rfl (fun k u hST => V (aG rfl) (aF (aH (aD (aA (V (aC rfl) (V (aJ rfl (aM hST.has Mh (aI c) rfl Tryz.isAgg53 Tryz.sizeOf53)) (bS hm fun x j hm => VE (Eg hST Tryz.call262 ((xg a g c _ _ (i.mono (Pl.mono _) hST.sub_hp) j)) (fun t hST => V (aG rfl) (aF ?_)))))))))))))))
  refine aH ?_
  replace hST := hST.sel (Db St)
  refine aU ?_
  have hx := sj hm; subst hx
  exact rP hST
theorem AL (c : eO) (a : Value) (i : Value) (k : Nat) (u : Cred) (r : Bool) (w : World) (j : Sl aK 5 (hp w) a c.Release.Kids) (g : Sl (Pl aI) 9 (hp w) i c.Closure) (t : At (hp w) (.pointer (some ⟨k, 0, none⟩)) (aI u)) (hm : lD c u = some r) :
    bO true Tryz.prog 303 [(.agg #[(.string c.Role.Owner), (.string c.Role.Word), (.int .i64 c.Release.Op), (.int .i64 c.Release.K), (.string c.Release.Role.Owner), (.string c.Release.Role.Word), a, i]), (.pointer (some ⟨k, 0, none⟩))] w (.bool r) := by
  have hST := ST.start (dd := true) w
  unfold lD at hm
  refine cF 9 Tryz.func303 rfl (aD (aA ?_))
  obtain ⟨B, D, rfl⟩ := j.form
  obtain ⟨x, y, rfl⟩ := g.form
  refine VE (cO (v := (.agg (C7 c.Role.Owner c.Role.Word c.Release.Op c.Release.K c.Release.Role.Owner c.Release.Role.Word B c.Release.Kids.length D x c.Closure.length y).toArray)) hST rfl (fun G I hST => V (aG rfl) (aF (aH (aD (aA (V (aN zW rfl) (V (aJ rfl (aP hST.has Mh rfl Tryz.isAgg22)) (V (aJ rfl (bN hST.has t Tryz.isAgg53 Tryz.sizeOf53)) (bS hm fun J z hm => VE (Eg hST Tryz.call201 ((Bx (.slice x c.Closure.length y) c.Closure u _ _ (g.mono (Pl.mono _) hST.sub_hp) z)) (fun H hST => V (fV rfl) (V (aG rfl) (aF (aH ?_)))))))))))))))
  replace hST := hST.sel (Db St)
  refine aU ?_
  have hx := sj hm; subst hx
  exact rP hST
theorem yE (i : cG) (a : Value) (g : Value) (y : Cred) (r : List eO) (w : World) {G : bD} (h0 : jU G [] w) (j : Sl bF 15 G a i.Creds) (c : Sl cD 8 G g i.Acks) (hm : pQ i y = some r) :
    eS false Tryz.prog 209 [(.agg #[(.string i.Name), a, g]), (.agg (aI y).toArray)] w G [] (fun v L1 μ1 => ∃ (y1 : Value), v = y1 ∧ L1 = [] ∧ Sl cD 8 μ1 y1 (r)) := by
  have hST := ST.startE (dd := false) h0
  unfold pQ at hm
  refine cF 10 Tryz.func209 rfl (aD (aA ?_))
  obtain ⟨A1, c2, rfl⟩ := j.form
  obtain ⟨Y, c4, rfl⟩ := c.form
  refine VE (cO (v := (.agg (C5 i.Name A1 i.Creds.length c2 Y i.Acks.length c4).toArray)) hST rfl (fun W6 b5 hST => VE (cO (v := (.agg (aI y).toArray)) hST rfl (fun W8 z hST => V (aG rfl) (aF (aH (aD (aA (V (aN vP rfl) (V (aJ rfl (aP hST.has (Mt Mh) rfl Tryz.isAgg108)) (bS hm fun r9 N hm => ?_)))))))))))
  have hsz := hST.size
  refine VE (lT hST (List.Perm.refl _) Tryz.call302 (fun hH hN hsb hmm => eS.weak (zA (.slice Y i.Acks.length c4) i.Acks _ _ ⟨hH, hN, hsb⟩ (c.mono dR.mono (bE.refl _)) N)) (fun b9 c3 c6 b4 hST B hl14 I => ?_) (L0 := []))
  obtain ⟨a5, Z, k, rfl, T⟩ := I
  replace k := k.symm; subst k
  replace hST := hST.perm (Tr Tn)
  refine V (qD (by exact tG rfl) rfl) ?_
  replace hST := hST.perm (Nb (Pr Pz) Nz)
  obtain ⟨c7, hST, u, hl24, M⟩ := ST.pubAll (R := [(z, Obj.cells ((aI y).toArray : Array Value) 53 (0, 0))]) hST
  have K := At.of (M _ _ (.head _)) _ rfl
  refine bS hm fun c1 Q hm => ?_
  have hsz := hST.size
  refine VE (lT hST (Cr Qz Cn) Tryz.call301 (fun hH hN hsb hmm => (wA a5 r9 Z (.func (.func 303) #[] #[(.pointer (some ⟨z, 0, none⟩))]) (fun (x : eO) => lD x y) _ _ ⟨hH, hN, hsb⟩ (T.mono dR u) ⟨303, #[], #[(.pointer (some ⟨z, 0, none⟩))], rfl, Tryz.call303, fun W x vs r hs hR hm => by obtain ⟨_, rfl, a3⟩ := hR; obtain ⟨u0, u1, rfl, k0, k1⟩ := a3.out; exact (AL x u0 u1 z y r W k0 k1 (K.mono ((bE.refl _).trans hs)) hm).weak⟩ Q)) (fun c0 c5 c8 b6 hST D hl32 J => ?_))
  obtain ⟨H, t, rfl, U⟩ := J
  replace t := t.symm; subst t
  replace hST := hST.perm Tn
  refine V (aG rfl) (aF (aH ?_))
  replace hST := hST.sel (Db St)
  refine aU ?_
  have hx := sj hm; subst hx
  exact eA (v := H) rfl rfl ⟨_, _, _, rfl, (hST.bkM Sn), ((B.trans u).trans D), ((hl14.trans hl24).trans hl32), (ST.sub_hpx hST (fF.mem Sn)), H, rfl, rfl, U⟩
theorem yp (T : aB → Int → Option ((Int × Int))) (a6 : ∀ (t : aB) (j : Value) (I : Int) (r : (Int × Int)) (w : World) (g : Sl aK 5 (hp w) j t.Kids), T t I = some r → bO false Tryz.prog 308 [(.agg #[(.int .i64 t.Op), (.int .i64 t.K), (.string t.Role.Owner), (.string t.Role.Word), j]), (.int .i64 I)] w (.tuple #[(.int .i64 r.1), (.int .i64 r.2)])) (t : aB) (j : Value) (I : Int) (r : (Int × Int)) (w : World) (g : Sl aK 5 (hp w) j t.Kids) (hm : oD T t I = some r) :
    bO false Tryz.prog 308 [(.agg #[(.int .i64 t.Op), (.int .i64 t.K), (.string t.Role.Owner), (.string t.Role.Word), j]), (.int .i64 I)] w (.tuple #[(.int .i64 r.1), (.int .i64 r.2)]) := by
  have hST := ST.start (dd := false) w
  unfold oD at hm
  refine cF 40 Tryz.func308 rfl (aD (aA ?_))
  obtain ⟨A1, c2, rfl⟩ := g.form
  refine VE (cO (v := (.agg (C3 t.Op t.K t.Role.Owner t.Role.Word A1 t.Kids.length c2).toArray)) hST rfl (fun W4 b3 hST => V (aG rfl) (V (aG rfl) (aF (aH (aD (aA (V (aG rfl) (V (aG rfl) (aF (aH (aD (aD (aA (V (aN lK rfl) ?_)))))))))))))))
  refine V (aJ rfl (aP hST.has Mh rfl Tryz.isAgg111)) (V (dO Tryz.underlying111 rfl g) (V (aC rfl) (aF (aH ?_))))
  replace hST := hST.sel (Db St)
  refine CJ hm (fun Q E W => ∃  (a2 : List (Nat × Obj)), ST false dC w W (hp w) a2 ∧ E 6 = (.int .i64 Q.1) ∧ E 7 = (.int .i64 Q.2)) (fun Q a5 => ?_) ?_
  · refine dA (fun i E W => ∃ (y : Int) (z : Int) (J : List (Nat × Obj)), (E 15 = .int .i64 (i : Nat) ∧ E 14 = .int .i64 (t.Kids.length : Nat)) ∧ ST false dC w W (hp w) J ∧ E 1 = (.int .i64 I) ∧ E 6 = (.int .i64 y) ∧ E 7 = (.int .i64 z) ∧ E 13 = (.slice A1 t.Kids.length c2) ∧ gN I T (t.Kids.drop i) y z = some Q) t.Kids.length g.len ⟨1, 0, _, ⟨rfl, rfl⟩, (hST.sel St), rfl, rfl, rfl, rfl, a5⟩ (by decide) (by decide) (by decide) (fun _ _ _ h => by obtain ⟨_, _, _, eIN, _⟩ := h; exact eIN) ?_ ?_
    · rintro b5 E W a3 ⟨y, z, J, ⟨eI, eN⟩, hST, G, x, H, K, a⟩
      obtain ⟨c, c6, a8, a7, a9⟩ := cR a3
      rw [a8] at a
      rw [gN] at a
      refine aY (aD (aA (VQ (eV (i := (b5 : Int)) (x0 := c) aK.out Tryz.underlying111 Tryz.sizeOf113 K eI g (Int.natCast_nonneg _) a7) (fun c4 ⟨_, ⟨c5, rfl, N⟩, Y⟩ => V (aJ rfl (bN hST.has Y Tryz.isAgg113 Tryz.sizeOf113)) (VE (bL hST Tryz.zeroValue113 (fun b9 c3 hST => ?_)))))))
      obtain ⟨B, D, rfl⟩ := N.form
      refine VO (bH (.agg (C3 c.Op c.K c.Role.Owner c.Role.Word B c.Kids.length D).toArray) ((C3 c.Op c.K c.Role.Owner c.Role.Word B c.Kids.length D).toArray) hST rfl rfl Tryz.sizeOf113 (by simp [Value.cells, Value.oneCell']) nb rfl (fun c0 hST => aF (aH (aD (aD (aA (V (aC x) (V (aC G) (V (aQ rfl rfl rfl) (aF (aH (CI a rfl (fun U a => ?_) (fun U a => ?_)))))))))))))
      · refine iD (gI (JO (by simp) (gI (pC (aH ?_)))))
        cases a
        exact ⟨_, (hST.sel (Db St)), x, H⟩
      refine aX (aH (aD (aA (V (aJ rfl (aM hST.has Mh (C3 c.Op c.K c.Role.Owner c.Role.Word B c.Kids.length D) rfl Tryz.isAgg113 Tryz.sizeOf113)) (V (aC G) (V (aC x) (V (aQ rfl rfl rfl) (bS a fun M Z a => VE (Eg hST Tryz.call308 ((a6 c (.slice B c.Kids.length D) ((IntKind.i64.wrap (I - y))) _ _ (N.mono aV.mono hST.sub_hp) Z)) (fun c1 hST => V (aC rfl) (V (dU rfl rfl) (V (dU rfl rfl) (V (aG rfl) (V (aG rfl) ?_))))))))))))))
      refine aF (aH ?_)
      replace hST := hST.sel (Db St)
      exact aA (V (aC x) (V (aC rfl) (V (aQ rfl rfl rfl) (V (aC H) (V (aC rfl) (V (JB (k := .i64) rfl rfl) (V (aG rfl) (V (aG rfl) (aF (cL (aH ⟨eI, ((IntKind.i64.wrap (y + M.1))), ((if M.2 > z then M.2 else z)), _, ⟨rfl, eN⟩, (hST.sel St), G, rfl, rfl, K, (by rw [a9]; exact a)⟩)))))))))))
    rintro E W ⟨y, z, J, ⟨eI, eN⟩, hST, G, x, H, K, a⟩
    rw [List.drop_length] at a
    rw [gN] at a
    refine aH ?_
    cases a
    exact ⟨_, (hST.sel St), x, H⟩
  rintro ⟨b6, b7⟩ E W ⟨a2, hST, b2, b4⟩ a4
  refine aD (aA (V (aC b2) (V (aC b4) (V (aQ rfl rfl rfl) (V (aG rfl) (V (aG rfl) (aF (aH (aU ?_)))))))))
  have hx := sj a4; subst hx
  exact wn (v := (.int .i64 b6)) (u := (.int .i64 ((IntKind.i64.wrap (b7 + 1))))) rfl rfl rfl ⟨rfl, hST.ex⟩
theorem wB : ∀ (n : Nat) (c : aB) (a : Value) (i : Int) (r : (Int × Int)) (w : World) (g : Sl aK 5 (hp w) a c.Kids) (_ : iH n c i = some r),
    bO false Tryz.prog 308 [(.agg #[(.int .i64 c.Op), (.int .i64 c.K), (.string c.Role.Owner), (.string c.Role.Word), a]), (.int .i64 i)] w (.tuple #[(.int .i64 r.1), (.int .i64 r.2)])
  | 0 => by intros; rename_i h; simp only [iH] at h; cases h
  | n + 1 => yp (iH n) (wB n)
theorem Cg (a : aB) (g : Value) (r : (Int × Int)) (w : World) (c : Sl aK 5 (hp w) g a.Kids) (hm : qV a = some r) :
    bO false Tryz.prog 214 [(.agg #[(.int .i64 a.Op), (.int .i64 a.K), (.string a.Role.Owner), (.string a.Role.Word), g])] w (.tuple #[(.int .i64 r.1), (.int .i64 r.2)]) := by
  have hST := ST.start (dd := false) w
  unfold qV at hm
  refine cF 15 Tryz.func214 rfl (aD (aA ?_))
  obtain ⟨i, j, rfl⟩ := c.form
  refine VE (cO (v := (.agg (C3 a.Op a.K a.Role.Owner a.Role.Word i a.Kids.length j).toArray)) hST rfl (fun y B hST => V (aG rfl) (V (aG rfl) (aF (aH (aD (aA (V (aJ rfl (aM hST.has Mh (C3 a.Op a.K a.Role.Owner a.Role.Word i a.Kids.length j) rfl Tryz.isAgg113 Tryz.sizeOf113)) (bS hm fun x t hm => VE (Eg hST Tryz.call308 (((wB cE) a (.slice i a.Kids.length j) 4096 _ _ (c.mono aV.mono hST.sub_hp) t)) (fun z hST => V (aC rfl) (V (dU rfl rfl) (V (dU rfl rfl) (V (aG rfl) (V (aG rfl) ?_)))))))))))))))
  refine aF (aH ?_)
  replace hST := hST.sel (Db St)
  refine aD (aD (aA (V (aC rfl) (V (aQ rfl rfl rfl) (aF (aH (CI hm rfl (fun k hm => ?_) (fun k hm => ?_))))))))
  · refine aD (aA (V (aG rfl) (V (aG rfl) (aF (aH (aU (cU ?_)))))))
    have hx := sj hm; subst hx
    exact wn (v := (.int .i64 0)) (u := (.int .i64 0)) rfl rfl rfl ⟨rfl, hST.ex⟩
  refine aX (aH (aD (aA (V (aC rfl) (V (aC rfl) (V (aG rfl) (V (aG rfl) (aF (aH (aU ?_))))))))))
  have hx := sj hm; subst hx
  exact wn (v := (.int .i64 x.1)) (u := (.int .i64 x.2)) rfl rfl rfl ⟨rfl, hST.ex⟩
theorem JA (w : World) (s : ByteArray) (c : Int) : (callFunc 395 [Value.string s, .int .u8 c].toArray).run Tryz.prog w = .ok (.value (.int .i64 (sS s c))) w := BS Tryz.func395 (by kernel_rfl) (by kernel_rfl) (by kernel_rfl) (by kernel_rfl) s c w
theorem tO (a : ByteArray) (c : Int) (r : Int) (w : World)  (hm : gC a c = some r) :
    bO true Tryz.prog 341 [(.string a), (.int .u8 c)] w (.int .i64 r) := by
  have hST := ST.start (dd := true) w
  unfold gC at hm
  refine cF 8 Tryz.func341 rfl (aD (aA (V (aG rfl) (aF (aH (aD (aA (V (aC rfl) (V (aC rfl) (VE (FC (args := [(.string a), (.int .u8 c)]) (v := .int .i64 (sS a c)) rfl (by exact sJ rfl rfl) (JA _ a c) (V (aG rfl) (aF (aH (aU ?_)))))))))))))))
  have hx := sj hm; subst hx
  exact rP hST
theorem uC (a : ByteArray) (c : Int) (r : Int) (w : World)  (hm : kP a c = some r) :
    bO true Tryz.prog 266 [(.string a), (.int .u8 c)] w (.int .i64 r) := by
  have hST := ST.start (dd := true) w
  unfold kP at hm
  refine cF 8 Tryz.func266 rfl (aD (aA (V (aG rfl) (aF (aH (aD (aA (V (aC rfl) (V (aC rfl) (bS hm fun j g hm => VE (Eg hST Tryz.call341 ((tO a c _ _  g)) (fun i hST => V (aG rfl) (aF (aH ?_))))))))))))))
  refine aU ?_
  have hx := sj hm; subst hx
  exact rP hST
theorem EF (I : ByteArray) (r : Bool) (w : World)  (hm : uV I = some r) :
    bO true Tryz.prog 267 [(.string I)] w (.bool r) := by
  have hST := ST.start (dd := true) w
  unfold uV at hm
  refine cF 16 Tryz.func267 rfl (aD (aA (V (aG rfl) (aF (aH (aD (aD (aA (V (aC rfl) (bS hm fun H J hm => VE (CL hST Tryz.underlying9 Tryz.underlying54 Tryz.underlying5 rfl J (fun W3 N T hST M hl7 j Y => V (dO Tryz.underlying54 rfl j) (V (aC rfl) (aF ?_))))))))))))))
  refine aH (dA (fun i E W => ∃  (c : List (Nat × Obj)), (E 8 = .int .i64 (i : Nat) ∧ E 7 = .int .i64 (H.length : Nat)) ∧ ST true dC w W T c ∧ E 6 = N ∧ nD (H.drop i) = some r) H.length j.len ⟨_, ⟨rfl, rfl⟩, (hST.sel St), rfl, hm⟩ (by decide) (by decide) (by decide) (fun _ _ _ h => by obtain ⟨_, eIN, _⟩ := h; exact eIN) ?_ ?_)
  · rintro K E W u ⟨c, ⟨eI, eN⟩, hST, g, a⟩
    obtain ⟨k, Q, D, B, G⟩ := cR u
    rw [D] at a
    rw [nD] at a
    refine aY (aD (aA (VQ (lZ (enc := (bV .u8)) (i := (K : Int)) (x0 := k) Tryz.underlying54 Tryz.sizeOf5 g eI j (Int.natCast_nonneg _) B) (fun Z x => V (aJ rfl (nU hST.has (y := (.int .u8 k)) x Tryz.isAgg5)) (V (aG rfl) (aF (aH (aD (aA (V (aC rfl) (bS a fun a1 z a => VE (Eg hST Tryz.call266 ((uC ((⟨#[97, 98, 99, 100, 101, 102, 103, 104, 105, 106, 107, 108, 109, 110, 111, 112, 113, 114, 115, 116, 117, 118, 119, 120, 121, 122, 48, 49, 50, 51, 52, 53, 54, 55, 56, 57, 45]⟩ : ByteArray)) k _ _  z)) (fun U hST => V (aQ rfl rfl rfl) (aF ?_))))))))))))))
    refine aH (CI a rfl (fun t a => ?_) (fun t a => ?_))
    · refine aD (aA (V (aG rfl) (aF (aH (aU (fE (cU (fE (cU ?_)))))))))
      have hx := sj a; subst hx
      exact rP hST
    exact aX (cL (aH ⟨eI, _, ⟨rfl, eN⟩, (hST.sel St), g, (by rw [G]; exact a)⟩))
  rintro E W ⟨c, ⟨eI, eN⟩, hST, g, a⟩
  rw [List.drop_length] at a
  rw [nD] at a
  refine aH (aD (aA (V (aG rfl) (aF (aH (aU ?_))))))
  have hx := sj a; subst hx
  exact rP hST
theorem qT (z : ByteArray) (r : Bool) (w : World)  (hm : kS z = some r) :
    bO true Tryz.prog 152 [(.string z)] w (.bool r) := by
  have hST := ST.start (dd := true) w
  unfold kS at hm
  refine cF 21 Tryz.func152 rfl (aD (aA (V (aG rfl) (aF (aH (aD (aA (V (aC rfl) (V (kF Tryz.underlying9 rfl) (V (aQ rfl rfl rfl) (V (aC rfl) (LJ hm (fun K E W => ∃  (Y : List (Nat × Obj)), ST true dC w W (hp w) Y ∧ E 0 = (.string z) ∧ E 2 = (.bool false) ∧ E 10 = (.bool K)) 4 ?_ (fun K t y => ?_)))))))))))))
  · rintro x2 E W ⟨Y, hST, M, e6, e7⟩ a5
    refine V (aC e7) (LJ a5 (fun J E W => ∃  (D : List (Nat × Obj)), ST true dC w W (hp w) D ∧ E 0 = (.string z) ∧ E 2 = (.bool false) ∧ E 16 = (.bool J)) 5 ?_ (fun J a x => ?_))
    · rintro b2 E W ⟨D, hST, a1, H, a2⟩ N
      refine V (aC a2) (LJ N (fun I E W => ∃  (G : List (Nat × Obj)), ST true dC w W (hp w) G ∧ E 2 = (.bool false) ∧ E 20 = (.bool I)) 3 ?_ (fun I j u => ?_))
      · rintro b3 E W ⟨G, hST, a9, a3⟩ Q
        refine V (aG a3) (aF (aH (aU ?_)))
        have hx := sj Q; subst hx
        exact rP hST
      refine bC j (fun g j => ?_) (fun g j => ?_)
      · refine Vg rfl (cB g) (aC a1) (bS j fun b0 T j => oO rfl (cB g) (Eg hST Tryz.call267 ((EF z _ _  T)) (fun a7 hST => V (bU (cB g) rfl) ?_)))
        cases j
        exact u _ _ ⟨_, (hST.sel St), H, rfl⟩
      refine Vn rfl (cB g) (Vn rfl (cB g) (V (bX (cB g) rfl) ?_))
      cases j
      exact u _ _ ⟨_, (hST.sel St), H, rfl⟩
    refine bC a (fun c a => ?_) (fun c a => ?_)
    · refine Vg rfl (cB c) (aC M) (bS a fun Z B a => Vg rfl (cB c) (FJ (i := 0) Tryz.underlying9 rfl rfl (EB B) (HF B)) (bS a fun b1 U a => oO rfl (cB c) (Eg hST Tryz.call266 ((uC ((⟨#[97, 98, 99, 100, 101, 102, 103, 104, 105, 106, 107, 108, 109, 110, 111, 112, 113, 114, 115, 116, 117, 118, 119, 120, 121, 122]⟩ : ByteArray)) ((Z.toNat : Int)) _ _  U)) (fun a8 hST => Vg rfl (cB c) (aQ rfl rfl rfl) (V (bU (cB c) rfl) ?_)))))
      cases a
      exact x _ _ ⟨_, (hST.sel St), M, e6, rfl⟩
    refine Vn rfl (cB c) (Vn rfl (cB c) (Vn rfl (cB c) (Vn rfl (cB c) (V (bX (cB c) rfl) ?_))))
    cases a
    exact x _ _ ⟨_, (hST.sel St), M, e6, rfl⟩
  refine bC t (fun k t => ?_) (fun k t => ?_)
  · refine Vg rfl (cB k) (aC rfl) (Vg rfl (cB k) (kF Tryz.underlying9 rfl) (Vg rfl (cB k) (aQ rfl rfl rfl) (V (bU (cB k) rfl) ?_)))
    cases t
    exact y _ _ ⟨_, (hST.sel St), rfl, rfl, rfl⟩
  refine Vn rfl (cB k) (Vn rfl (cB k) (Vn rfl (cB k) (V (bX (cB k) rfl) ?_)))
  cases t
  exact y _ _ ⟨_, (hST.sel St), rfl, rfl, rfl⟩
theorem nP (i : Role) (r : Bool) (w : World)  (hm : iR i = some r) :
    bO true Tryz.prog 254 [(.agg (aO i).toArray)] w (.bool r) := by
  have hST := ST.start (dd := true) w
  unfold iR at hm
  refine cF 11 Tryz.func254 rfl (aD (aA (VE (cO (v := (.agg (aO i).toArray)) hST rfl (fun H J hST => V (aG rfl) (aF (aH (aD (aA (V (aN qM rfl) (V (aJ rfl (aP hST.has Mh rfl Tryz.isAgg9)) (bS hm fun K y hm => VE (Eg hST Tryz.call152 ((qT i.Owner _ _  y)) (fun I hST => V (aC rfl) (LJ hm (fun k E W => ∃  (j : List (Nat × Obj)), ST true dC w W (hp w) j ∧ E 2 = (.bool false) ∧ E 10 = (.bool k)) 4 ?_ (fun k a g => ?_))))))))))))))))
  · rintro G E W ⟨j, hST, B, x⟩ t
    refine V (aG x) (aF (aH (aU ?_)))
    have hx := sj t; subst hx
    exact rP hST
  refine bC a (fun c a => ?_) (fun c a => ?_)
  · refine Vg rfl (cB c) (aN te rfl) (Vg rfl (cB c) (aJ rfl (aP hST.has Mh rfl Tryz.isAgg9)) (bS a fun D u a => oO rfl (cB c) (Eg hST Tryz.call152 ((qT i.Word _ _  u)) (fun z hST => V (bU (cB c) rfl) ?_))))
    cases a
    exact g _ _ ⟨_, (hST.sel (Db St)), rfl, rfl⟩
  refine Vn rfl (cB c) (Vn rfl (cB c) (Vn rfl (cB c) (V (bX (cB c) rfl) ?_)))
  cases a
  exact g _ _ ⟨_, (hST.sel (Db St)), rfl, rfl⟩
theorem B4 (a : aB) (H : Value) (r : Bool) (w : World) (t : Sl aK 5 (hp w) H a.Kids) (hm : qU a = some r) :
    bO true Tryz.prog 309 [(.agg #[(.int .i64 a.Op), (.int .i64 a.K), (.string a.Role.Owner), (.string a.Role.Word), H])] w (.bool r) := by
  have hST := ST.start (dd := true) w
  unfold qU at hm
  refine cF 63 Tryz.func309 rfl (aD (aA ?_))
  obtain ⟨A1, c2, rfl⟩ := t.form
  refine VE (cO (v := (.agg (C3 a.Op a.K a.Role.Owner a.Role.Word A1 a.Kids.length c2).toArray)) hST rfl (fun W4 N hST => V (aG rfl) (aF (aH (aD (aA (V (bJ (qs := #[]) (v := (.agg (aO K0).toArray)) nZ (aW Tryz.zeroValue28 Tryz.underlying28 (DU _ Tryz.underlying28) (by kernel_rfl))) (VE (bL hST Tryz.zeroValue28 (fun W6 b5 hST => VO (bH (.agg (aO K0).toArray) ((aO K0).toArray) hST rfl rfl Tryz.sizeOf28 (rI K0) nb rfl (fun W7 hST => aF (aH (aD (aD (aA (V (aN nR rfl) ?_)))))))))))))))))
  refine V (aJ rfl (aP hST.has (Mt Mh) rfl Tryz.isAgg3)) (aF (aH (aY (aD (aA (V (aQ rfl rfl rfl) (V (aG rfl) (aF (aH (CI hm rfl (fun d9 hm => ?_) (fun d9 hm => ?_)))))))))))
  · refine aD (aA (V (aN qK rfl) (V (aJ rfl (aM hST.has (Mt Mh) (aO a.Role) rfl Tryz.isAgg28 Tryz.sizeOf28)) (bS hm fun f7 e5 hm => VE (Eg hST Tryz.call254 ((nP a.Role _ _  e5)) (fun f5 hST => V (aC rfl) (LJ hm (fun d2 E W => ∃  (c4 : List (Nat × Obj)), ST true dC w W (hp w) ((N, Obj.cells ((C3 a.Op a.K a.Role.Owner a.Role.Word A1 a.Kids.length c2).toArray : Array Value) 113 (0, 0)) :: c4) ∧ E 1 = (.pointer (some ⟨N, 0, none⟩)) ∧ E 2 = (.bool false) ∧ E 17 = (.bool d2)) 5 ?_ (fun d2 J a4 => ?_))))))))
    · rintro f8 E W ⟨c4, hST, e7, c9, e8⟩ e1
      refine V (aC e8) (LJ e1 (fun d1 E W => ∃  (c5 : List (Nat × Obj)), ST true dC w W (hp w) c5 ∧ E 2 = (.bool false) ∧ E 22 = (.bool d1)) 4 ?_ (fun d1 I a3 => ?_))
      · rintro f9 E W ⟨c5, hST, f6, e9⟩ e2
        refine V (aG e9) (aF (aH (aU (fE (cU ?_)))))
        have hx := sj e2; subst hx
        exact rP hST
      refine bC I (fun u I => ?_) (fun u I => ?_)
      · refine Vg rfl (cB u) (aN sO e7) (Vg rfl (cB u) (aJ rfl (aP hST.has Mh rfl Tryz.isAgg3)) (Vg rfl (cB u) (aQ rfl rfl rfl) (V (bU (cB u) rfl) ?_)))
        cases I
        exact a3 _ _ ⟨_, (hST.sel (Db St)), c9, rfl⟩
      refine Vn rfl (cB u) (Vn rfl (cB u) (Vn rfl (cB u) (V (bX (cB u) rfl) ?_)))
      cases I
      exact a3 _ _ ⟨_, (hST.sel (Db St)), c9, rfl⟩
    refine bC J (fun j J => ?_) (fun j J => ?_)
    · refine Vg rfl (cB j) (aN lK rfl) (Vg rfl (cB j) (aJ rfl (aP hST.has (Mt Mh) rfl Tryz.isAgg111)) (Vg rfl (cB j) (dO Tryz.underlying111 rfl t) (Vg rfl (cB j) (aQ rfl rfl rfl) (V (bU (cB j) rfl) ?_))))
      cases J
      exact a4 _ _ ⟨_, (hST.sel (Db St)), rfl, rfl, rfl⟩
    refine Vn rfl (cB j) (Vn rfl (cB j) (Vn rfl (cB j) (Vn rfl (cB j) (V (bX (cB j) rfl) ?_))))
    cases J
    exact a4 _ _ ⟨_, (hST.sel (Db St)), rfl, rfl, rfl⟩
  refine aD (CJ hm (fun b7 E W => ∃  (c6 : List (Nat × Obj)), ST true dC w W (hp w) ((b5, Obj.cells ((aO K0).toArray : Array Value) 28 (0, 0)) :: ((N, Obj.cells ((C3 a.Op a.K a.Role.Owner a.Role.Word A1 a.Kids.length c2).toArray : Array Value) 113 (0, 0)) :: c6)) ∧ E 1 = (.pointer (some ⟨N, 0, none⟩)) ∧ E 3 = (.pointer (some ⟨b5, 0, none⟩)) ∧ E 23 = (.bool b7)) (fun b7 G => ?_) ?_)
  · refine aD (aA (V (aQ rfl rfl rfl) (V (aG rfl) (aF (aH (CI G rfl (fun b9 G => ?_) (fun b9 G => ?_)))))))
    · refine aX (aH ?_)
      cases G
      exact ⟨_, (hST.sel St), rfl, rfl, rfl⟩
    refine aA (V (aQ rfl rfl rfl) (V (aG rfl) (aF (aH ?_))))
    cases G
    exact ⟨_, (hST.sel St), rfl, rfl, rfl⟩
  rintro g0 E W ⟨c6, hST, Q, d0, f0⟩ K
  refine CI K f0 (fun e0 K => ?_) (fun e0 K => ?_)
  · refine aD (aA (V (aN qK Q) (V (aJ rfl (aM hST.has (Mt Mh) (aO a.Role) rfl Tryz.isAgg28 Tryz.sizeOf28)) (V (aJ d0 (aM hST.has Mh (aO K0) rfl Tryz.isAgg28 Tryz.sizeOf28)) (V (vJ rfl rfl (nM Tryz.eqGuardType28) (sR (sg _ a.Role K0))) (V (aC rfl) (LJ K (fun d3 E W => ∃  (c7 : List (Nat × Obj)), ST true dC w W (hp w) c7 ∧ E 34 = (.bool d3)) 4 ?_ (fun d3 M a5 => ?_))))))))
    · rintro g1 E W ⟨c7, hST, f1⟩ e3
      refine V (aG f1) (aF (aH (aU (fE (cU ?_)))))
      have hx := sj e3; subst hx
      exact rP hST
    refine bC M (fun x M => ?_) (fun x M => ?_)
    · refine Vg rfl (cB x) (aN sO Q) (Vg rfl (cB x) (aJ rfl (aP hST.has (Mt Mh) rfl Tryz.isAgg3)) (Vg rfl (cB x) (aQ rfl rfl rfl) (V (bU (cB x) rfl) ?_)))
      cases M
      exact a5 _ _ ⟨_, (hST.sel (Db (Db St))), rfl⟩
    refine Vn rfl (cB x) (Vn rfl (cB x) (Vn rfl (cB x) (V (bX (cB x) rfl) ?_)))
    cases M
    exact a5 _ _ ⟨_, (hST.sel (Db (Db St))), rfl⟩
  refine aX (cL (aH (aD (aA (V (aN nR Q) (V (aJ rfl (aP hST.has (Mt Mh) rfl Tryz.isAgg3)) (V (aQ rfl rfl rfl) (V (aC rfl) (LJ K (fun b6 E W => ∃  (c8 : List (Nat × Obj)), ST true dC w W (hp w) ((N, Obj.cells ((C3 a.Op a.K a.Role.Owner a.Role.Word A1 a.Kids.length c2).toArray : Array Value) 113 (0, 0)) :: c8) ∧ E 1 = (.pointer (some ⟨N, 0, none⟩)) ∧ E 43 = (.bool b6)) 5 ?_ (fun b6 D a1 => ?_))))))))))
  · rintro g2 E W ⟨c8, hST, a2, d4⟩ e4
    refine V (aC d4) (LJ e4 (fun b4 E W => ∃  (a8 : List (Nat × Obj)), ST true dC w W (hp w) ((N, Obj.cells ((C3 a.Op a.K a.Role.Owner a.Role.Word A1 a.Kids.length c2).toArray : Array Value) 113 (0, 0)) :: a8) ∧ E 1 = (.pointer (some ⟨N, 0, none⟩)) ∧ E 48 = (.bool b4)) 4 ?_ (fun b4 B Z => ?_))
    · rintro f2 E W ⟨a8, hST, T, d5⟩ c0
      refine V (aC d5) (LJ c0 (fun b2 E W => ∃  (a9 : List (Nat × Obj)), ST true dC w W (hp w) ((N, Obj.cells ((C3 a.Op a.K a.Role.Owner a.Role.Word A1 a.Kids.length c2).toArray : Array Value) 113 (0, 0)) :: a9) ∧ E 1 = (.pointer (some ⟨N, 0, none⟩)) ∧ E 56 = (.bool b2)) 7 ?_ (fun b2 z Y => ?_))
      · rintro f3 E W ⟨a9, hST, d6, d7⟩ c1
        refine V (aC d7) (LJ c1 (fun b1 E W => ∃  (b0 : List (Nat × Obj)), ST true dC w W (hp w) b0 ∧ E 62 = (.bool b1)) 5 ?_ (fun b1 y U => ?_))
        · rintro f4 E W ⟨b0, hST, d8⟩ c3
          refine V (aG d8) (aF (aH (aU ?_)))
          have hx := sj c3; subst hx
          exact rP hST
        refine bC y (fun g y => ?_) (fun g y => ?_)
        · refine Vg rfl (cB g) (aN lK d6) (Vg rfl (cB g) (aJ rfl (aP hST.has Mh rfl Tryz.isAgg111)) (Vg rfl (cB g) (dO Tryz.underlying111 rfl t) (Vg rfl (cB g) (aQ rfl rfl rfl) (V (bU (cB g) rfl) ?_))))
          cases y
          exact U _ _ ⟨_, (hST.sel (Db St)), rfl⟩
        refine Vn rfl (cB g) (Vn rfl (cB g) (Vn rfl (cB g) (Vn rfl (cB g) (V (bX (cB g) rfl) ?_))))
        cases y
        exact U _ _ ⟨_, (hST.sel (Db St)), rfl⟩
      refine bC z (fun c z => ?_) (fun c z => ?_)
      · refine Vg rfl (cB c) (aN sO T) (Vg rfl (cB c) (aJ rfl (aP hST.has Mh rfl Tryz.isAgg3)) (Vg rfl (cB c) (aN lK T) (Vg rfl (cB c) (aJ rfl (aP hST.has Mh rfl Tryz.isAgg111)) (Vg rfl (cB c) (dO Tryz.underlying111 rfl t) (Vg rfl (cB c) (aQ rfl rfl rfl) (V (bU (cB c) rfl) ?_))))))
        cases z
        exact Y _ _ ⟨_, (hST.sel St), T, rfl⟩
      refine Vn rfl (cB c) (Vn rfl (cB c) (Vn rfl (cB c) (Vn rfl (cB c) (Vn rfl (cB c) (Vn rfl (cB c) (V (bX (cB c) rfl) ?_))))))
      cases z
      exact Y _ _ ⟨_, (hST.sel St), T, rfl⟩
    refine bC B (fun i B => ?_) (fun i B => ?_)
    · refine Vg rfl (cB i) (aN sO a2) (Vg rfl (cB i) (aJ rfl (aP hST.has Mh rfl Tryz.isAgg3)) (Vg rfl (cB i) (aQ rfl rfl rfl) (V (bU (cB i) rfl) ?_)))
      cases B
      exact Z _ _ ⟨_, (hST.sel St), a2, rfl⟩
    refine Vn rfl (cB i) (Vn rfl (cB i) (Vn rfl (cB i) (V (bX (cB i) rfl) ?_)))
    cases B
    exact Z _ _ ⟨_, (hST.sel St), a2, rfl⟩
  refine bC D (fun k D => ?_) (fun k D => ?_)
  · refine Vg rfl (cB k) (aN qK Q) (Vg rfl (cB k) (aJ rfl (aM hST.has (Mt Mh) (aO a.Role) rfl Tryz.isAgg28 Tryz.sizeOf28)) (Vg rfl (cB k) (aJ d0 (aM hST.has Mh (aO K0) rfl Tryz.isAgg28 Tryz.sizeOf28)) (Vg rfl (cB k) (vJ rfl rfl (nM Tryz.eqGuardType28) (sR (sg _ a.Role K0))) (V (bU (cB k) rfl) ?_))))
    cases D
    exact a1 _ _ ⟨_, (hST.sel (Db St)), Q, rfl⟩
  refine Vn rfl (cB k) (Vn rfl (cB k) (Vn rfl (cB k) (Vn rfl (cB k) (V (bX (cB k) rfl) ?_))))
  cases D
  exact a1 _ _ ⟨_, (hST.sel (Db St)), Q, rfl⟩
theorem vo (g : Value) (t : List aB) (j : Value) (z : aB → Option Bool) (r : Int) (w : World) (c : Sl aK 5 (hp w) g t) (B : sf Tryz.prog j (hp w) (uG aK) (fun (r : Bool) => (.bool r)) z) (hm : lB t z = some r) :
    bO false Tryz.prog 352 [g, j] w (.int .i64 r) := by
  have hST := ST.start (dd := false) w
  unfold lB at hm
  refine cF 19 Tryz.func352 rfl (aD (aA (V (aG rfl) (aF (aH (aD (aD (aA (V (aC rfl) (V (dO Tryz.underlying111 rfl c) (V (aC rfl) (aF (aH (dA (fun i E W => ∃  (k : List (Nat × Obj)), (E 8 = .int .i64 (i : Nat) ∧ E 7 = .int .i64 (t.length : Nat)) ∧ ST false dC w W (hp w) k ∧ E 0 = g ∧ E 1 = j ∧ eL z (t.drop i) i = some r) t.length c.len ⟨_, ⟨rfl, rfl⟩, (hST.sel St), rfl, rfl, hm⟩ (by decide) (by decide) (by decide) (fun _ _ _ h => by obtain ⟨_, eIN, _⟩ := h; exact eIN) ?_ ?_))))))))))))))
  · rintro Q E W G ⟨k, ⟨eI, eN⟩, hST, u, x, a⟩
    obtain ⟨y, U, M, K, N⟩ := cR G
    rw [M] at a
    rw [eL] at a
    refine aY (aD (aA (V (aC eI) (V (aG rfl) (aF (aH (aD (aA (V (aC x) (V (aC u) (V (aC rfl) (VQ (eV (i := (Q : Int)) (x0 := y) aK.out Tryz.underlying111 Tryz.sizeOf113 rfl rfl c (Int.natCast_nonneg _) K) (fun Z ⟨_, ⟨T, rfl, J⟩, H⟩ => V (aJ rfl (bN hST.has H Tryz.isAgg113 Tryz.sizeOf113)) (bS a fun a1 I a => ?_))))))))))))))
    refine VE (ut y hST B (bE.refl _) (uG.mk aV (aK.mk ⟨T, rfl, J⟩) hST.sub_hp) rfl (tG rfl) I (fun Y hST => aF (aH (CI a rfl (fun D a => ?_) (fun D a => ?_)))))
    · refine aD (aA (V (aC rfl) (V (aG rfl) (aF (aH (aU (fE (cU (fE (cU ?_))))))))))
      have hx := sj a; subst hx
      exact rP hST
    exact aX (cL (aH ⟨eI, _, ⟨rfl, eN⟩, (hST.sel St), u, x, (by rw [N]; exact a)⟩))
  rintro E W ⟨k, ⟨eI, eN⟩, hST, u, x, a⟩
  rw [List.drop_length] at a
  rw [eL] at a
  refine aH (aD (aA (V (aG rfl) (aF (aH (aU ?_))))))
  have hx := sj a; subst hx
  exact rP hST
theorem qF (a : Value) (g : List aB) (c : Value) (i : aB → Option Bool) (r : Bool) (w : World) (j : Sl aK 5 (hp w) a g) (k : sf Tryz.prog c (hp w) (uG aK) (fun (r : Bool) => (.bool r)) i) (hm : fN g i = some r) :
    bO false Tryz.prog 310 [a, c] w (.bool r) := by
  have hST := ST.start (dd := false) w
  unfold fN at hm
  refine cF 9 Tryz.func310 rfl (aD (aA (V (aG rfl) (aF (aH (aD (aA (V (aC rfl) (V (aC rfl) (bS hm fun x t hm => VE (Eg hST Tryz.call352 ((vo a g c i _ _ (j.mono aV.mono hST.sub_hp) (k.mono hST.sub_hp) t)) (fun u hST => V (aQ rfl rfl rfl) (V (aG rfl) (aF ?_))))))))))))))
  refine aH (aU ?_)
  have hx := sj hm; subst hx
  exact rP hST
theorem zu (i : aB → Option Bool) (t : ∀ (c : aB) (a : Value) (r : Bool) (w : World) (g : Sl aK 5 (hp w) a c.Kids), i c = some r → bO false Tryz.prog 215 [(.agg #[(.int .i64 c.Op), (.int .i64 c.K), (.string c.Role.Owner), (.string c.Role.Word), a])] w (.bool r)) (c : aB) (a : Value) (r : Bool) (w : World) (g : Sl aK 5 (hp w) a c.Kids) (hm : nI i c = some r) :
    bO false Tryz.prog 311 [(.agg #[(.int .i64 c.Op), (.int .i64 c.K), (.string c.Role.Owner), (.string c.Role.Word), a])] w (.bool r) := by
  have hST := ST.start (dd := false) w
  unfold nI at hm
  refine cF 6 Tryz.func311 rfl (aD (aA ?_))
  obtain ⟨j, k, rfl⟩ := g.form
  refine VE (cO (v := (.agg (C3 c.Op c.K c.Role.Owner c.Role.Word j c.Kids.length k).toArray)) hST rfl (fun x z hST => V (aG rfl) (aF (aH (aD (aA (V (aJ rfl (aM hST.has Mh (C3 c.Op c.K c.Role.Owner c.Role.Word j c.Kids.length k) rfl Tryz.isAgg113 Tryz.sizeOf113)) (bS hm fun B u hm => VE (Eg hST Tryz.call215 ((t c (.slice j c.Kids.length k) _ _ (g.mono aV.mono hST.sub_hp) u)) (fun y hST => V (fV rfl) (V (aG rfl) (aF (aH ?_)))))))))))))
  replace hST := hST.sel (Db St)
  refine aU ?_
  have hx := sj hm; subst hx
  exact rP hST
theorem yl (z : aB → Option Bool) (T : ∀ (a : aB) (g : Value) (r : Bool) (w : World) (c : Sl aK 5 (hp w) g a.Kids), z a = some r → bO false Tryz.prog 215 [(.agg #[(.int .i64 a.Op), (.int .i64 a.K), (.string a.Role.Owner), (.string a.Role.Word), g])] w (.bool r)) (a : aB) (g : Value) (r : Bool) (w : World) (c : Sl aK 5 (hp w) g a.Kids) (hm : oI z a = some r) :
    bO false Tryz.prog 215 [(.agg #[(.int .i64 a.Op), (.int .i64 a.K), (.string a.Role.Owner), (.string a.Role.Word), g])] w (.bool r) := by
  have hST := ST.start (dd := false) w
  unfold oI at hm
  refine cF 17 Tryz.func215 rfl (aD (aA ?_))
  obtain ⟨B, D, rfl⟩ := c.form
  refine VE (cO (v := (.agg (C3 a.Op a.K a.Role.Owner a.Role.Word B a.Kids.length D).toArray)) hST rfl (fun W4 U hST => V (aG rfl) (aF (aH (aD (aA (V (aJ rfl (aM hST.has Mh (C3 a.Op a.K a.Role.Owner a.Role.Word B a.Kids.length D) rfl Tryz.isAgg113 Tryz.sizeOf113)) (bS hm fun r5 a3 hm => VE (Eg hST Tryz.call309 (bO.weak (B4 a (.slice B a.Kids.length D) _ _ (c.mono aV.mono hST.sub_hp) a3)) (fun W7 hST => V (aC rfl) (LJ hm (fun K E W => ∃  (G : List (Nat × Obj)), ST false dC w W (hp w) ((U, Obj.cells ((C3 a.Op a.K a.Role.Owner a.Role.Word B a.Kids.length D).toArray : Array Value) 113 (0, 0)) :: G) ∧ E 1 = (.pointer (some ⟨U, 0, none⟩)) ∧ E 2 = (.bool false) ∧ E 10 = (.bool K)) 5 ?_ (fun K t y => ?_))))))))))))
  · rintro x9 E W ⟨G, hST, Y, I, Z⟩ M
    refine V (aC Z) (LJ M (fun J E W => ∃  (H : List (Nat × Obj)), ST false dC w W (hp w) H ∧ E 2 = (.bool false) ∧ E 16 = (.bool J)) 5 ?_ (fun J k u => ?_))
    · rintro a8 E W ⟨H, hST, a6, a1⟩ N
      refine V (aG a1) (aF (aH (aU ?_)))
      have hx := sj N; subst hx
      exact rP hST
    refine bC k (fun i k => ?_) (fun i k => ?_)
    · refine Vg rfl (cB i) (aN lK Y) (Vg rfl (cB i) (aJ rfl (aP hST.has Mh rfl Tryz.isAgg111)) (bS k fun a7 Q k => oO rfl (cB i) (Eg hST Tryz.call310 ((qF (.slice B a.Kids.length D) a.Kids (.func (.func 311) #[] #[]) (fun (x : aB) => nI z x) _ _ (c.mono aV.mono hST.sub_hp) ⟨311, #[], #[], rfl, Tryz.call311, fun W x vs r hs hR hm => by obtain ⟨_, rfl, a2⟩ := hR; obtain ⟨u0, rfl, k0⟩ := a2.out; exact zu z T x u0 r W k0 hm⟩ Q)) (fun a5 hST => Vg rfl (cB i) (fV rfl) (V (bU (cB i) rfl) ?_)))))
      cases k
      exact u _ _ ⟨_, (hST.sel (Db St)), I, rfl⟩
    refine Vn rfl (cB i) (Vn rfl (cB i) (Vn rfl (cB i) (Vn rfl (cB i) (V (bX (cB i) rfl) ?_))))
    cases k
    exact u _ _ ⟨_, (hST.sel (Db St)), I, rfl⟩
  refine bC t (fun j t => ?_) (fun j t => ?_)
  · refine Vg rfl (cB j) (aN lK rfl) (Vg rfl (cB j) (aJ rfl (aP hST.has Mh rfl Tryz.isAgg111)) (Vg rfl (cB j) (dO Tryz.underlying111 rfl c) (Vg rfl (cB j) (aQ rfl rfl rfl) (V (bU (cB j) rfl) ?_))))
    cases t
    exact y _ _ ⟨_, (hST.sel St), rfl, rfl, rfl⟩
  refine Vn rfl (cB j) (Vn rfl (cB j) (Vn rfl (cB j) (Vn rfl (cB j) (V (bX (cB j) rfl) ?_))))
  cases t
  exact y _ _ ⟨_, (hST.sel St), rfl, rfl, rfl⟩
theorem wQ : ∀ (n : Nat) (c : aB) (a : Value) (r : Bool) (w : World) (g : Sl aK 5 (hp w) a c.Kids) (_ : mD n c = some r),
    bO false Tryz.prog 215 [(.agg #[(.int .i64 c.Op), (.int .i64 c.K), (.string c.Role.Owner), (.string c.Role.Word), a])] w (.bool r)
  | 0 => by intros; rename_i h; simp only [mD] at h; cases h
  | n + 1 => yl (mD n) (wQ n)
theorem mB (a : aB) (k : Value) (r : Bool) (w : World) (c : Sl aK 5 (hp w) k a.Kids) (hm : gP a = some r) :
    bO false Tryz.prog 107 [(.agg #[(.int .i64 a.Op), (.int .i64 a.K), (.string a.Role.Owner), (.string a.Role.Word), k])] w (.bool r) := by
  have hST := ST.start (dd := false) w
  unfold gP at hm
  refine cF 24 Tryz.func107 rfl (aD (aA ?_))
  obtain ⟨y, z, rfl⟩ := c.form
  refine VE (cO (v := (.agg (C3 a.Op a.K a.Role.Owner a.Role.Word y a.Kids.length z).toArray)) hST rfl (fun W4 H hST => V (aG rfl) (aF (aH (aD (aA (V (aJ rfl (aM hST.has Mh (C3 a.Op a.K a.Role.Owner a.Role.Word y a.Kids.length z) rfl Tryz.isAgg113 Tryz.sizeOf113)) (bS hm fun r5 a9 hm => VE (Eg hST Tryz.call214 ((Cg a (.slice y a.Kids.length z) _ _ (c.mono aV.mono hST.sub_hp) a9)) (fun W7 hST => V (aC rfl) (V (dU rfl rfl) (V (dU rfl rfl) (V (aG rfl) (V (aG rfl) (aF ?_)))))))))))))))
  refine aH (aD (aA (V (aC rfl) (V (aQ rfl rfl rfl) (V (aC rfl) (LJ hm (fun Y E W => ∃  (I : List (Nat × Obj)), ST false dC w W (hp w) ((H, Obj.cells ((C3 a.Op a.K a.Role.Owner a.Role.Word y a.Kids.length z).toArray : Array Value) 113 (0, 0)) :: I) ∧ E 1 = (.pointer (some ⟨H, 0, none⟩)) ∧ E 2 = (.bool false) ∧ E 4 = (.int .i64 r5.2) ∧ E 15 = (.bool Y)) 3 ?_ (fun Y x G => ?_)))))))
  · rintro x9 E W ⟨I, hST, M, N, a4, a5⟩ Z
    refine V (aC a5) (LJ Z (fun U E W => ∃  (J : List (Nat × Obj)), ST false dC w W (hp w) ((H, Obj.cells ((C3 a.Op a.K a.Role.Owner a.Role.Word y a.Kids.length z).toArray : Array Value) 113 (0, 0)) :: J) ∧ E 1 = (.pointer (some ⟨H, 0, none⟩)) ∧ E 2 = (.bool false) ∧ E 19 = (.bool U)) 3 ?_ (fun U u D => ?_))
    · rintro b5 E W ⟨J, hST, a6, Q, a7⟩ a1
      refine V (aC a7) (LJ a1 (fun T E W => ∃  (K : List (Nat × Obj)), ST false dC w W (hp w) K ∧ E 2 = (.bool false) ∧ E 23 = (.bool T)) 3 ?_ (fun T j B => ?_))
      · rintro b6 E W ⟨K, hST, b2, a8⟩ a2
        refine V (aG a8) (aF (aH (aU ?_)))
        have hx := sj a2; subst hx
        exact rP hST
      refine bC j (fun i j => ?_) (fun i j => ?_)
      · refine Vg rfl (cB i) (aJ a6 (aM hST.has Mh (C3 a.Op a.K a.Role.Owner a.Role.Word y a.Kids.length z) rfl Tryz.isAgg113 Tryz.sizeOf113)) (bS j fun b4 a3 j => oO rfl (cB i) (Eg hST Tryz.call215 (((wQ cE) a (.slice y a.Kids.length z) _ _ (c.mono aV.mono hST.sub_hp) a3)) (fun b1 hST => V (bU (cB i) rfl) ?_)))
        cases j
        exact B _ _ ⟨_, (hST.sel (Db St)), Q, rfl⟩
      refine Vn rfl (cB i) (Vn rfl (cB i) (V (bX (cB i) rfl) ?_))
      cases j
      exact B _ _ ⟨_, (hST.sel (Db St)), Q, rfl⟩
    refine bC u (fun g u => ?_) (fun g u => ?_)
    · refine Vg rfl (cB g) (aC a4) (Vg rfl (cB g) (aQ rfl rfl rfl) (V (bU (cB g) rfl) ?_))
      cases u
      exact D _ _ ⟨_, (hST.sel St), M, N, rfl⟩
    refine Vn rfl (cB g) (Vn rfl (cB g) (V (bX (cB g) rfl) ?_))
    cases u
    exact D _ _ ⟨_, (hST.sel St), M, N, rfl⟩
  refine bC x (fun t x => ?_) (fun t x => ?_)
  · refine Vg rfl (cB t) (aC rfl) (Vg rfl (cB t) (aQ rfl rfl rfl) (V (bU (cB t) rfl) ?_))
    cases x
    exact G _ _ ⟨_, (hST.sel St), rfl, rfl, rfl, rfl⟩
  refine Vn rfl (cB t) (Vn rfl (cB t) (V (bX (cB t) rfl) ?_))
  cases x
  exact G _ _ ⟨_, (hST.sel St), rfl, rfl, rfl, rfl⟩
theorem uI (i : aB) (g : Value) (x : Int) (r : Bool) (w : World) (c : Sl aK 5 (hp w) g i.Kids) (hm : nA i x = some r) :
    bO true Tryz.prog 433 [(.agg #[(.int .i64 i.Op), (.int .i64 i.K), (.string i.Role.Owner), (.string i.Role.Word), g]), (.int .i64 x)] w (.bool r) := by
  have hST := ST.start (dd := true) w
  unfold nA at hm
  refine cF 15 Tryz.func433 rfl (aD (aA ?_))
  obtain ⟨B, D, rfl⟩ := c.form
  refine VE (cO (v := (.agg (C3 i.Op i.K i.Role.Owner i.Role.Word B i.Kids.length D).toArray)) hST rfl (fun G H hST => V (aG rfl) (aF (aH (aD (aA (V (aN nR rfl) (V (aJ rfl (aP hST.has Mh rfl Tryz.isAgg3)) (V (aC rfl) (V (aQ rfl rfl rfl) (V (aC rfl) (LJ hm (fun t E W => ∃  (u : List (Nat × Obj)), ST true dC w W (hp w) u ∧ E 4 = (.bool false) ∧ E 14 = (.bool t)) 5 ?_ (fun t j k => ?_)))))))))))))
  · rintro J E W ⟨u, hST, I, y⟩ z
    refine V (aG y) (aF (aH (aU ?_)))
    have hx := sj z; subst hx
    exact rP hST
  refine bC j (fun a j => ?_) (fun a j => ?_)
  · refine Vg rfl (cB a) (aN lK rfl) (Vg rfl (cB a) (aJ rfl (aP hST.has Mh rfl Tryz.isAgg111)) (Vg rfl (cB a) (dO Tryz.underlying111 rfl c) (Vg rfl (cB a) (aQ rfl rfl rfl) (V (bU (cB a) rfl) ?_))))
    cases j
    exact k _ _ ⟨_, (hST.sel (Db St)), rfl, rfl⟩
  refine Vn rfl (cB a) (Vn rfl (cB a) (Vn rfl (cB a) (Vn rfl (cB a) (V (bX (cB a) rfl) ?_))))
  cases j
  exact k _ _ ⟨_, (hST.sel (Db St)), rfl, rfl⟩
theorem Bv  (r : aB) (w : World) {c : bD} (i : jU c [] w)  (hm : rT  = some r) :
    eS true Tryz.prog 434 [] w c [] (fun v g j => ∃ (a : Value), v = (.agg #[(.int .i64 ((r).Op)), (.int .i64 ((r).K)), (.string (((r).Role).Owner)), (.string (((r).Role).Word)), a]) ∧ g = [] ∧ Sl aK 5 j a ((r).Kids)) := by
  have hST := ST.startE (dd := true) i
  unfold rT at hm
  refine cF 2 Tryz.func434 rfl (aD (aA (VE (bL hST Tryz.zeroValue113 (fun k u hST => aF (aH (aD (aA (V (bJ (qs := #[(0, (.int .i64 2))]) (v := (.agg Gs.toArray)) (bM rfl) (aW Tryz.zeroValue113 Tryz.underlying113 (tu _ Tryz.underlying113) (by kernel_rfl))) (VO (bH (.agg Gs.toArray) (Gs.toArray) hST rfl rfl Tryz.sizeOf113 (by simp [Value.cells, Value.oneCell']) nb rfl (fun t hST => aF (aH (aU ?_))))))))))))))
  have hx := sj hm; subst hx
  exact kM (v := (.agg Gs.toArray)) rfl rfl (aM hST.has Mh Gs rfl Tryz.isAgg113 Tryz.sizeOf113) ⟨_, _, _, rfl, (hST.bkM Sn), (bE.refl _), Lo.refl, (ST.sub_hpx hST (fF.mem Sn)), (.slice none 0 0), rfl, rfl, (Sl.nil _ _ _)⟩
theorem Cc  (r : aB) (w : World) {c : bD} (i : jU c [] w)  (hm : sG  = some r) :
    eS true Tryz.prog 435 [] w c [] (fun v g j => ∃ (a : Value), v = (.agg #[(.int .i64 ((r).Op)), (.int .i64 ((r).K)), (.string (((r).Role).Owner)), (.string (((r).Role).Word)), a]) ∧ g = [] ∧ Sl aK 5 j a ((r).Kids)) := by
  have hST := ST.startE (dd := true) i
  unfold sG at hm
  refine cF 2 Tryz.func435 rfl (aD (aA (VE (bL hST Tryz.zeroValue113 (fun k u hST => aF (aH (aD (aA (V (bJ (qs := #[(0, (.int .i64 3))]) (v := (.agg Gx.toArray)) (bM rfl) (aW Tryz.zeroValue113 Tryz.underlying113 (tu _ Tryz.underlying113) (by kernel_rfl))) (VO (bH (.agg Gx.toArray) (Gx.toArray) hST rfl rfl Tryz.sizeOf113 (by simp [Value.cells, Value.oneCell']) nb rfl (fun t hST => aF (aH (aU ?_))))))))))))))
  have hx := sj hm; subst hx
  exact kM (v := (.agg Gx.toArray)) rfl rfl (aM hST.has Mh Gx rfl Tryz.isAgg113 Tryz.sizeOf113) ⟨_, _, _, rfl, (hST.bkM Sn), (bE.refl _), Lo.refl, (ST.sub_hpx hST (fF.mem Sn)), (.slice none 0 0), rfl, rfl, (Sl.nil _ _ _)⟩
theorem CT (T : Int) (J : Value) (M : List aB) (r : List aB) (w : World) {Q : bD} (h0 : jU Q [] w) (I : Sl aK 5 Q J M) (hm : tz T M = some r) :
    eS true Tryz.prog 437 [(.int .i64 T), J] w Q [] (fun v L1 μ1 => ∃ (y1 : Value), v = y1 ∧ L1 = [] ∧ Sl aK 5 μ1 y1 (r)) := by
  have hST := ST.startE (dd := true) h0
  unfold tz at hm
  refine cF 28 Tryz.func437 rfl (aD (aA (V (aG rfl) (aF (aH (aD (aA (V (aG rfl) (aF (aH (aD (aD (aA (V (aC rfl) ?_))))))))))))))
  refine V (dO Tryz.underlying111 rfl I) (V (aC rfl) (aF (aH (dA (fun i E W => ∃ (t : Value) (G : List aB) (k : List (Nat × Obj)) (H : List (Nat × Obj)), (E 10 = .int .i64 (i : Nat) ∧ E 9 = .int .i64 (M.length : Nat)) ∧ ST true (keys []) w W Q (k ++ H) ∧ E 0 = (.int .i64 T) ∧ E 5 = t ∧ E 8 = J ∧ bG 113 aK 5 Q t G k ∧ iQ T (M.drop i) G = some r) M.length I.len ⟨(.slice none 0 0), ([]), [], _, ⟨rfl, rfl⟩, (hST.sel St), rfl, rfl, rfl, (bG.nil _ _ _ _), hm⟩ (by decide) (by decide) (by decide) (fun _ _ _ h => by obtain ⟨_, _, _, _, eIN, _⟩ := h; exact eIN) ?_ ?_))))
  · rintro b5 E W a4 ⟨t, G, k, H, ⟨eI, eN⟩, hST, x, y, z, u, c⟩
    obtain ⟨a, b7, a8, a7, K⟩ := cR a4
    rw [a8] at c
    rw [iQ] at c
    refine aY (aD (aA (VQ (eV (i := (b5 : Int)) (x0 := a) aK.out Tryz.underlying111 Tryz.sizeOf113 z eI I (Int.natCast_nonneg _) a7) (fun c8 ⟨_, ⟨c9, rfl, D⟩, a5⟩ => V (aJ rfl (bN hST.has a5 Tryz.isAgg113 Tryz.sizeOf113)) (VE (bL hST Tryz.zeroValue113 (fun c0 c5 hST => ?_)))))))
    obtain ⟨g, j, rfl⟩ := D.form
    refine VO (bH (.agg (C3 a.Op a.K a.Role.Owner a.Role.Word g a.Kids.length j).toArray) ((C3 a.Op a.K a.Role.Owner a.Role.Word g a.Kids.length j).toArray) hST rfl rfl Tryz.sizeOf113 (by simp [Value.cells, Value.oneCell']) nb rfl (fun c1 hST => aF (aH (aD (aA (V (aN nR rfl) (V (aJ rfl (aP hST.has Mh rfl Tryz.isAgg3)) (V (aC x) (V (aQ rfl rfl rfl) (aF (aH (CI c rfl (fun Z c => ?_) (fun Z c => ?_)))))))))))))
    · refine aA (V (aC y) (V (aN lK rfl) (V (aJ rfl (aP hST.has Mh rfl Tryz.isAgg111)) ?_)))
      replace hST := hST.perm (Nr (Qb Qz) Nz)
      refine bS c fun b1 a2 c => VE (sw (B := k) aV hST (by decide) Tryz.underlying111 gV.1 gV.2.1 rfl gV.2.2.1 gV.2.2.2 rfl rfl u (yD.sl aV D hST.sub_hp) a2 (fun c2 b3 a9 hST U => V (aG rfl) (aF (cL (aH ?_)))))
      replace hST := hST.sel (Kr (Db St))
      exact ⟨eI, b3, b1, a9, _, ⟨rfl, eN⟩, (hST.sel St), x, rfl, z, U, (by rw [K]; exact c)⟩
    refine aA (V (aC y) (V (aJ rfl (aM hST.has Mh (C3 a.Op a.K a.Role.Owner a.Role.Word g a.Kids.length j) rfl Tryz.isAgg113 Tryz.sizeOf113)) (VE (aR (qs := #[(0, (.agg (C3 a.Op a.K a.Role.Owner a.Role.Word g a.Kids.length j).toArray))]) (cs := (C3 a.Op a.K a.Role.Owner a.Role.Word g a.Kids.length j).toArray) hST (bM rfl) (bB [(.agg (C3 a.Op a.K a.Role.Owner a.Role.Word g a.Kids.length j).toArray)] Tryz.underlying111 Tryz.sizeOf113 Tryz.zeroValue113 (by decide) rfl (by intro v hv; simp only [List.mem_cons, List.not_mem_nil, or_false] at hv; rcases hv with rfl <;> rfl) rfl rfl) (fun c3 c6 hST => ?_)))))
    replace hST := hST.perm (Nr (Qb (Qb Qz)) Nz)
    refine bS c fun b2 a3 c => VE (sw (B := k) aV hST (by decide) Tryz.underlying111 gV.1 gV.2.1 rfl gV.2.2.1 gV.2.2.2 rfl rfl u (yD.lit aV (l := [a]) (.cons (ys := C3 a.Op a.K a.Role.Owner a.Role.Word g a.Kids.length j) (aK.mk ⟨(.slice g a.Kids.length j), rfl, D⟩) .nil) rfl nb (hST.at_ (Ma Mh))) a3 (fun c4 b4 b0 hST Y => V (aG rfl) (aF (cL (aH ?_)))))
    replace hST := hST.sel (Kr (Db (Db St)))
    exact ⟨eI, b4, b2, b0, _, ⟨rfl, eN⟩, (hST.sel St), x, rfl, z, Y, (by rw [K]; exact c)⟩
  rintro E W ⟨t, G, k, H, ⟨eI, eN⟩, hST, x, y, z, u, c⟩
  rw [List.drop_length] at c
  rw [iQ] at c
  refine aH (aD (aA (V (aC y) (V (aG rfl) (aF (aH (aU ?_)))))))
  have hx := sj c; subst hx
  refine eA (v := t) rfl rfl ?_
  obtain ⟨d1, hST, N, hl199, a6⟩ := ST.pubD aV hST u
  exact ⟨_, _, _, rfl, (hST.bkM Sn), N, hl199, (ST.sub_hpx hST (fF.mem Sn)), t, rfl, rfl, a6⟩
theorem vG (a : aB) (g : Value) (i : Nat) (j : Int) (r : Bool) (w : World) (c : Sl aK 5 (hp w) g a.Kids) (k : At (hp w) (.pointer (some ⟨i, 0, none⟩)) [(.int .i64 j)]) (hm : jJ a j = some r) :
    bO true Tryz.prog 438 [(.agg #[(.int .i64 a.Op), (.int .i64 a.K), (.string a.Role.Owner), (.string a.Role.Word), g]), (.pointer (some ⟨i, 0, none⟩))] w (.bool r) := by
  have hST := ST.start (dd := true) w
  unfold jJ at hm
  refine cF 7 Tryz.func438 rfl (aD (aA ?_))
  obtain ⟨t, u, rfl⟩ := c.form
  refine VE (cO (v := (.agg (C3 a.Op a.K a.Role.Owner a.Role.Word t a.Kids.length u).toArray)) hST rfl (fun z D hST => V (aG rfl) (aF (aH (aD (aA (V (aJ rfl (aM hST.has Mh (C3 a.Op a.K a.Role.Owner a.Role.Word t a.Kids.length u) rfl Tryz.isAgg113 Tryz.sizeOf113)) (V (aJ rfl (nU hST.has (y := (.int .i64 j)) k Tryz.isAgg3)) (bS hm fun G x hm => VE (Eg hST Tryz.call433 ((uI a (.slice t a.Kids.length u) j _ _ (c.mono aV.mono hST.sub_hp) x)) (fun B hST => V (aG rfl) (aF (aH ?_)))))))))))))
  replace hST := hST.sel (Db St)
  refine aU ?_
  have hx := sj hm; subst hx
  exact rP hST
theorem xc (c : Value) (u : List aB) (r : List aB) (w : World) {j : bD} (I : jU j [] w) (a : Sl aK 5 j c u) (hm : nG u = some r) :
    eS true Tryz.prog 456 [c] w j [] (fun v G J => ∃ (z : Value) (t : List (Nat × Obj)), v = z ∧ G = (t ++ []) ∧ bG 113 aK 5 J z r t) := by
  have hST := ST.startE (dd := true) I
  unfold nG at hm
  refine cF 8 Tryz.func456 rfl (aD (aA (V (aG rfl) (aF (aH (aD (aD (aA (V (aC rfl) ?_)))))))))
  obtain ⟨D, Q, rfl⟩ := a.form
  refine V (wU Tryz.underlying111 rfl rfl) (aF (aH ?_))
  rcases D with _ | M
  · have y := a.isNil
    replace hm : some [] = some r := by rw [y] at hm; simpa [fK, maxLen] using hm
    refine uo (rfl) (aD (aA (V (aG rfl) (aF (aH (aU (cU ?_)))))))
    have hx := sj hm; subst hx
    refine eA (v := (.slice none 0 0)) rfl rfl ?_
    replace hST := hST.row0
    exact ⟨_, _, _, rfl, (hST.bkM (Kr Sn)), (bE.refl _), Lo.refl, (ST.sub_hpx hST (fF.mem (Kr Sn))), (.slice none 0 0), [], rfl, rfl, (bG.nil _ _ _ _)⟩
  · refine oL (rfl) (aX (aH (aD (aA (VE (aR (qs := #[]) (cs := #[]) hST nZ (bB [] Tryz.underlying111 Tryz.sizeOf113 Tryz.zeroValue113 (by decide) rfl (by simp) rfl rfl) (fun N H hST => V (aC rfl) (bS hm fun T x hm => VE (sw (B := [(H, Obj.cells (#[] : Array Value) 113 (0, 0))]) aV hST (by decide) Tryz.underlying111 gV.1 gV.2.1 rfl gV.2.2.1 gV.2.2.2 rfl rfl (bG.lit aV (l := []) .nil rfl nb rfl) (yD.sl aV a hST.sub_hp) x (fun K g k hST i => V (aG rfl) (aF (aH (aU ?_)))))))))))))
    have hx := sj hm; subst hx
    exact eA (v := g) rfl rfl ⟨_, _, _, rfl, (hST.bkM (Kr Sn)), (bE.refl _), Lo.refl, (ST.sub_hpx hST (fF.mem (Kr Sn))), g, k, rfl, rfl, i⟩
theorem nE (y : Value) (a0 : List aB) (D : List (Nat × Obj)) (a1 : Int) (a2 : Int) (T : Value) (f3 : ((aB × aB)) → Option Int) (r : List aB) (w : World) {μ0 : bD} (h0 : jU μ0 (D ++ []) w) (h2 : bG 113 aK 5 μ0 y a0 D) (h3 : sf Tryz.prog T μ0 (rn aK aK) (fun (r : Int) => (.int .i64 r)) f3) (hm : eM a0 a1 a2 f3 = some r) :
    eS false Tryz.prog 467 [y, (.int .i64 a1), (.int .i64 a2), T] w μ0 (D ++ []) (fun v L1 μ1 => ∃ (S1 : List (Nat × Obj)), v = (.tuple #[]) ∧ L1 = (S1 ++ []) ∧ bG 113 aK 5 μ1 y r S1) := by
  have hST := ST.startE (dd := false) h0
  unfold eM at hm
  refine cF 53 Tryz.func467 rfl (aD (aA (V (aC rfl) (V (aQ rfl rfl rfl) (V (aG rfl) (aF (aH (qP (aY (iV (fun m E W => ∃ (Y : List aB) (J : List (Nat × Obj)) (x : Int) (c9 : List (Nat × Obj)), ST false (keys (D ++ [])) w W μ0 (J ++ c9) ∧ E 0 = y ∧ E 1 = (.int .i64 a1) ∧ E 2 = (.int .i64 a2) ∧ E 3 = T ∧ E 8 = (.int .i64 x) ∧ bG 113 aK 5 μ0 y Y J ∧ cM a2 a1 f3 m Y x = some r) cE ⟨a0, D, ((IntKind.i64.wrap (a1 + 1))), _, (hST.sel St), rfl, rfl, rfl, rfl, rfl, h2, hm⟩ ?_))))))))))
  rintro m E W ⟨Y, J, x, c9, hST, f9, g0, d1, g1, b5, c6, u⟩
  cases m with
  | zero => rw [cM] at u; cases u
  | succ g9 =>
    rw [cM] at u
    refine aD (aD (aA (V (aC b5) (V (aC d1) (V (aQ rfl rfl rfl) (aF (aH (CI u rfl (fun e9 u => ?_) (fun e9 u => ?_)))))))))
    · refine aX (aH (aD (aY (aD (aA (V (aC b5) (V (aG rfl) (aF (aH (qP (CJ u (fun b6 E W => ∃ (U : List (Nat × Obj)) (d0 : List (Nat × Obj)), ST false (keys (D ++ [])) w W μ0 (U ++ d0) ∧ E 0 = y ∧ E 1 = (.int .i64 a1) ∧ E 2 = (.int .i64 a2) ∧ E 3 = T ∧ E 8 = (.int .i64 x) ∧ bG 113 aK 5 μ0 y b6 U) (fun b6 f1 => ?_) ?_)))))))))))
      · refine aY (iV (fun m E W => ∃ (M : List aB) (B : List (Nat × Obj)) (j : Int) (b7 : List (Nat × Obj)), ST false (keys (D ++ [])) w W μ0 (B ++ b7) ∧ E 0 = y ∧ E 1 = (.int .i64 a1) ∧ E 2 = (.int .i64 a2) ∧ E 3 = T ∧ E 8 = (.int .i64 x) ∧ E 9 = (.int .i64 j) ∧ bG 113 aK 5 μ0 y M B ∧ cY a1 f3 m M j = some b6) cE ⟨Y, J, x, _, (hST.sel St), f9, g0, d1, g1, b5, rfl, c6, f1⟩ ?_)
        rintro m E W ⟨M, B, j, b7, hST, K, Z, c0, a3, c1, G, t, I⟩
        cases m with
        | zero => rw [cY] at I; cases I
        | succ f4 =>
          rw [cY] at I
          refine aD (aD ?_)
          replace hST := hST.drew
          have hS0 := hST.has.sel (Kr Sn)
          refine cX hS0 cC (X 0 rfl hS0 (aC G) (X 1 rfl hS0 (aC Z) (X 2 rfl hS0 (aQ rfl rfl rfl) (X 3 rfl hS0 (aC rfl) (PJ I (fun c7 E W => ∃  (b9 : List (Nat × Obj)), ST false (keys (D ++ [])) w W μ0 (B ++ b9) ∧ E 0 = y ∧ E 1 = (.int .i64 a1) ∧ E 2 = (.int .i64 a2) ∧ E 3 = T ∧ E 8 = (.int .i64 x) ∧ E 9 = (.int .i64 j) ∧ E 34 = (.bool c7)) (bm 17 131071) 0 ?_ (fun c7 g a4 => ?_))))))
          · rintro k0 E W ⟨b9, hST, z, c2, c3, c4, c5, H, e8⟩ c
            have hS0 := hST.has.sel (Kr Sn)
            refine dB (by kernel_rfl) (aH (CI c e8 (fun d3 c => ?_) (fun d3 c => ?_)))
            · refine aX (aH (aD (aY ?_)))
              replace hST := hST.drew
              have hS0 := hST.has.sel Sn
              have hS1 := hST.has.sel (Kr Sn)
              refine qY 15 hS0 hS1 cC (cN 0 rfl (by kernel_rfl) (.inl rfl) rfl (by decide) (fun _ _ h => ⟨h.1, dG (by rfl) h.2⟩) ⟨hS0, fun _ => hS1⟩ (fun _ _ _ _ => aC z) (cN 1 rfl (by kernel_rfl) (.inl rfl) rfl (by decide) (fun _ _ h => ⟨h.1, dG (by rfl) h.2⟩) ⟨hS0, fun _ => hS1⟩ (fun _ _ _ _ => aC H) (cN 2 rfl (by kernel_rfl) (.inl rfl) rfl (by decide) (fun _ _ h => ⟨h.1, dG (by rfl) h.2⟩) ⟨hS0, fun _ => hS1⟩ (fun _ _ _ _ => aC z) (cN 3 rfl (by kernel_rfl) (.inl rfl) rfl (by decide) (fun _ _ h => ⟨h.1, dG (by rfl) h.2⟩) ⟨hS0, fun _ => hS1⟩ (fun _ _ _ _ => aC H) (cN 4 rfl (by kernel_rfl) (.inl rfl) rfl (by decide) (fun _ _ h => ⟨h.1, dG (by rfl) h.2⟩) ⟨hS0, fun _ => hS1⟩ (fun _ _ _ _ => aQ rfl rfl rfl) (cN 5 rfl (by kernel_rfl) (.inl rfl) rfl (by decide) (fun _ _ h => ⟨h.1, dG (by rfl) h.2⟩) ⟨hS0, fun _ => hS1⟩ (fun _ _ _ _ => aC z) (cN 6 rfl (by kernel_rfl) (.inl rfl) rfl (by decide) (fun _ _ h => ⟨h.1, dG (by rfl) h.2⟩) ⟨hS0, fun _ => hS1⟩ (fun _ _ _ _ => aC H) (cN 7 rfl (by kernel_rfl) (.inl rfl) rfl (by decide) (fun _ _ h => ⟨h.1, dG (by rfl) h.2⟩) ⟨hS0, fun _ => hS1⟩ (fun _ _ _ _ => aQ rfl rfl rfl) (bS c fun a5 b0 c => pB 8 rfl (by kernel_rfl) (.inl rfl) rfl (by decide) (fun _ _ h => ⟨h.1, dG (by rfl) h.2⟩) ⟨hS0, fun _ => hS1⟩ (dD (i := (IntKind.i64.wrap (j - 1))) aK.out Tryz.underlying111 Tryz.sizeOf113 rfl rfl t (bY b0) (bT b0)) (fun i7 ⟨_, ⟨j6, rfl, a8⟩, d6, h4⟩ => cN 9 rfl (by kernel_rfl) (.inl rfl) rfl (by decide) (fun _ _ h => ⟨h.1, dG (by rfl) h.2⟩) ⟨hS0, fun _ => hS1⟩ (fun l W hpd hs => have hS := (hs.2 (hpd.bar 15 [9] (by kernel_rfl) rfl)); aJ rfl (bN (iA.hp _) (d6.mono (eG (fun b o hq => hS.2 b o (Ml hq)))) Tryz.isAgg113 Tryz.sizeOf113)) (cN 10 rfl (by kernel_rfl) (.inl rfl) rfl (by decide) (fun _ _ h => ⟨h.1, dG (by rfl) h.2⟩) ⟨hS0, fun _ => hS1⟩ (fun _ _ _ _ => aC z) (cN 11 rfl (by kernel_rfl) (.inl rfl) rfl (by decide) (fun _ _ h => ⟨h.1, dG (by rfl) h.2⟩) ⟨hS0, fun _ => hS1⟩ (fun _ _ _ _ => aC H) (bS c fun k b1 c => ?_)))))))))))))
              refine pB 12 rfl (by kernel_rfl) (.inl rfl) rfl (by decide) (fun _ _ h => ⟨h.1, dG (by rfl) h.2⟩) ⟨hS0, fun _ => hS1⟩ (dD (i := j) aK.out Tryz.underlying111 Tryz.sizeOf113 rfl rfl t (bY b1) (bT b1)) (fun i8 ⟨_, ⟨j7, rfl, a9⟩, d7, h5⟩ => cN 13 rfl (by kernel_rfl) (.inl rfl) rfl (by decide) (fun _ _ h => ⟨h.1, dG (by rfl) h.2⟩) ⟨hS0, fun _ => hS1⟩ (fun l W hpd hs => have hS := (hs.2 (hpd.bar 15 [13] (by kernel_rfl) rfl)); aJ rfl (bN (iA.hp _) (d7.mono (eG (fun b o hq => hS.2 b o (Ml hq)))) Tryz.isAgg113 Tryz.sizeOf113)) (bS c fun k1 N c => pB 14 rfl (by kernel_rfl) (.inl rfl) rfl (by decide) (fun _ _ h => ⟨h.1, dG (by rfl) h.2⟩) ⟨hS0, fun _ => hS1⟩ (dD (i := j) aK.out Tryz.underlying111 Tryz.sizeOf113 rfl rfl t (bY N) (bT N)) (fun i9 ⟨_, ⟨j8, rfl, i0⟩, h8, d4⟩ => ?_)))
              obtain ⟨e3, e6, rfl⟩ := a8.form
              refine XO 15 rfl (lV (x1 := a5) aV hST t rfl rfl (aK.mk ⟨(.slice e3 a5.Kids.length e6), rfl, a8⟩) d4 (bT N) Tryz.sizeOf113 (fun i4 i2 hST a7 => ?_))
              have hS0 := hST.has.sel Sn
              refine ⟨⟨hS0, fun h => vh (by kernel_rfl) h⟩, (bS c fun k2 Q c => pB 16 rfl (by kernel_rfl) (.inl rfl) rfl (by decide) (fun _ _ h => ⟨h.1, dG (by rfl) h.2⟩) ⟨hS0, fun h => vh (by kernel_rfl) h⟩ (dD (i := (IntKind.i64.wrap (j - 1))) aK.out Tryz.underlying111 Tryz.sizeOf113 rfl rfl a7 (bY Q) (bT Q)) (fun j0 ⟨_, ⟨j9, rfl, i1⟩, h9, d5⟩ => ?_))⟩
              obtain ⟨e4, e7, rfl⟩ := a9.form
              refine XO 17 rfl (lV (x1 := ((⟨k.Op, k.K, k.Role, k.Kids⟩ : aB))) aV hST a7 rfl rfl (aK.mk ⟨(.slice e4 k.Kids.length e7), rfl, a9⟩) d5 (bT Q) Tryz.sizeOf113 (fun i5 e5 hST d2 => ?_))
              have hS0 := hST.has.sel Sn
              exact ⟨⟨hS0, fun h => vh (by kernel_rfl) h⟩, (dB (by kernel_rfl) (cL (aH (aA (V (aC H) (V (aQ rfl rfl rfl) (V (aG rfl) (aF (aH ⟨f4, Nat.lt_succ_self _, ((((M.set (Int.toNat j) a5)).set (Int.toNat ((IntKind.i64.wrap (j - 1)))) ((⟨k.Op, k.K, k.Role, k.Kids⟩ : aB)))), e5, ((IntKind.i64.wrap (j - 1))), _, (hST.sel St), z, c2, c3, c4, c5, rfl, d2, c⟩)))))))))⟩
            refine iD (gI (gI (pC (aH ?_))))
            cases c
            exact ⟨B, _, (hST.sel St), z, c2, c3, c4, c5, t⟩
          refine bC g (fun a g => ?_) (fun a g => ?_)
          · refine Xg 4 rfl rfl (cB a) hS0 (aC a3) (Xg 5 rfl rfl (cB a) hS0 (aC K) (Xg 6 rfl rfl (cB a) hS0 (aC G) (bS g fun f7 b2 g => pB 7 rfl (by kernel_rfl) (.inr ⟨3, true, 21, rfl, rfl, by decide, (cB a)⟩) rfl (by decide) (fun _ _ h => h) hS0 (dD (i := j) aK.out Tryz.underlying111 Tryz.sizeOf113 rfl rfl t (bY b2) (bT b2)) (fun j3 ⟨_, ⟨f5, rfl, e1⟩, d8, h6⟩ => oN 8 rfl rfl (cB a) hS0 (fun _ hS => aJ rfl (bN (iA.hp _) (d8.mono (eG (fun b o hq => hS.2 b o (Ml hq)))) Tryz.isAgg113 Tryz.sizeOf113)) (Xg 9 rfl rfl (cB a) hS0 (aC K) (Xg 10 rfl rfl (cB a) hS0 (aC G) (Xg 11 rfl rfl (cB a) hS0 (aQ rfl rfl rfl) (bS g fun f8 b3 g => pB 12 rfl (by kernel_rfl) (.inr ⟨3, true, 21, rfl, rfl, by decide, (cB a)⟩) rfl (by decide) (fun _ _ h => h) hS0 (dD (i := (IntKind.i64.wrap (j - 1))) aK.out Tryz.underlying111 Tryz.sizeOf113 rfl rfl t (bY b3) (bT b3)) (fun j4 ⟨_, ⟨f6, rfl, e2⟩, d9, h7⟩ => oN 13 rfl rfl (cB a) hS0 (fun _ hS => aJ rfl (bN (iA.hp _) (d9.mono (eG (fun b o hq => hS.2 b o (Ml hq)))) Tryz.isAgg113 Tryz.sizeOf113)) (bS g fun j5 e0 g => vm 14 rfl rfl (cB a) (ut ((f7, f8)) hST h3 (bE.refl _) (rn.mk aV aV (aK.mk ⟨f5, rfl, e1⟩) (aK.mk ⟨f6, rfl, e2⟩) hST.sub_hp) rfl (sJ rfl rfl) e0 (fun i6 hST => ?_))))))))))))
            have hS0 := hST.has.sel (Kr Sn)
            refine ⟨hS0, (Xg 15 rfl rfl (cB a) hS0 (aQ rfl rfl rfl) (X 16 rfl hS0 (bU (cB a) rfl) ?_))⟩
            cases g
            refine cV (by kernel_rfl) (a4 _ _ ⟨_, (hST.sel St), K, Z, c0, a3, c1, G, rfl⟩)
          refine Xn 4 rfl rfl (cB a) hS0 (Xn 5 rfl rfl (cB a) hS0 (Xn 6 rfl rfl (cB a) hS0 (Xn 7 rfl rfl (cB a) hS0 (Xn 8 rfl rfl (cB a) hS0 (Xn 9 rfl rfl (cB a) hS0 (Xn 10 rfl rfl (cB a) hS0 (Xn 11 rfl rfl (cB a) hS0 (Xn 12 rfl rfl (cB a) hS0 (Xn 13 rfl rfl (cB a) hS0 (Xn 14 rfl rfl (cB a) hS0 (Xn 15 rfl rfl (cB a) hS0 (X 16 rfl hS0 (bX (cB a) rfl) ?_))))))))))))
          cases g
          refine cV (by kernel_rfl) (a4 _ _ ⟨_, (hST.sel St), K, Z, c0, a3, c1, G, rfl⟩)
      rintro g8 E W ⟨U, d0, hST, g2, g3, g4, g5, g6, f2⟩ f0
      exact cL (aH (aA (V (aC g6) (V (aQ rfl rfl rfl) (V (aG rfl) (aF (aH ⟨g9, Nat.lt_succ_self _, g8, U, ((IntKind.i64.wrap (x + 1))), _, (hST.sel St), g2, g3, g4, g5, rfl, f2, f0⟩)))))))
    refine iD (gI (gI (pC (aH (lP ?_)))))
    have hx := sj u; subst hx
    exact jD rfl ⟨_, _, _, rfl, (hST.bkM (Kr Sn)), (bE.refl _), Lo.refl, (ST.sub_hpx hST (fF.mem (Kr Sn))), J, rfl, rfl, c6⟩
theorem kQ (x : Value) (a0 : List aB) (t : List (Nat × Obj)) (G : Int) (H : Int) (a3 : Int) (a5 : Value) (f4 : ((aB × aB)) → Option Int) (r : List aB) (w : World) {Y : bD} (h0 : jU Y (t ++ []) w) (c0 : bG 113 aK 5 Y x a0 t) (d5 : sf Tryz.prog a5 Y (rn aK aK) (fun (r : Int) => (.int .i64 r)) f4) (hm : eJ a0 G H a3 f4 = some r) :
    eS true Tryz.prog 472 [x, (.int .i64 G), (.int .i64 H), (.int .i64 a3), a5] w Y (t ++ []) (fun v L1 μ1 => ∃ (S1 : List (Nat × Obj)), v = (.tuple #[]) ∧ L1 = (S1 ++ []) ∧ bG 113 aK 5 μ1 x r S1) := by
  have hST := ST.startE (dd := true) h0
  unfold eJ at hm
  refine cF 38 Tryz.func472 rfl (aD (aA (V (aG rfl) (aF (aH (qP (aY (iV (fun m E W => ∃ (D : List aB) (y : List (Nat × Obj)) (c : Int) (Z : List (Nat × Obj)), ST true (keys (t ++ [])) w W Y (y ++ Z) ∧ E 0 = x ∧ E 1 = (.int .i64 G) ∧ E 2 = (.int .i64 H) ∧ E 3 = (.int .i64 a3) ∧ E 10 = (.int .i64 c) ∧ bG 113 aK 5 Y x D y ∧ dI a3 H G m D c = some r) cE ⟨a0, t, 0, _, (hST.sel St), rfl, rfl, rfl, rfl, rfl, c0, hm⟩ ?_))))))))
  rintro m E W ⟨D, y, c, Z, hST, u, I, J, a4, k, j, a⟩
  cases m with
  | zero => rw [dI] at a; cases a
  | succ c1 =>
    rw [dI] at a
    refine aD (aD (aA (V (aC k) (V (aC a4) (V (aQ rfl rfl rfl) (aF (aH (CI a rfl (fun a8 a => ?_) (fun a8 a => ?_)))))))))
    · refine aX (aH (aD (aY ?_)))
      replace hST := hST.drew
      have hS0 := hST.has.sel Sn
      have hS1 := hST.has.sel (Kr Sn)
      refine qY 21 hS0 hS1 cC (cN 0 rfl (by kernel_rfl) (.inl rfl) rfl (by decide) (fun _ _ h => ⟨h.1, dG (by rfl) h.2⟩) ⟨hS0, fun _ => hS1⟩ (fun _ _ _ _ => aC u) (cN 1 rfl (by kernel_rfl) (.inl rfl) rfl (by decide) (fun _ _ h => ⟨h.1, dG (by rfl) h.2⟩) ⟨hS0, fun _ => hS1⟩ (fun _ _ _ _ => aC I) (cN 2 rfl (by kernel_rfl) (.inl rfl) rfl (by decide) (fun _ _ h => ⟨h.1, dG (by rfl) h.2⟩) ⟨hS0, fun _ => hS1⟩ (fun _ _ _ _ => aC k) (cN 3 rfl (by kernel_rfl) (.inl rfl) rfl (by decide) (fun _ _ h => ⟨h.1, dG (by rfl) h.2⟩) ⟨hS0, fun _ => hS1⟩ (fun _ _ _ _ => aQ rfl rfl rfl) (cN 4 rfl (by kernel_rfl) (.inl rfl) rfl (by decide) (fun _ _ h => ⟨h.1, dG (by rfl) h.2⟩) ⟨hS0, fun _ => hS1⟩ (fun _ _ _ _ => aC u) (cN 5 rfl (by kernel_rfl) (.inl rfl) rfl (by decide) (fun _ _ h => ⟨h.1, dG (by rfl) h.2⟩) ⟨hS0, fun _ => hS1⟩ (fun _ _ _ _ => aC J) (cN 6 rfl (by kernel_rfl) (.inl rfl) rfl (by decide) (fun _ _ h => ⟨h.1, dG (by rfl) h.2⟩) ⟨hS0, fun _ => hS1⟩ (fun _ _ _ _ => aC k) (cN 7 rfl (by kernel_rfl) (.inl rfl) rfl (by decide) (fun _ _ h => ⟨h.1, dG (by rfl) h.2⟩) ⟨hS0, fun _ => hS1⟩ (fun _ _ _ _ => aQ rfl rfl rfl) (cN 8 rfl (by kernel_rfl) (.inl rfl) rfl (by decide) (fun _ _ h => ⟨h.1, dG (by rfl) h.2⟩) ⟨hS0, fun _ => hS1⟩ (fun _ _ _ _ => aC u) (cN 9 rfl (by kernel_rfl) (.inl rfl) rfl (by decide) (fun _ _ h => ⟨h.1, dG (by rfl) h.2⟩) ⟨hS0, fun _ => hS1⟩ (fun _ _ _ _ => aC J) (cN 10 rfl (by kernel_rfl) (.inl rfl) rfl (by decide) (fun _ _ h => ⟨h.1, dG (by rfl) h.2⟩) ⟨hS0, fun _ => hS1⟩ (fun _ _ _ _ => aC k) (cN 11 rfl (by kernel_rfl) (.inl rfl) rfl (by decide) (fun _ _ h => ⟨h.1, dG (by rfl) h.2⟩) ⟨hS0, fun _ => hS1⟩ (fun _ _ _ _ => aQ rfl rfl rfl) (bS a fun K T a => pB 12 rfl (by kernel_rfl) (.inl rfl) rfl (by decide) (fun _ _ h => ⟨h.1, dG (by rfl) h.2⟩) ⟨hS0, fun _ => hS1⟩ (dD (i := (IntKind.i64.wrap (H + c))) aK.out Tryz.underlying111 Tryz.sizeOf113 rfl rfl j (bY T) (bT T)) (fun d6 ⟨_, ⟨e0, rfl, N⟩, b1, c4⟩ => ?_))))))))))))))
      refine cN 13 rfl (by kernel_rfl) (.inl rfl) rfl (by decide) (fun _ _ h => ⟨h.1, dG (by rfl) h.2⟩) ⟨hS0, fun _ => hS1⟩ (fun l W hpd hs => have hS := (hs.2 (hpd.bar 21 [13] (by kernel_rfl) rfl)); aJ rfl (bN (iA.hp _) (b1.mono (eG (fun b o hq => hS.2 b o (Ml hq)))) Tryz.isAgg113 Tryz.sizeOf113)) (cN 14 rfl (by kernel_rfl) (.inl rfl) rfl (by decide) (fun _ _ h => ⟨h.1, dG (by rfl) h.2⟩) ⟨hS0, fun _ => hS1⟩ (fun _ _ _ _ => aC u) (cN 15 rfl (by kernel_rfl) (.inl rfl) rfl (by decide) (fun _ _ h => ⟨h.1, dG (by rfl) h.2⟩) ⟨hS0, fun _ => hS1⟩ (fun _ _ _ _ => aC I) (cN 16 rfl (by kernel_rfl) (.inl rfl) rfl (by decide) (fun _ _ h => ⟨h.1, dG (by rfl) h.2⟩) ⟨hS0, fun _ => hS1⟩ (fun _ _ _ _ => aC k) (cN 17 rfl (by kernel_rfl) (.inl rfl) rfl (by decide) (fun _ _ h => ⟨h.1, dG (by rfl) h.2⟩) ⟨hS0, fun _ => hS1⟩ (fun _ _ _ _ => aQ rfl rfl rfl) (bS a fun g U a => pB 18 rfl (by kernel_rfl) (.inl rfl) rfl (by decide) (fun _ _ h => ⟨h.1, dG (by rfl) h.2⟩) ⟨hS0, fun _ => hS1⟩ (dD (i := (IntKind.i64.wrap (G + c))) aK.out Tryz.underlying111 Tryz.sizeOf113 rfl rfl j (bY U) (bT U)) (fun d7 ⟨_, ⟨e1, rfl, Q⟩, b2, c5⟩ => cN 19 rfl (by kernel_rfl) (.inl rfl) rfl (by decide) (fun _ _ h => ⟨h.1, dG (by rfl) h.2⟩) ⟨hS0, fun _ => hS1⟩ (fun l W hpd hs => have hS := (hs.2 (hpd.bar 21 [19] (by kernel_rfl) rfl)); aJ rfl (bN (iA.hp _) (b2.mono (eG (fun b o hq => hS.2 b o (Ml hq)))) Tryz.isAgg113 Tryz.sizeOf113)) (bS a fun e5 z a => pB 20 rfl (by kernel_rfl) (.inl rfl) rfl (by decide) (fun _ _ h => ⟨h.1, dG (by rfl) h.2⟩) ⟨hS0, fun _ => hS1⟩ (dD (i := (IntKind.i64.wrap (G + c))) aK.out Tryz.underlying111 Tryz.sizeOf113 rfl rfl j (bY z) (bT z)) (fun d8 ⟨_, ⟨e2, rfl, c8⟩, c6, a9⟩ => ?_))))))))
      obtain ⟨b3, b7, rfl⟩ := N.form
      refine XO 21 rfl (lV (x1 := K) aV hST j rfl rfl (aK.mk ⟨(.slice b3 K.Kids.length b7), rfl, N⟩) a9 (bT z) Tryz.sizeOf113 (fun d2 d1 hST M => ?_))
      have hS0 := hST.has.sel Sn
      refine ⟨⟨hS0, fun h => vh (by kernel_rfl) h⟩, (bS a fun e6 B a => pB 22 rfl (by kernel_rfl) (.inl rfl) rfl (by decide) (fun _ _ h => ⟨h.1, dG (by rfl) h.2⟩) ⟨hS0, fun h => vh (by kernel_rfl) h⟩ (dD (i := (IntKind.i64.wrap (H + c))) aK.out Tryz.underlying111 Tryz.sizeOf113 rfl rfl M (bY B) (bT B)) (fun d9 ⟨_, ⟨e3, rfl, c9⟩, c7, b0⟩ => ?_))⟩
      obtain ⟨b4, b9, rfl⟩ := Q.form
      refine XO 23 rfl (lV (x1 := ((⟨g.Op, g.K, g.Role, g.Kids⟩ : aB))) aV hST M rfl rfl (aK.mk ⟨(.slice b4 g.Kids.length b9), rfl, Q⟩) b0 (bT B) Tryz.sizeOf113 (fun d3 b5 hST a7 => ?_))
      have hS0 := hST.has.sel Sn
      exact ⟨⟨hS0, fun h => vh (by kernel_rfl) h⟩, (dB (by kernel_rfl) (cL (aH (aA (V (aC k) (V (aQ rfl rfl rfl) (V (aG rfl) (aF (aH ⟨c1, Nat.lt_succ_self _, ((((D.set (Int.toNat ((IntKind.i64.wrap (G + c)))) K)).set (Int.toNat ((IntKind.i64.wrap (H + c)))) ((⟨g.Op, g.K, g.Role, g.Kids⟩ : aB)))), b5, ((IntKind.i64.wrap (c + 1))), _, (hST.sel St), u, I, J, a4, rfl, a7, a⟩)))))))))⟩
    refine iD (gI (gI (pC (aH (lP ?_)))))
    have hx := sj a; subst hx
    exact jD rfl ⟨_, _, _, rfl, (hST.bkM (Kr Sn)), (bE.refl _), Lo.refl, (ST.sub_hpx hST (fF.mem (Kr Sn))), y, rfl, rfl, j⟩
theorem uv (k : Value) (a0 : List aB) (y : List (Nat × Obj)) (a1 : Int) (D : Int) (a3 : Int) (B : Value) (U : ((aB × aB)) → Option Int) (r : List aB) (w : World) {T : bD} (h0 : jU T (y ++ []) w) (c5 : bG 113 aK 5 T k a0 y) (Q : sf Tryz.prog B T (rn aK aK) (fun (r : Int) => (.int .i64 r)) U) (hm : eF a0 a1 D a3 U = some r) :
    eS true Tryz.prog 470 [k, (.int .i64 a1), (.int .i64 D), (.int .i64 a3), B] w T (y ++ []) (fun v L1 μ1 => ∃ (S1 : List (Nat × Obj)), v = (.tuple #[]) ∧ L1 = (S1 ++ []) ∧ bG 113 aK 5 μ1 k r S1) := by
  have hST := ST.startE (dd := true) h0
  unfold eF at hm
  refine cF 58 Tryz.func470 rfl (aD (aA (V (aC rfl) (V (aC rfl) (V (aQ rfl rfl rfl) (V (aG rfl) (aF (aH (aD (aA (V (aC rfl) (V (aC rfl) (V (aQ rfl rfl rfl) (V (aG rfl) ?_))))))))))))))
  refine aF (aH (aD (aY (iV (fun m E W => ∃ (z : List aB) (x : List (Nat × Obj)) (c : Int) (t : Int) (I : bD) (Y : List (Nat × Obj)), bE T I ∧ Lo (keys (y ++ [])) w T I ∧ ST true (keys (y ++ [])) w W I (x ++ Y) ∧ E 0 = k ∧ E 2 = (.int .i64 D) ∧ E 4 = B ∧ E 10 = (.int .i64 c) ∧ E 11 = (.int .i64 t) ∧ bG 113 aK 5 I k z x ∧ dV D U m z c t = some r) cE ⟨a0, y, ((IntKind.i64.wrap (D - a1))), ((IntKind.i64.wrap (a3 - D))), T, _, (bE.refl _), Lo.refl, (hST.sel St), rfl, rfl, rfl, rfl, rfl, c5, hm⟩ ?_))))
  rintro m E W ⟨z, x, c, t, I, Y, i, hl187, hST, G, j, H, g, u, J, a⟩
  cases m with
  | zero => rw [dV] at a; cases a
  | succ a6 =>
    rw [dV] at a
    refine aD (aD (aA (V (aC g) (V (aC u) (V (aQ rfl rfl rfl) (aF (aH (CI a rfl (fun b0 a => ?_) (fun b0 a => ?_)))))))))
    · refine aX (aH (aY (aD (aA (V (aC g) (V (aC u) (V (aQ rfl rfl rfl) (aF (aH (CI a rfl (fun b1 a => ?_) (fun b1 a => ?_)))))))))))
      · refine aD (aA (V (aC G) (V (aC j) (V (aC g) (V (aQ rfl rfl rfl) (V (aC j) (V (aC u) (V (aC H) (bS a fun c6 b2 a => ?_)))))))))
        have hsz := hST.size
        refine VE (lT hST (Cr Qz Cn) Tryz.call472 (fun hH hN hsb hmm => (kQ k z x ((IntKind.i64.wrap (D - c))) D t B U _ _ ⟨hH, hN, hsb⟩ J (Q.mono i) b2)) (fun d5 e0 c8 d2 hST Z hl200 a7 => ?_))
        obtain ⟨b9, K, rfl, b5⟩ := a7
        replace K := K.symm; subst K
        replace hST := hST.perm (Tr Tn)
        exact aF (aH (aA (V (aC g) (V (aC u) (V (aQ rfl rfl rfl) (V (aG rfl) (aF (cL (aH ⟨a6, Nat.lt_succ_self _, c6, b9, ((IntKind.i64.wrap (c - t))), t, c8, _, (i.trans Z), (hl187.trans hl200), (hST.sel St), G, j, H, rfl, u, b5, a⟩)))))))))
      refine aD (aA (V (aC G) (V (aC j) (V (aC g) (V (aQ rfl rfl rfl) (V (aC j) (V (aC u) (V (aQ rfl rfl rfl) (V (aC g) (V (aQ rfl rfl rfl) (V (aC g) (V (aC H) (bS a fun c7 b3 a => ?_)))))))))))))
      have hsz := hST.size
      refine VE (lT hST (Cr Qz Cn) Tryz.call472 (fun hH hN hsb hmm => (kQ k z x ((IntKind.i64.wrap (D - c))) ((IntKind.i64.wrap (((IntKind.i64.wrap (D + t))) - c))) c B U _ _ ⟨hH, hN, hsb⟩ J (Q.mono i) b3)) (fun d6 e1 c9 d3 hST a4 hl212 a8 => ?_))
      obtain ⟨c0, M, rfl, b6⟩ := a8
      replace M := M.symm; subst M
      replace hST := hST.perm (Tr Tn)
      exact aF (aH (aA (V (aC u) (V (aC g) (V (aQ rfl rfl rfl) (V (aG rfl) (aF (cL (aH ⟨a6, Nat.lt_succ_self _, c7, c0, c, ((IntKind.i64.wrap (t - c))), c9, _, (i.trans a4), (hl187.trans hl212), (hST.sel St), G, j, H, g, rfl, b6, a⟩)))))))))
    refine iD (gI (gI (pC (aH (aA (V (aC G) (V (aC j) (V (aC g) (V (aQ rfl rfl rfl) (V (aC j) (V (aC g) (V (aC H) (bS a fun d9 b4 a => ?_)))))))))))))
    have hsz := hST.size
    refine VE (lT hST (Cr Qz Cn) Tryz.call472 (fun hH hN hsb hmm => (kQ k z x ((IntKind.i64.wrap (D - c))) D c B U _ _ ⟨hH, hN, hsb⟩ J (Q.mono i) b4)) (fun d7 e2 e4 d4 hST a5 hl224 a9 => ?_))
    obtain ⟨c1, N, rfl, b7⟩ := a9
    replace N := N.symm; subst N
    replace hST := hST.perm (Tr Tn)
    refine aF (lP ?_)
    have hx := sj a; subst hx
    exact jD rfl ⟨_, _, _, rfl, (hST.bkM (Kr Sn)), (i.trans a5), (hl187.trans hl224), (ST.sub_hpx hST (fF.mem (Kr Sn))), c1, rfl, rfl, b7⟩
theorem sa (t4 : (List aB) → Int → Int → Int → (((aB × aB)) → Option Int) → Option (List aB)) (s4 : ∀ (t : Value) (a0 : List aB) (c : List (Nat × Obj)) (z : Int) (M : Int) (B : Int) (D : Value) (f4 : ((aB × aB)) → Option Int) (r : List aB) (w : World) {U : bD} (h0 : jU U (c ++ []) w) (a5 : bG 113 aK 5 U t a0 c) (c6 : sf Tryz.prog D U (rn aK aK) (fun (r : Int) => (.int .i64 r)) f4), t4 a0 z M B f4 = some r → eS false Tryz.prog 468 [t, (.int .i64 z), (.int .i64 M), (.int .i64 B), D] w U (c ++ []) (fun v L1 μ1 => ∃ (S1 : List (Nat × Obj)), v = (.tuple #[]) ∧ L1 = (S1 ++ []) ∧ bG 113 aK 5 μ1 t r S1)) (t : Value) (a0 : List aB) (c : List (Nat × Obj)) (z : Int) (M : Int) (B : Int) (D : Value) (f4 : ((aB × aB)) → Option Int) (r : List aB) (w : World) {U : bD} (h0 : jU U (c ++ []) w) (a5 : bG 113 aK 5 U t a0 c) (c6 : sf Tryz.prog D U (rn aK aK) (fun (r : Int) => (.int .i64 r)) f4) (hm : gK t4 a0 z M B f4 = some r) :
    eS false Tryz.prog 468 [t, (.int .i64 z), (.int .i64 M), (.int .i64 B), D] w U (c ++ []) (fun v L1 μ1 => ∃ (S1 : List (Nat × Obj)), v = (.tuple #[]) ∧ L1 = (S1 ++ []) ∧ bG 113 aK 5 μ1 t r S1) := by
  have hST := ST.startE (dd := false) h0
  unfold gK at hm
  refine cF 220 Tryz.func468 rfl (aD (aD (aA (V (aC rfl) (V (aC rfl) (V (aQ rfl rfl rfl) (V (aQ rfl rfl rfl) (aF (aH (CI hm rfl (fun ac hm => ?_) (fun ac hm => ?_)))))))))))
  · refine aD (aA (V (aC rfl) (V (aG rfl) (aF (aH (aD (aA (V (aC rfl) (V (aG rfl) (aF (aH (aD (aY (iV (fun m E W => ∃ (T : Int) (a9 : Int) (o1 : List (Nat × Obj)), ST false (keys (c ++ [])) w W U (c ++ o1) ∧ E 0 = t ∧ E 1 = (.int .i64 z) ∧ E 4 = D ∧ E 10 = (.int .i64 T) ∧ E 11 = (.int .i64 a9) ∧ cJ a0 z f4 m T a9 = some r) cE ⟨M, B, _, (hST.sel St), rfl, rfl, rfl, rfl, rfl, hm⟩ ?_))))))))))))))
    rintro m E W ⟨T, a9, o1, hST, e4, h6, k1, h7, k2, y⟩
    cases m with
    | zero => rw [cJ] at y; cases y
    | succ t3 =>
      rw [cJ] at y
      refine aD (aD (aA (V (aC h7) (V (aC k2) (V (aQ rfl rfl rfl) (aF (aH (CI y rfl (fun w7 y => ?_) (fun w7 y => ?_)))))))))
      · refine aX (aH (aY (aD (aA (V (aC h7) (V (aC k2) (V (aQ rfl rfl rfl) (V (lM (k' := .i64) (a := (IntKind.i64.wrap (T + a9))) Tryz.underlying3 Tryz.underlying353 rfl) (V (zY (a := ((IntKind.u64.wrap ((IntKind.i64.wrap (T + a9)))))) (b := 1) rfl rfl (by decide)) (V (lM (k' := .u64) (a := (Int.fdiv ((IntKind.u64.wrap ((IntKind.i64.wrap (T + a9))))) (2 ^ min (Int.toNat 1) (IntKind.bits .u64)))) Tryz.underlying353 Tryz.underlying3 rfl) (V (aG rfl) (aF (aH (aD ?_))))))))))))))
        replace hST := hST.drew
        have hS0 := hST.has.sel (Kr Sn)
        refine cX hS0 cC (X 0 rfl hS0 (aC k1) (X 1 rfl hS0 (aC e4) (X 2 rfl hS0 (aC rfl) (bS y fun z8 m9 y => XQ 3 rfl hS0 (dD (i := (IntKind.i64.wrap ((Int.fdiv ((IntKind.u64.wrap ((IntKind.i64.wrap (T + a9))))) (2 ^ min (Int.toNat 1) (IntKind.bits .u64)))))) aK.out Tryz.underlying111 Tryz.sizeOf113 rfl rfl a5 (bY m9) (bT m9)) (fun db ⟨_, ⟨z5, rfl, x5⟩, x2, bk⟩ => XH 4 rfl hS0 (fun _ hS => aJ rfl (bN (iA.hp _) (x2.mono (eG (fun b o hq => hS.2 b o (Ml hq)))) Tryz.isAgg113 Tryz.sizeOf113)) (X 5 rfl hS0 (aC e4) (X 6 rfl hS0 (aC h6) (bS y fun z9 n0 y => XQ 7 rfl hS0 (dD (i := z) aK.out Tryz.underlying111 Tryz.sizeOf113 rfl rfl a5 (bY n0) (bT n0)) (fun dc ⟨_, ⟨z6, rfl, x6⟩, x3, bl⟩ => XH 8 rfl hS0 (fun _ hS => aJ rfl (bN (iA.hp _) (x3.mono (eG (fun b o hq => hS.2 b o (Ml hq)))) Tryz.isAgg113 Tryz.sizeOf113)) (bS y fun de x4 y => XE 9 rfl (ut ((z8, z9)) hST c6 (bE.refl _) (rn.mk aV aV (aK.mk ⟨z5, rfl, x5⟩) (aK.mk ⟨z6, rfl, x6⟩) hST.sub_hp) rfl (sJ rfl rfl) x4 (fun cz hST => ?_))))))))))))
        have hS0 := hST.has.sel (Kr Sn)
        refine ⟨hS0, (X 10 rfl hS0 (aQ rfl rfl rfl) (dB (by kernel_rfl) (aH (CI y rfl (fun w8 y => ?_) (fun w8 y => ?_)))))⟩
        · exact aA (V (aC rfl) (V (aQ rfl rfl rfl) (V (aG rfl) (aF (cL (aH ⟨t3, Nat.lt_succ_self _, ((IntKind.i64.wrap (((IntKind.i64.wrap ((Int.fdiv ((IntKind.u64.wrap ((IntKind.i64.wrap (T + a9))))) (2 ^ min (Int.toNat 1) (IntKind.bits .u64)))))) + 1))), a9, _, (hST.sel St), e4, h6, k1, rfl, k2, y⟩))))))
        exact aA (V (aC rfl) (V (aG rfl) (aF (cL (aH ⟨t3, Nat.lt_succ_self _, T, ((IntKind.i64.wrap ((Int.fdiv ((IntKind.u64.wrap ((IntKind.i64.wrap (T + a9))))) (2 ^ min (Int.toNat 1) (IntKind.bits .u64)))))), _, (hST.sel St), e4, h6, k1, h7, rfl, y⟩)))))
      refine iD (gI (gI (pC (aH (aD (aD (aA (V (aC h6) (V (aG rfl) (aF (aH (CJ y (fun k3 E W => ∃ (f7 : List (Nat × Obj)) (o2 : List (Nat × Obj)), ST false (keys (c ++ [])) w W U (f7 ++ o2) ∧ bG 113 aK 5 U t k3 f7) (fun k3 x0 => ?_) ?_))))))))))))
      · refine aY (iV (fun m E W => ∃ (h8 : List aB) (f8 : List (Nat × Obj)) (b0 : Int) (k4 : List (Nat × Obj)), ST false (keys (c ++ [])) w W U (f8 ++ k4) ∧ E 0 = t ∧ E 10 = (.int .i64 T) ∧ E 13 = (.int .i64 b0) ∧ bG 113 aK 5 U t h8 f8 ∧ dM T m h8 b0 = some k3) cE ⟨a0, c, z, _, (hST.sel St), e4, h7, rfl, a5, x0⟩ ?_)
        rintro m E W ⟨h8, f8, b0, k4, hST, c7, l5, c0, d1, u⟩
        cases m with
        | zero => rw [dM] at u; cases u
        | succ y0 =>
          rw [dM] at u
          refine aD (aD (aA (V (aC c0) (V (aC l5) (V (aQ rfl rfl rfl) (V (aQ rfl rfl rfl) (aF (aH (CI u rfl (fun o9 u => ?_) (fun o9 u => ?_))))))))))
          · refine aX (aH (aD (aY ?_)))
            replace hST := hST.drew
            have hS0 := hST.has.sel Sn
            have hS1 := hST.has.sel (Kr Sn)
            refine qY 15 hS0 hS1 cC (cN 0 rfl (by kernel_rfl) (.inl rfl) rfl (by decide) (fun _ _ h => ⟨h.1, dG (by rfl) h.2⟩) ⟨hS0, fun _ => hS1⟩ (fun _ _ _ _ => aC c7) (cN 1 rfl (by kernel_rfl) (.inl rfl) rfl (by decide) (fun _ _ h => ⟨h.1, dG (by rfl) h.2⟩) ⟨hS0, fun _ => hS1⟩ (fun _ _ _ _ => aC c0) (cN 2 rfl (by kernel_rfl) (.inl rfl) rfl (by decide) (fun _ _ h => ⟨h.1, dG (by rfl) h.2⟩) ⟨hS0, fun _ => hS1⟩ (fun _ _ _ _ => aC c7) (cN 3 rfl (by kernel_rfl) (.inl rfl) rfl (by decide) (fun _ _ h => ⟨h.1, dG (by rfl) h.2⟩) ⟨hS0, fun _ => hS1⟩ (fun _ _ _ _ => aC c0) (cN 4 rfl (by kernel_rfl) (.inl rfl) rfl (by decide) (fun _ _ h => ⟨h.1, dG (by rfl) h.2⟩) ⟨hS0, fun _ => hS1⟩ (fun _ _ _ _ => aQ rfl rfl rfl) (cN 5 rfl (by kernel_rfl) (.inl rfl) rfl (by decide) (fun _ _ h => ⟨h.1, dG (by rfl) h.2⟩) ⟨hS0, fun _ => hS1⟩ (fun _ _ _ _ => aC c7) (cN 6 rfl (by kernel_rfl) (.inl rfl) rfl (by decide) (fun _ _ h => ⟨h.1, dG (by rfl) h.2⟩) ⟨hS0, fun _ => hS1⟩ (fun _ _ _ _ => aC c0) (cN 7 rfl (by kernel_rfl) (.inl rfl) rfl (by decide) (fun _ _ h => ⟨h.1, dG (by rfl) h.2⟩) ⟨hS0, fun _ => hS1⟩ (fun _ _ _ _ => aQ rfl rfl rfl) (bS u fun i1 j3 u => pB 8 rfl (by kernel_rfl) (.inl rfl) rfl (by decide) (fun _ _ h => ⟨h.1, dG (by rfl) h.2⟩) ⟨hS0, fun _ => hS1⟩ (dD (i := (IntKind.i64.wrap (b0 + 1))) aK.out Tryz.underlying111 Tryz.sizeOf113 rfl rfl d1 (bY j3) (bT j3)) (fun bo ⟨_, ⟨cg, rfl, i5⟩, r1, ad⟩ => cN 9 rfl (by kernel_rfl) (.inl rfl) rfl (by decide) (fun _ _ h => ⟨h.1, dG (by rfl) h.2⟩) ⟨hS0, fun _ => hS1⟩ (fun l W hpd hs => have hS := (hs.2 (hpd.bar 15 [9] (by kernel_rfl) rfl)); aJ rfl (bN (iA.hp _) (r1.mono (eG (fun b o hq => hS.2 b o (Ml hq)))) Tryz.isAgg113 Tryz.sizeOf113)) (cN 10 rfl (by kernel_rfl) (.inl rfl) rfl (by decide) (fun _ _ h => ⟨h.1, dG (by rfl) h.2⟩) ⟨hS0, fun _ => hS1⟩ (fun _ _ _ _ => aC c7) (cN 11 rfl (by kernel_rfl) (.inl rfl) rfl (by decide) (fun _ _ h => ⟨h.1, dG (by rfl) h.2⟩) ⟨hS0, fun _ => hS1⟩ (fun _ _ _ _ => aC c0) (bS u fun Y j4 u => ?_)))))))))))))
            refine pB 12 rfl (by kernel_rfl) (.inl rfl) rfl (by decide) (fun _ _ h => ⟨h.1, dG (by rfl) h.2⟩) ⟨hS0, fun _ => hS1⟩ (dD (i := b0) aK.out Tryz.underlying111 Tryz.sizeOf113 rfl rfl d1 (bY j4) (bT j4)) (fun bp ⟨_, ⟨ch, rfl, i6⟩, r2, ae⟩ => cN 13 rfl (by kernel_rfl) (.inl rfl) rfl (by decide) (fun _ _ h => ⟨h.1, dG (by rfl) h.2⟩) ⟨hS0, fun _ => hS1⟩ (fun l W hpd hs => have hS := (hs.2 (hpd.bar 15 [13] (by kernel_rfl) rfl)); aJ rfl (bN (iA.hp _) (r2.mono (eG (fun b o hq => hS.2 b o (Ml hq)))) Tryz.isAgg113 Tryz.sizeOf113)) (bS u fun cr e9 u => pB 14 rfl (by kernel_rfl) (.inl rfl) rfl (by decide) (fun _ _ h => ⟨h.1, dG (by rfl) h.2⟩) ⟨hS0, fun _ => hS1⟩ (dD (i := b0) aK.out Tryz.underlying111 Tryz.sizeOf113 rfl rfl d1 (bY e9) (bT e9)) (fun bq ⟨_, ⟨ci, rfl, ap⟩, al, q0⟩ => ?_)))
            obtain ⟨t5, u4, rfl⟩ := i5.form
            refine XO 15 rfl (lV (x1 := i1) aV hST d1 rfl rfl (aK.mk ⟨(.slice t5 i1.Kids.length u4), rfl, i5⟩) q0 (bT e9) Tryz.sizeOf113 (fun bb az hST i3 => ?_))
            have hS0 := hST.has.sel Sn
            refine ⟨⟨hS0, fun h => vh (by kernel_rfl) h⟩, (bS u fun cs f0 u => pB 16 rfl (by kernel_rfl) (.inl rfl) rfl (by decide) (fun _ _ h => ⟨h.1, dG (by rfl) h.2⟩) ⟨hS0, fun h => vh (by kernel_rfl) h⟩ (dD (i := (IntKind.i64.wrap (b0 + 1))) aK.out Tryz.underlying111 Tryz.sizeOf113 rfl rfl i3 (bY f0) (bT f0)) (fun br ⟨_, ⟨cj, rfl, aq⟩, am, q1⟩ => ?_))⟩
            obtain ⟨t6, u5, rfl⟩ := i6.form
            refine XO 17 rfl (lV (x1 := ((⟨Y.Op, Y.K, Y.Role, Y.Kids⟩ : aB))) aV hST i3 rfl rfl (aK.mk ⟨(.slice t6 Y.Kids.length u5), rfl, i6⟩) q1 (bT f0) Tryz.sizeOf113 (fun bc t9 hST o7 => ?_))
            have hS0 := hST.has.sel Sn
            exact ⟨⟨hS0, fun h => vh (by kernel_rfl) h⟩, (dB (by kernel_rfl) (cL (aH (aA (V (aC c0) (V (aQ rfl rfl rfl) (V (aG rfl) (aF (aH ⟨y0, Nat.lt_succ_self _, ((((h8.set (Int.toNat b0) i1)).set (Int.toNat ((IntKind.i64.wrap (b0 + 1)))) ((⟨Y.Op, Y.K, Y.Role, Y.Kids⟩ : aB)))), t9, ((IntKind.i64.wrap (b0 + 1))), _, (hST.sel St), c7, l5, rfl, o7, u⟩)))))))))⟩
          refine iD (gI (gI (pC (aH ?_))))
          cases u
          exact ⟨f8, _, (hST.sel St), d1⟩
      rintro da E W ⟨f7, o2, hST, x7⟩ w9
      refine aU (cU ?_)
      have hx := sj w9; subst hx
      exact jD rfl ⟨_, _, _, rfl, (hST.bkM (Kr Sn)), (bE.refl _), Lo.refl, (ST.sub_hpx hST (fF.mem (Kr Sn))), f7, rfl, rfl, x7⟩
  refine aX (aH (aD (aD (aA (V (aC rfl) (V (aC rfl) (V (aQ rfl rfl rfl) (V (aQ rfl rfl rfl) (aF (aH (CI hm rfl (fun p0 hm => ?_) (fun p0 hm => ?_))))))))))))
  · refine aD (aA (V (aC rfl) (V (aG rfl) (aF (aH (aD (aA (V (aC rfl) (V (aG rfl) (aF (aH (aD (aY (iV (fun m E W => ∃ (G : Int) (N : Int) (k5 : List (Nat × Obj)), ST false (keys (c ++ [])) w W U (c ++ k5) ∧ E 0 = t ∧ E 2 = (.int .i64 M) ∧ E 4 = D ∧ E 14 = (.int .i64 G) ∧ E 15 = (.int .i64 N) ∧ cK a0 M f4 m G N = some r) cE ⟨z, M, _, (hST.sel St), rfl, rfl, rfl, rfl, rfl, hm⟩ ?_))))))))))))))
    rintro m E W ⟨G, N, k5, hST, c8, d5, f9, d6, g0, j⟩
    cases m with
    | zero => rw [cK] at j; cases j
    | succ n1 =>
      rw [cK] at j
      refine aD (aD (aA (V (aC d6) (V (aC g0) (V (aQ rfl rfl rfl) (aF (aH (CI j rfl (fun p1 j => ?_) (fun p1 j => ?_)))))))))
      · refine aX (aH (aY (aD (aA (V (aC d6) (V (aC g0) (V (aQ rfl rfl rfl) (V (lM (k' := .i64) (a := (IntKind.i64.wrap (G + N))) Tryz.underlying3 Tryz.underlying353 rfl) (V (zY (a := ((IntKind.u64.wrap ((IntKind.i64.wrap (G + N)))))) (b := 1) rfl rfl (by decide)) (V (lM (k' := .u64) (a := (Int.fdiv ((IntKind.u64.wrap ((IntKind.i64.wrap (G + N))))) (2 ^ min (Int.toNat 1) (IntKind.bits .u64)))) Tryz.underlying353 Tryz.underlying3 rfl) (V (aG rfl) (aF (aH (aD ?_))))))))))))))
        replace hST := hST.drew
        have hS0 := hST.has.sel (Kr Sn)
        refine cX hS0 cC (X 0 rfl hS0 (aC f9) (X 1 rfl hS0 (aC c8) (X 2 rfl hS0 (aC d5) (bS j fun y6 j5 j => XQ 3 rfl hS0 (dD (i := M) aK.out Tryz.underlying111 Tryz.sizeOf113 rfl rfl a5 (bY j5) (bT j5)) (fun bs ⟨_, ⟨y2, rfl, s5⟩, r3, af⟩ => XH 4 rfl hS0 (fun _ hS => aJ rfl (bN (iA.hp _) (r3.mono (eG (fun b o hq => hS.2 b o (Ml hq)))) Tryz.isAgg113 Tryz.sizeOf113)) (X 5 rfl hS0 (aC c8) (X 6 rfl hS0 (aC rfl) (bS j fun y7 j6 j => XQ 7 rfl hS0 (dD (i := (IntKind.i64.wrap ((Int.fdiv ((IntKind.u64.wrap ((IntKind.i64.wrap (G + N))))) (2 ^ min (Int.toNat 1) (IntKind.bits .u64)))))) aK.out Tryz.underlying111 Tryz.sizeOf113 rfl rfl a5 (bY j6) (bT j6)) (fun bt ⟨_, ⟨y3, rfl, s6⟩, r4, ag⟩ => XH 8 rfl hS0 (fun _ hS => aJ rfl (bN (iA.hp _) (r4.mono (eG (fun b o hq => hS.2 b o (Ml hq)))) Tryz.isAgg113 Tryz.sizeOf113)) (bS j fun cb r9 j => XE 9 rfl (ut ((y6, y7)) hST c6 (bE.refl _) (rn.mk aV aV (aK.mk ⟨y2, rfl, s5⟩) (aK.mk ⟨y3, rfl, s6⟩) hST.sub_hp) rfl (sJ rfl rfl) r9 (fun bd hST => ?_))))))))))))
        have hS0 := hST.has.sel (Kr Sn)
        refine ⟨hS0, (X 10 rfl hS0 (aQ rfl rfl rfl) (X 11 rfl hS0 (fV rfl) (dB (by kernel_rfl) (aH (CI j rfl (fun p2 j => ?_) (fun p2 j => ?_))))))⟩
        · exact aA (V (aC rfl) (V (aQ rfl rfl rfl) (V (aG rfl) (aF (cL (aH ⟨n1, Nat.lt_succ_self _, ((IntKind.i64.wrap (((IntKind.i64.wrap ((Int.fdiv ((IntKind.u64.wrap ((IntKind.i64.wrap (G + N))))) (2 ^ min (Int.toNat 1) (IntKind.bits .u64)))))) + 1))), N, _, (hST.sel St), c8, d5, f9, rfl, g0, j⟩))))))
        exact aA (V (aC rfl) (V (aG rfl) (aF (cL (aH ⟨n1, Nat.lt_succ_self _, G, ((IntKind.i64.wrap ((Int.fdiv ((IntKind.u64.wrap ((IntKind.i64.wrap (G + N))))) (2 ^ min (Int.toNat 1) (IntKind.bits .u64)))))), _, (hST.sel St), c8, d5, f9, d6, rfl, j⟩)))))
      refine iD (gI (gI (pC (aH (aD (aD (aA (V (aC d5) (V (aG rfl) (aF (aH (CJ j (fun h9 E W => ∃ (d3 : List (Nat × Obj)) (k6 : List (Nat × Obj)), ST false (keys (c ++ [])) w W U (d3 ++ k6) ∧ bG 113 aK 5 U t h9 d3) (fun h9 q5 => ?_) ?_))))))))))))
      · refine aY (iV (fun m E W => ∃ (e2 : List aB) (d4 : List (Nat × Obj)) (Q : Int) (k7 : List (Nat × Obj)), ST false (keys (c ++ [])) w W U (d4 ++ k7) ∧ E 0 = t ∧ E 14 = (.int .i64 G) ∧ E 17 = (.int .i64 Q) ∧ bG 113 aK 5 U t e2 d4 ∧ dN G m e2 Q = some h9) cE ⟨a0, c, M, _, (hST.sel St), c8, d6, rfl, a5, q5⟩ ?_)
        rintro m E W ⟨e2, d4, Q, k7, hST, c9, l6, c1, b6, x⟩
        cases m with
        | zero => rw [dN] at x; cases x
        | succ y1 =>
          rw [dN] at x
          refine aD (aD (aA (V (aC c1) (V (aC l6) (V (aQ rfl rfl rfl) (aF (aH (CI x rfl (fun p3 x => ?_) (fun p3 x => ?_)))))))))
          · refine aX (aH (aD (aY ?_)))
            replace hST := hST.drew
            have hS0 := hST.has.sel Sn
            have hS1 := hST.has.sel (Kr Sn)
            refine qY 15 hS0 hS1 cC (cN 0 rfl (by kernel_rfl) (.inl rfl) rfl (by decide) (fun _ _ h => ⟨h.1, dG (by rfl) h.2⟩) ⟨hS0, fun _ => hS1⟩ (fun _ _ _ _ => aC c9) (cN 1 rfl (by kernel_rfl) (.inl rfl) rfl (by decide) (fun _ _ h => ⟨h.1, dG (by rfl) h.2⟩) ⟨hS0, fun _ => hS1⟩ (fun _ _ _ _ => aC c1) (cN 2 rfl (by kernel_rfl) (.inl rfl) rfl (by decide) (fun _ _ h => ⟨h.1, dG (by rfl) h.2⟩) ⟨hS0, fun _ => hS1⟩ (fun _ _ _ _ => aC c9) (cN 3 rfl (by kernel_rfl) (.inl rfl) rfl (by decide) (fun _ _ h => ⟨h.1, dG (by rfl) h.2⟩) ⟨hS0, fun _ => hS1⟩ (fun _ _ _ _ => aC c1) (cN 4 rfl (by kernel_rfl) (.inl rfl) rfl (by decide) (fun _ _ h => ⟨h.1, dG (by rfl) h.2⟩) ⟨hS0, fun _ => hS1⟩ (fun _ _ _ _ => aQ rfl rfl rfl) (cN 5 rfl (by kernel_rfl) (.inl rfl) rfl (by decide) (fun _ _ h => ⟨h.1, dG (by rfl) h.2⟩) ⟨hS0, fun _ => hS1⟩ (fun _ _ _ _ => aC c9) (cN 6 rfl (by kernel_rfl) (.inl rfl) rfl (by decide) (fun _ _ h => ⟨h.1, dG (by rfl) h.2⟩) ⟨hS0, fun _ => hS1⟩ (fun _ _ _ _ => aC c1) (cN 7 rfl (by kernel_rfl) (.inl rfl) rfl (by decide) (fun _ _ h => ⟨h.1, dG (by rfl) h.2⟩) ⟨hS0, fun _ => hS1⟩ (fun _ _ _ _ => aQ rfl rfl rfl) (bS x fun i2 j7 x => pB 8 rfl (by kernel_rfl) (.inl rfl) rfl (by decide) (fun _ _ h => ⟨h.1, dG (by rfl) h.2⟩) ⟨hS0, fun _ => hS1⟩ (dD (i := (IntKind.i64.wrap (Q - 1))) aK.out Tryz.underlying111 Tryz.sizeOf113 rfl rfl b6 (bY j7) (bT j7)) (fun bu ⟨_, ⟨ck, rfl, i7⟩, r5, ah⟩ => cN 9 rfl (by kernel_rfl) (.inl rfl) rfl (by decide) (fun _ _ h => ⟨h.1, dG (by rfl) h.2⟩) ⟨hS0, fun _ => hS1⟩ (fun l W hpd hs => have hS := (hs.2 (hpd.bar 15 [9] (by kernel_rfl) rfl)); aJ rfl (bN (iA.hp _) (r5.mono (eG (fun b o hq => hS.2 b o (Ml hq)))) Tryz.isAgg113 Tryz.sizeOf113)) (cN 10 rfl (by kernel_rfl) (.inl rfl) rfl (by decide) (fun _ _ h => ⟨h.1, dG (by rfl) h.2⟩) ⟨hS0, fun _ => hS1⟩ (fun _ _ _ _ => aC c9) (cN 11 rfl (by kernel_rfl) (.inl rfl) rfl (by decide) (fun _ _ h => ⟨h.1, dG (by rfl) h.2⟩) ⟨hS0, fun _ => hS1⟩ (fun _ _ _ _ => aC c1) (bS x fun Z j8 x => ?_)))))))))))))
            refine pB 12 rfl (by kernel_rfl) (.inl rfl) rfl (by decide) (fun _ _ h => ⟨h.1, dG (by rfl) h.2⟩) ⟨hS0, fun _ => hS1⟩ (dD (i := Q) aK.out Tryz.underlying111 Tryz.sizeOf113 rfl rfl b6 (bY j8) (bT j8)) (fun bv ⟨_, ⟨cl, rfl, i8⟩, r6, ai⟩ => cN 13 rfl (by kernel_rfl) (.inl rfl) rfl (by decide) (fun _ _ h => ⟨h.1, dG (by rfl) h.2⟩) ⟨hS0, fun _ => hS1⟩ (fun l W hpd hs => have hS := (hs.2 (hpd.bar 15 [13] (by kernel_rfl) rfl)); aJ rfl (bN (iA.hp _) (r6.mono (eG (fun b o hq => hS.2 b o (Ml hq)))) Tryz.isAgg113 Tryz.sizeOf113)) (bS x fun ct f1 x => pB 14 rfl (by kernel_rfl) (.inl rfl) rfl (by decide) (fun _ _ h => ⟨h.1, dG (by rfl) h.2⟩) ⟨hS0, fun _ => hS1⟩ (dD (i := Q) aK.out Tryz.underlying111 Tryz.sizeOf113 rfl rfl b6 (bY f1) (bT f1)) (fun bw ⟨_, ⟨cm, rfl, ar⟩, an, q2⟩ => ?_)))
            obtain ⟨t7, u6, rfl⟩ := i7.form
            refine XO 15 rfl (lV (x1 := i2) aV hST b6 rfl rfl (aK.mk ⟨(.slice t7 i2.Kids.length u6), rfl, i7⟩) q2 (bT f1) Tryz.sizeOf113 (fun be ba hST i4 => ?_))
            have hS0 := hST.has.sel Sn
            refine ⟨⟨hS0, fun h => vh (by kernel_rfl) h⟩, (bS x fun cu f2 x => pB 16 rfl (by kernel_rfl) (.inl rfl) rfl (by decide) (fun _ _ h => ⟨h.1, dG (by rfl) h.2⟩) ⟨hS0, fun h => vh (by kernel_rfl) h⟩ (dD (i := (IntKind.i64.wrap (Q - 1))) aK.out Tryz.underlying111 Tryz.sizeOf113 rfl rfl i4 (bY f2) (bT f2)) (fun bx ⟨_, ⟨cn, rfl, au⟩, ao, q3⟩ => ?_))⟩
            obtain ⟨t8, u7, rfl⟩ := i8.form
            refine XO 17 rfl (lV (x1 := ((⟨Z.Op, Z.K, Z.Role, Z.Kids⟩ : aB))) aV hST i4 rfl rfl (aK.mk ⟨(.slice t8 Z.Kids.length u7), rfl, i8⟩) q3 (bT f2) Tryz.sizeOf113 (fun bf u0 hST o8 => ?_))
            have hS0 := hST.has.sel Sn
            exact ⟨⟨hS0, fun h => vh (by kernel_rfl) h⟩, (dB (by kernel_rfl) (cL (aH (aA (V (aC c1) (V (aQ rfl rfl rfl) (V (aG rfl) (aF (aH ⟨y1, Nat.lt_succ_self _, ((((e2.set (Int.toNat Q) i2)).set (Int.toNat ((IntKind.i64.wrap (Q - 1)))) ((⟨Z.Op, Z.K, Z.Role, Z.Kids⟩ : aB)))), u0, ((IntKind.i64.wrap (Q - 1))), _, (hST.sel St), c9, l6, rfl, o8, x⟩)))))))))⟩
          refine iD (gI (gI (pC (aH ?_))))
          cases x
          exact ⟨d4, _, (hST.sel St), b6⟩
      rintro bn E W ⟨d3, k6, hST, s7⟩ q4
      refine aU (cU ?_)
      have hx := sj q4; subst hx
      exact jD rfl ⟨_, _, _, rfl, (hST.bkM (Kr Sn)), (bE.refl _), Lo.refl, (ST.sub_hpx hST (fF.mem (Kr Sn))), d3, rfl, rfl, s7⟩
  refine aX (aH (aD (aA (V (aC rfl) (V (aC rfl) (V (aQ rfl rfl rfl) (V (lM (k' := .i64) (a := (IntKind.i64.wrap (z + B))) Tryz.underlying3 Tryz.underlying353 rfl) (V (zY (a := ((IntKind.u64.wrap ((IntKind.i64.wrap (z + B)))))) (b := 1) rfl rfl (by decide)) (V (lM (k' := .u64) (a := (Int.fdiv ((IntKind.u64.wrap ((IntKind.i64.wrap (z + B))))) (2 ^ min (Int.toNat 1) (IntKind.bits .u64)))) Tryz.underlying353 Tryz.underlying3 rfl) (V (aG rfl) (aF (aH (aD (aA ?_))))))))))))))
  refine V (aC rfl) (V (aC rfl) (V (aQ rfl rfl rfl) (V (aG rfl) (aF (aH (aD (aA (V (aG rfl) (V (aG rfl) (aF (aH (aD (CJ hm (fun i0 E W => ∃  (k8 : List (Nat × Obj)), ST false (keys (c ++ [])) w W U (c ++ k8) ∧ E 0 = t ∧ E 1 = (.int .i64 z) ∧ E 2 = (.int .i64 M) ∧ E 3 = (.int .i64 B) ∧ E 4 = D ∧ E 18 = (.int .i64 ((IntKind.i64.wrap ((Int.fdiv ((IntKind.u64.wrap ((IntKind.i64.wrap (z + B))))) (2 ^ min (Int.toNat 1) (IntKind.bits .u64))))))) ∧ E 19 = (.int .i64 ((IntKind.i64.wrap (((IntKind.i64.wrap ((Int.fdiv ((IntKind.u64.wrap ((IntKind.i64.wrap (z + B))))) (2 ^ min (Int.toNat 1) (IntKind.bits .u64)))))) + M)))) ∧ E 20 = (.int .i64 i0.1) ∧ E 21 = (.int .i64 i0.2)) (fun i0 b5 => ?_) ?_)))))))))))))
  · refine aD (aA (V (aC rfl) (V (aC rfl) (V (aQ rfl rfl rfl) (aF (aH (CI b5 rfl (fun p9 b5 => ?_) (fun p9 b5 => ?_))))))))
    · refine aD (aA (V (aC rfl) (V (aC rfl) (V (aQ rfl rfl rfl) (V (aG rfl) (aF (aH (aA (V (aC rfl) (V (aG rfl) (aF (aH ?_))))))))))))
      cases b5
      exact ⟨_, (hST.sel St), rfl, rfl, rfl, rfl, rfl, rfl, rfl, rfl, rfl⟩
    refine aD (aA (V (aC rfl) (V (aG rfl) (aF (aH (aA (V (aC rfl) (V (aG rfl) (aF (aH ?_))))))))))
    cases b5
    exact ⟨_, (hST.sel St), rfl, rfl, rfl, rfl, rfl, rfl, rfl, rfl, rfl⟩
  rintro ⟨y8, y9⟩ E W ⟨k8, hST, u8, u9, v0, v1, v2, v3, l7, v4, v5⟩ q6
  refine aD (aA (V (aC l7) (V (aQ rfl rfl rfl) (V (aG rfl) (aF (aH (aD (aY (iV (fun m E W => ∃ (g : Int) (K : Int) (k9 : List (Nat × Obj)), ST false (keys (c ++ [])) w W U (c ++ k9) ∧ E 0 = t ∧ E 1 = (.int .i64 z) ∧ E 2 = (.int .i64 M) ∧ E 3 = (.int .i64 B) ∧ E 4 = D ∧ E 18 = (.int .i64 ((IntKind.i64.wrap ((Int.fdiv ((IntKind.u64.wrap ((IntKind.i64.wrap (z + B))))) (2 ^ min (Int.toNat 1) (IntKind.bits .u64))))))) ∧ E 19 = (.int .i64 ((IntKind.i64.wrap (((IntKind.i64.wrap ((Int.fdiv ((IntKind.u64.wrap ((IntKind.i64.wrap (z + B))))) (2 ^ min (Int.toNat 1) (IntKind.bits .u64)))))) + M)))) ∧ E 20 = (.int .i64 g) ∧ E 21 = (.int .i64 K) ∧ E 22 = (.int .i64 ((IntKind.i64.wrap (((IntKind.i64.wrap (((IntKind.i64.wrap ((Int.fdiv ((IntKind.u64.wrap ((IntKind.i64.wrap (z + B))))) (2 ^ min (Int.toNat 1) (IntKind.bits .u64)))))) + M))) - 1)))) ∧ bZ a0 z B M f4 t4 m g K = some r) cE ⟨y8, y9, _, (hST.sel St), u8, u9, v0, v1, v2, v3, l7, v4, v5, rfl, q6⟩ ?_)))))))))
  rintro m E W ⟨g, K, k9, hST, c2, d7, c3, d8, d0, d9, g1, b1, g2, g3, k⟩
  cases m with
  | zero => rw [bZ] at k; cases k
  | succ n2 =>
    rw [bZ] at k
    refine aD (aD (aA (V (aC b1) (V (aC g2) (V (aQ rfl rfl rfl) (aF (aH (CI k rfl (fun p4 k => ?_) (fun p4 k => ?_)))))))))
    · refine aX (aH (aY (aD (aA (V (aC b1) (V (aC g2) (V (aQ rfl rfl rfl) (V (lM (k' := .i64) (a := (IntKind.i64.wrap (g + K))) Tryz.underlying3 Tryz.underlying353 rfl) (V (zY (a := ((IntKind.u64.wrap ((IntKind.i64.wrap (g + K)))))) (b := 1) rfl rfl (by decide)) (V (lM (k' := .u64) (a := (Int.fdiv ((IntKind.u64.wrap ((IntKind.i64.wrap (g + K))))) (2 ^ min (Int.toNat 1) (IntKind.bits .u64)))) Tryz.underlying353 Tryz.underlying3 rfl) (V (aG rfl) (aF (aH (aD ?_))))))))))))))
      replace hST := hST.drew
      have hS0 := hST.has.sel (Kr Sn)
      refine cX hS0 cC (X 0 rfl hS0 (aC d0) (X 1 rfl hS0 (aC c2) (X 2 rfl hS0 (aC g3) (X 3 rfl hS0 (aC rfl) (X 4 rfl hS0 (aQ rfl rfl rfl) (bS k fun z0 j9 k => XQ 5 rfl hS0 (dD (i := (IntKind.i64.wrap (((IntKind.i64.wrap (((IntKind.i64.wrap (((IntKind.i64.wrap ((Int.fdiv ((IntKind.u64.wrap ((IntKind.i64.wrap (z + B))))) (2 ^ min (Int.toNat 1) (IntKind.bits .u64)))))) + M))) - 1))) - ((IntKind.i64.wrap ((Int.fdiv ((IntKind.u64.wrap ((IntKind.i64.wrap (g + K))))) (2 ^ min (Int.toNat 1) (IntKind.bits .u64))))))))) aK.out Tryz.underlying111 Tryz.sizeOf113 rfl rfl a5 (bY j9) (bT j9)) (fun bz ⟨_, ⟨y4, rfl, s8⟩, r7, aj⟩ => XH 6 rfl hS0 (fun _ hS => aJ rfl (bN (iA.hp _) (r7.mono (eG (fun b o hq => hS.2 b o (Ml hq)))) Tryz.isAgg113 Tryz.sizeOf113)) (X 7 rfl hS0 (aC c2) (X 8 rfl hS0 (aC rfl) (bS k fun z1 k0 k => XQ 9 rfl hS0 (dD (i := (IntKind.i64.wrap ((Int.fdiv ((IntKind.u64.wrap ((IntKind.i64.wrap (g + K))))) (2 ^ min (Int.toNat 1) (IntKind.bits .u64)))))) aK.out Tryz.underlying111 Tryz.sizeOf113 rfl rfl a5 (bY k0) (bT k0)) (fun ca ⟨_, ⟨y5, rfl, s9⟩, r8, ak⟩ => XH 10 rfl hS0 (fun _ hS => aJ rfl (bN (iA.hp _) (r8.mono (eG (fun b o hq => hS.2 b o (Ml hq)))) Tryz.isAgg113 Tryz.sizeOf113)) (bS k fun cc s0 k => ?_))))))))))))
      refine XE 11 rfl (ut ((z0, z1)) hST c6 (bE.refl _) (rn.mk aV aV (aK.mk ⟨y4, rfl, s8⟩) (aK.mk ⟨y5, rfl, s9⟩) hST.sub_hp) rfl (sJ rfl rfl) s0 (fun bg hST => ?_))
      have hS0 := hST.has.sel (Kr Sn)
      refine ⟨hS0, (X 12 rfl hS0 (aQ rfl rfl rfl) (X 13 rfl hS0 (fV rfl) (dB (by kernel_rfl) (aH (CI k rfl (fun p5 k => ?_) (fun p5 k => ?_))))))⟩
      · exact aA (V (aC rfl) (V (aQ rfl rfl rfl) (V (aG rfl) (aF (cL (aH ⟨n2, Nat.lt_succ_self _, ((IntKind.i64.wrap (((IntKind.i64.wrap ((Int.fdiv ((IntKind.u64.wrap ((IntKind.i64.wrap (g + K))))) (2 ^ min (Int.toNat 1) (IntKind.bits .u64)))))) + 1))), K, _, (hST.sel St), c2, d7, c3, d8, d0, d9, g1, rfl, g2, g3, k⟩))))))
      exact aA (V (aC rfl) (V (aG rfl) (aF (cL (aH ⟨n2, Nat.lt_succ_self _, g, ((IntKind.i64.wrap ((Int.fdiv ((IntKind.u64.wrap ((IntKind.i64.wrap (g + K))))) (2 ^ min (Int.toNat 1) (IntKind.bits .u64)))))), _, (hST.sel St), c2, d7, c3, d8, d0, d9, g1, b1, rfl, g3, k⟩)))))
    refine iD (gI (gI (pC (aH (aD (aA (V (aC g1) (V (aC b1) (V (aQ rfl rfl rfl) (V (aG rfl) (aF (aH (aD (CJ k (fun n6 E W => ∃ (b7 : List (Nat × Obj)) (a4 : bD) (l0 : List (Nat × Obj)), bE U a4 ∧ Lo (keys (c ++ [])) w U a4 ∧ ST false (keys (c ++ [])) w W a4 (b7 ++ l0) ∧ E 0 = t ∧ E 1 = (.int .i64 z) ∧ E 3 = (.int .i64 B) ∧ E 4 = D ∧ E 18 = (.int .i64 ((IntKind.i64.wrap ((Int.fdiv ((IntKind.u64.wrap ((IntKind.i64.wrap (z + B))))) (2 ^ min (Int.toNat 1) (IntKind.bits .u64))))))) ∧ E 20 = (.int .i64 g) ∧ E 24 = (.int .i64 ((IntKind.i64.wrap (((IntKind.i64.wrap (((IntKind.i64.wrap ((Int.fdiv ((IntKind.u64.wrap ((IntKind.i64.wrap (z + B))))) (2 ^ min (Int.toNat 1) (IntKind.bits .u64)))))) + M))) - g)))) ∧ bG 113 aK 5 a4 t n6 b7) (fun n6 r0 => ?_) ?_))))))))))))))
    · refine aD (aA (V (aC b1) (V (aC c3) (V (aQ rfl rfl rfl) (V (aC rfl) (LJ r0 (fun n7 E W => ∃  (l4 : List (Nat × Obj)), ST false (keys (c ++ [])) w W U (c ++ l4) ∧ E 0 = t ∧ E 1 = (.int .i64 z) ∧ E 2 = (.int .i64 M) ∧ E 3 = (.int .i64 B) ∧ E 4 = D ∧ E 18 = (.int .i64 ((IntKind.i64.wrap ((Int.fdiv ((IntKind.u64.wrap ((IntKind.i64.wrap (z + B))))) (2 ^ min (Int.toNat 1) (IntKind.bits .u64))))))) ∧ E 20 = (.int .i64 g) ∧ E 24 = (.int .i64 ((IntKind.i64.wrap (((IntKind.i64.wrap (((IntKind.i64.wrap ((Int.fdiv ((IntKind.u64.wrap ((IntKind.i64.wrap (z + B))))) (2 ^ min (Int.toNat 1) (IntKind.bits .u64)))))) + M))) - g)))) ∧ E 185 = (.bool n7)) 4 ?_ (fun n7 b4 f6 => ?_)))))))
      · rintro cx E W ⟨l4, hST, h2, m6, w5, m7, h3, m8, h4, h5, w6⟩ a8
        refine aF (aH (CI a8 w6 (fun p8 a8 => ?_) (fun p8 a8 => ?_)))
        · refine aA (V (aC h2) (V (aC h4) (V (aC w5) (V (aC h5) (V (aC h3) (bS a8 fun cf s3 a8 => ?_))))))
          have hsz := hST.size
          refine VE (lT hST (Cr Qz Cn) Tryz.call470 (fun hH hN hsb hmm => eS.weak (uv t a0 c g M ((IntKind.i64.wrap (((IntKind.i64.wrap (((IntKind.i64.wrap ((Int.fdiv ((IntKind.u64.wrap ((IntKind.i64.wrap (z + B))))) (2 ^ min (Int.toNat 1) (IntKind.bits .u64)))))) + M))) - g))) D f4 _ _ ⟨hH, hN, hsb⟩ a5 (c6.mono (bE.refl _)) s3)) (fun bj cq z3 ay hST o0 hl2989 o6 => ?_))
          obtain ⟨u3, e8, rfl, t2⟩ := o6
          replace e8 := e8.symm; subst e8
          replace hST := hST.perm (Tr Tn)
          refine aF (aH ?_)
          cases a8
          exact ⟨u3, z3, _, o0, hl2989, (hST.sel St), h2, m6, m7, h3, m8, h4, h5, t2⟩
        refine aX (aH ?_)
        cases a8
        exact ⟨c, U, _, (bE.refl _), Lo.refl, (hST.sel St), h2, m6, m7, h3, m8, h4, h5, a5⟩
      refine bC b4 (fun J b4 => ?_) (fun J b4 => ?_)
      · refine Vg rfl (cB J) (aC c3) (Vg rfl (cB J) (aC rfl) (Vg rfl (cB J) (aQ rfl rfl rfl) (V (bU (cB J) rfl) ?_)))
        cases b4
        exact f6 _ _ ⟨_, (hST.sel St), c2, d7, c3, d8, d0, d9, b1, rfl, rfl⟩
      refine Vn rfl (cB J) (Vn rfl (cB J) (Vn rfl (cB J) (V (bX (cB J) rfl) ?_)))
      cases b4
      exact f6 _ _ ⟨_, (hST.sel St), c2, d7, c3, d8, d0, d9, b1, rfl, rfl⟩
    rintro x8 E W ⟨b7, a4, l0, c4, hl2857, hST, l8, g4, l9, m0, g5, e0, m1, i9⟩ q7
    refine aD (CJ q7 (fun n4 E W => ∃ (b9 : List (Nat × Obj)) (c5 : bD) (l1 : List (Nat × Obj)), bE a4 c5 ∧ Lo (keys (c ++ [])) w a4 c5 ∧ ST false (keys (c ++ [])) w W c5 (b9 ++ l1) ∧ E 0 = t ∧ E 3 = (.int .i64 B) ∧ E 4 = D ∧ E 18 = (.int .i64 ((IntKind.i64.wrap ((Int.fdiv ((IntKind.u64.wrap ((IntKind.i64.wrap (z + B))))) (2 ^ min (Int.toNat 1) (IntKind.bits .u64))))))) ∧ E 24 = (.int .i64 ((IntKind.i64.wrap (((IntKind.i64.wrap (((IntKind.i64.wrap ((Int.fdiv ((IntKind.u64.wrap ((IntKind.i64.wrap (z + B))))) (2 ^ min (Int.toNat 1) (IntKind.bits .u64)))))) + M))) - g)))) ∧ bG 113 aK 5 c5 t n4 b9) (fun n4 q9 => ?_) ?_)
    · refine aD (aA (V (aC g4) (V (aC e0) (V (aQ rfl rfl rfl) (V (aC rfl) (LJ q9 (fun n5 E W => ∃  (l3 : List (Nat × Obj)), ST false (keys (c ++ [])) w W a4 (b7 ++ l3) ∧ E 0 = t ∧ E 1 = (.int .i64 z) ∧ E 3 = (.int .i64 B) ∧ E 4 = D ∧ E 18 = (.int .i64 ((IntKind.i64.wrap ((Int.fdiv ((IntKind.u64.wrap ((IntKind.i64.wrap (z + B))))) (2 ^ min (Int.toNat 1) (IntKind.bits .u64))))))) ∧ E 20 = (.int .i64 g) ∧ E 24 = (.int .i64 ((IntKind.i64.wrap (((IntKind.i64.wrap (((IntKind.i64.wrap ((Int.fdiv ((IntKind.u64.wrap ((IntKind.i64.wrap (z + B))))) (2 ^ min (Int.toNat 1) (IntKind.bits .u64)))))) + M))) - g)))) ∧ E 199 = (.bool n5)) 4 ?_ (fun n5 b3 f5 => ?_)))))))
      · rintro cw E W ⟨l3, hST, g8, w2, m4, g9, h1, w3, m5, w4⟩ a7
        refine aF (aH (CI a7 w4 (fun p7 a7 => ?_) (fun p7 a7 => ?_)))
        · refine aA (V (aC g8) (V (aC w2) (V (aC w3) (V (aC h1) (V (aC g9) (bS a7 fun ce s2 a7 => ?_))))))
          have hsz := hST.size
          refine VE (lT hST (Cr Qz Cn) Tryz.call468 (fun hH hN hsb hmm => (s4 t x8 b7 z g ((IntKind.i64.wrap ((Int.fdiv ((IntKind.u64.wrap ((IntKind.i64.wrap (z + B))))) (2 ^ min (Int.toNat 1) (IntKind.bits .u64)))))) D f4 _ _ ⟨hH, hN, hsb⟩ i9 (c6.mono c4) s2)) (fun bi cp z2 aw hST n9 hl2956 o5 => ?_))
          obtain ⟨u2, e7, rfl, t1⟩ := o5
          replace e7 := e7.symm; subst e7
          replace hST := hST.perm (Tr Tn)
          refine aF (aH ?_)
          cases a7
          exact ⟨u2, z2, _, n9, hl2956, (hST.sel St), g8, m4, g9, h1, m5, t1⟩
        refine aX (aH ?_)
        cases a7
        exact ⟨b7, a4, _, (bE.refl _), Lo.refl, (hST.sel St), g8, m4, g9, h1, m5, i9⟩
      refine bC b3 (fun I b3 => ?_) (fun I b3 => ?_)
      · refine Vg rfl (cB I) (aC e0) (Vg rfl (cB I) (aC g5) (Vg rfl (cB I) (aQ rfl rfl rfl) (V (bU (cB I) rfl) ?_)))
        cases b3
        exact f5 _ _ ⟨_, (hST.sel St), l8, g4, l9, m0, g5, e0, m1, rfl⟩
      refine Vn rfl (cB I) (Vn rfl (cB I) (Vn rfl (cB I) (V (bX (cB I) rfl) ?_)))
      cases b3
      exact f5 _ _ ⟨_, (hST.sel St), l8, g4, l9, m0, g5, e0, m1, rfl⟩
    rintro x9 E W ⟨b9, c5, l1, d2, hl2902, hST, m2, g6, m3, g7, e1, j0⟩ q8
    refine aD (aA (V (aC g7) (V (aC e1) (V (aQ rfl rfl rfl) (V (aC rfl) (LJ q8 (fun n3 E W => ∃  (l2 : List (Nat × Obj)), ST false (keys (c ++ [])) w W c5 (b9 ++ l2) ∧ E 0 = t ∧ E 3 = (.int .i64 B) ∧ E 4 = D ∧ E 18 = (.int .i64 ((IntKind.i64.wrap ((Int.fdiv ((IntKind.u64.wrap ((IntKind.i64.wrap (z + B))))) (2 ^ min (Int.toNat 1) (IntKind.bits .u64))))))) ∧ E 24 = (.int .i64 ((IntKind.i64.wrap (((IntKind.i64.wrap (((IntKind.i64.wrap ((Int.fdiv ((IntKind.u64.wrap ((IntKind.i64.wrap (z + B))))) (2 ^ min (Int.toNat 1) (IntKind.bits .u64)))))) + M))) - g)))) ∧ E 213 = (.bool n3)) 4 ?_ (fun n3 b2 f3 => ?_)))))))
    · rintro cv E W ⟨l2, hST, v6, v7, v8, v9, w0, w1⟩ a6
      refine aF (aH (CI a6 w1 (fun p6 a6 => ?_) (fun p6 a6 => ?_)))
      · refine aA (V (aC v6) (V (aC v9) (V (aC w0) (V (aC v7) (V (aC v8) (bS a6 fun cd s1 a6 => ?_))))))
        have hsz := hST.size
        refine VE (lT hST (Cr Qz Cn) Tryz.call468 (fun hH hN hsb hmm => (s4 t x9 b9 ((IntKind.i64.wrap ((Int.fdiv ((IntKind.u64.wrap ((IntKind.i64.wrap (z + B))))) (2 ^ min (Int.toNat 1) (IntKind.bits .u64)))))) ((IntKind.i64.wrap (((IntKind.i64.wrap (((IntKind.i64.wrap ((Int.fdiv ((IntKind.u64.wrap ((IntKind.i64.wrap (z + B))))) (2 ^ min (Int.toNat 1) (IntKind.bits .u64)))))) + M))) - g))) B D f4 _ _ ⟨hH, hN, hsb⟩ j0 (c6.mono (c4.trans d2)) s1)) (fun bh co cy av hST n8 hl2924 o4 => ?_))
        obtain ⟨u1, e6, rfl, t0⟩ := o4
        replace e6 := e6.symm; subst e6
        replace hST := hST.perm (Tr Tn)
        refine aF (lP ?_)
        have hx := sj a6; subst hx
        exact jD rfl ⟨_, _, _, rfl, (hST.bkM (Kr Sn)), ((c4.trans d2).trans n8), ((hl2857.trans hl2902).trans hl2924), (ST.sub_hpx hST (fF.mem (Kr Sn))), u1, rfl, rfl, t0⟩
      refine aX (lP ?_)
      have hx := sj a6; subst hx
      exact jD rfl ⟨_, _, _, rfl, (hST.bkM (Kr Sn)), (c4.trans d2), (hl2857.trans hl2902), (ST.sub_hpx hST (fF.mem (Kr Sn))), b9, rfl, rfl, j0⟩
    refine bC b2 (fun H b2 => ?_) (fun H b2 => ?_)
    · refine Vg rfl (cB H) (aC e1) (Vg rfl (cB H) (aC g6) (Vg rfl (cB H) (aQ rfl rfl rfl) (V (bU (cB H) rfl) ?_)))
      cases b2
      exact f3 _ _ ⟨_, (hST.sel St), m2, g6, m3, g7, e1, rfl⟩
    refine Vn rfl (cB H) (Vn rfl (cB H) (Vn rfl (cB H) (V (bX (cB H) rfl) ?_)))
    cases b2
    exact f3 _ _ ⟨_, (hST.sel St), m2, g6, m3, g7, e1, rfl⟩
theorem lG : ∀ (n : Nat) (c : Value) (k : List aB) (a : List (Nat × Obj)) (t : Int) (u : Int) (x : Int) (g : Value) (y : ((aB × aB)) → Option Int) (r : List aB) (w : World) {i : bD} (H : jU i (a ++ []) w) (B : bG 113 aK 5 i c k a) (D : sf Tryz.prog g i (rn aK aK) (fun (r : Int) => (.int .i64 r)) y) (_ : cZ n k t u x y = some r),
    eS false Tryz.prog 468 [c, (.int .i64 t), (.int .i64 u), (.int .i64 x), g] w i (a ++ []) (fun v z G => ∃ (j : List (Nat × Obj)), v = (.tuple #[]) ∧ z = (j ++ []) ∧ bG 113 aK 5 G c r j)
  | 0 => by intros; rename_i h; simp only [cZ] at h; cases h
  | n + 1 => sa (cZ n) (lG n)
theorem uw (a : Value) (a0 : List aB) (c : List (Nat × Obj)) (Q : Int) (x : Value) (f2 : ((aB × aB)) → Option Int) (r : List aB) (w : World) {μ0 : bD} (h0 : jU μ0 (c ++ []) w) (k2 : bG 113 aK 5 μ0 a a0 c) (c7 : sf Tryz.prog x μ0 (rn aK aK) (fun (r : Int) => (.int .i64 r)) f2) (hm : jC a0 Q f2 = some r) :
    eS false Tryz.prog 464 [a, (.int .i64 Q), x] w μ0 (c ++ []) (fun v L1 μ1 => ∃ (S1 : List (Nat × Obj)), v = (.tuple #[]) ∧ L1 = (S1 ++ []) ∧ bG 113 aK 5 μ1 a r S1) := by
  have hST := ST.startE (dd := false) h0
  unfold jC at hm
  refine cF 63 Tryz.func464 rfl (aD (aA (V (aG rfl) (aF (aH (aD (aA (V (aC rfl) (V (aG rfl) (V (aG rfl) (aF (aH (aD (aY (iV (fun m E W => ∃ (d4 : List aB) (d0 : List (Nat × Obj)) (d5 : Int) (b1 : Int) (d6 : bD) (f1 : List (Nat × Obj)), bE μ0 d6 ∧ Lo (keys (c ++ [])) w μ0 d6 ∧ ST false (keys (c ++ [])) w W d6 (d0 ++ f1) ∧ E 0 = a ∧ E 1 = (.int .i64 Q) ∧ E 2 = x ∧ E 6 = (.int .i64 20) ∧ E 7 = (.int .i64 d5) ∧ E 8 = (.int .i64 b1) ∧ bG 113 aK 5 d6 a d4 d0 ∧ dE Q f2 m d4 d5 b1 = some r) cE ⟨a0, c, 0, 20, μ0, _, (bE.refl _), Lo.refl, (hST.sel St), rfl, rfl, rfl, rfl, rfl, rfl, k2, hm⟩ ?_)))))))))))))))
  rintro m E W ⟨d4, d0, d5, b1, d6, f1, z, hl125, hST, b4, b5, b6, d7, f4, b7, g8, i⟩
  cases m with
  | zero => rw [dE] at i; cases i
  | succ k3 =>
    rw [dE] at i
    refine aD (aD (aA (V (aC b7) (V (aC b5) (V (aQ rfl rfl rfl) (aF (aH (CI i rfl (fun i2 i => ?_) (fun i2 i => ?_)))))))))
    · refine aX (aH (aY (aD (aA (V (aC b4) (V (aC f4) (V (aC b7) (V (aC b6) (bS i fun k4 i5 i => ?_)))))))))
      have hsz := hST.size
      refine VE (lT hST (Cr Qz Cn) Tryz.call467 (fun hH hN hsb hmm => (nE a d4 d0 d5 b1 x f2 _ _ ⟨hH, hN, hsb⟩ g8 (c7.mono z) i5)) (fun l8 m2 k6 l6 hST g0 hl138 i0 => ?_))
      obtain ⟨j9, c8, rfl, i8⟩ := i0
      replace c8 := c8.symm; subst c8
      replace hST := hST.perm (Tr Tn)
      refine aF (aH (aD (aA (V (aC b7) (V (aG rfl) (aF (aH (aA (V (aC b7) (V (aC d7) (V (aQ rfl rfl rfl) (V (aG rfl) (aF (cL ?_))))))))))))))
      exact aH ⟨k3, Nat.lt_succ_self _, k4, j9, b1, ((IntKind.i64.wrap (b1 + 20))), k6, _, (z.trans g0), (hl125.trans hl138), (hST.sel St), b4, b5, b6, d7, rfl, rfl, i8, i⟩
    refine iD (gI (gI (pC (aH (aD (aA (V (aC b4) (V (aC f4) (V (aC b5) (V (aC b6) (bS i fun k5 i6 i => ?_)))))))))))
    have hsz := hST.size
    refine VE (lT hST (Cr Qz Cn) Tryz.call467 (fun hH hN hsb hmm => (nE a d4 d0 d5 Q x f2 _ _ ⟨hH, hN, hsb⟩ g8 (c7.mono z) i6)) (fun l9 m3 a8 l7 hST a5 hl150 i1 => ?_))
    obtain ⟨k0, c9, rfl, i9⟩ := i1
    replace c9 := c9.symm; subst c9
    replace hST := hST.perm (Tr Tn)
    refine aF (aH (qP (CJ i (fun d8 E W => ∃ (b2 : List (Nat × Obj)) (a9 : bD) (f3 : List (Nat × Obj)), bE a8 a9 ∧ Lo (keys (c ++ [])) w a8 a9 ∧ ST false (keys (c ++ [])) w W a9 (b2 ++ f3) ∧ bG 113 aK 5 a9 a d8 b2) (fun d8 i4 => ?_) ?_)))
    · refine aY (iV (fun m E W => ∃ (a2 : List aB) (I : List (Nat × Obj)) (j : Int) (k : bD) (e0 : List (Nat × Obj)), bE a8 k ∧ Lo (keys (c ++ [])) w a8 k ∧ ST false (keys (c ++ [])) w W k (I ++ e0) ∧ E 0 = a ∧ E 1 = (.int .i64 Q) ∧ E 2 = x ∧ E 6 = (.int .i64 j) ∧ bG 113 aK 5 k a a2 I ∧ dF Q f2 m a2 j = some d8) cE ⟨k5, k0, 20, a8, _, (bE.refl _), Lo.refl, (hST.sel St), b4, b5, b6, d7, i9, i4⟩ ?_)
      rintro m E W ⟨a2, I, j, k, e0, B, hl1243, hST, h4, e4, h5, b3, d1, t⟩
      cases m with
      | zero => rw [dF] at t; cases t
      | succ j4 =>
        rw [dF] at t
        refine aD (aD (aA (V (aC b3) (V (aC e4) (V (aQ rfl rfl rfl) (aF (aH (CI t rfl (fun f7 t => ?_) (fun f7 t => ?_)))))))))
        · refine aX (aH (aY (aD (aA (V (aC b3) (V (aQ rfl rfl rfl) (V (aG rfl) (V (aG rfl) (aF (aH (aD (CJ t (fun a4 E W => ∃ (J : List (Nat × Obj)) (y : bD) (e1 : List (Nat × Obj)), bE k y ∧ Lo (keys (c ++ [])) w k y ∧ ST false (keys (c ++ [])) w W y (J ++ e1) ∧ E 0 = a ∧ E 1 = (.int .i64 Q) ∧ E 2 = x ∧ E 6 = (.int .i64 j) ∧ E 7 = (.int .i64 a4.2) ∧ bG 113 aK 5 y a a4.1 J) (fun a4 g4 => ?_) ?_))))))))))))
          · refine aY (iV (fun m E W => ∃ (a3 : List aB) (K : List (Nat × Obj)) (M : Int) (D : Int) (H : bD) (e3 : List (Nat × Obj)), bE k H ∧ Lo (keys (c ++ [])) w k H ∧ ST false (keys (c ++ [])) w W H (K ++ e3) ∧ E 0 = a ∧ E 1 = (.int .i64 Q) ∧ E 2 = x ∧ E 6 = (.int .i64 j) ∧ E 7 = (.int .i64 M) ∧ E 8 = (.int .i64 D) ∧ bG 113 aK 5 H a a3 K ∧ dT Q j f2 m a3 M D = some a4) cE ⟨a2, I, 0, ((IntKind.i64.wrap (2 * j))), k, _, (bE.refl _), Lo.refl, (hST.sel St), h4, e4, h5, b3, rfl, rfl, d1, g4⟩ ?_)
            rintro m E W ⟨a3, K, M, D, H, e3, N, hl1433, hST, c2, c3, c4, Y, c5, Z, d3, g⟩
            cases m with
            | zero => rw [dT] at g; cases g
            | succ j5 =>
              rw [dT] at g
              refine aD (aD (aA (V (aC Z) (V (aC c3) (V (aQ rfl rfl rfl) (aF (aH (CI g rfl (fun f9 g => ?_) (fun f9 g => ?_)))))))))
              · refine aX (aH (aY (aD (aA (V (aC c2) (V (aC c5) (V (aC c5) (V (aC Y) (V (aQ rfl rfl rfl) (V (aC Z) (V (aC c4) (bS g fun j6 g6 g => ?_))))))))))))
                have hsz := hST.size
                refine VE (lT hST (Cr Qz Cn) Tryz.call468 (fun hH hN hsb hmm => ((lG cE) a a3 K M ((IntKind.i64.wrap (M + j))) D x f2 _ _ ⟨hH, hN, hsb⟩ d3 (c7.mono (((z.trans a5).trans B).trans N)) g6)) (fun l1 l4 j8 k9 hST f0 hl1446 f6 => ?_))
                obtain ⟨h3, a7, rfl, h1⟩ := f6
                replace a7 := a7.symm; subst a7
                replace hST := hST.perm (Tr Tn)
                refine aF (aH (aD (aA (V (aC Z) (V (aG rfl) (aF (aH (aA (V (aC Z) (V (aC Y) (V (aQ rfl rfl rfl) (V (aQ rfl rfl rfl) (V (aG rfl) (aF ?_))))))))))))))
                exact cL (aH ⟨j5, Nat.lt_succ_self _, j6, h3, D, ((IntKind.i64.wrap (D + ((IntKind.i64.wrap (2 * j)))))), j8, _, (N.trans f0), (hl1433.trans hl1446), (hST.sel St), c2, c3, c4, Y, rfl, rfl, h1, g⟩)
              refine iD (gI (gI (pC (aH ?_))))
              cases g
              exact ⟨K, H, _, N, hl1433, (hST.sel St), c2, c3, c4, Y, c5, d3⟩
          rintro ⟨j0, e7⟩ E W ⟨J, y, e1, b0, hl1330, hST, b9, U, c0, c1, e5, d2⟩ g2
          refine aD (CJ g2 (fun e6 E W => ∃ (T : List (Nat × Obj)) (G : bD) (e2 : List (Nat × Obj)), bE y G ∧ Lo (keys (c ++ [])) w y G ∧ ST false (keys (c ++ [])) w W G (T ++ e2) ∧ E 0 = a ∧ E 1 = (.int .i64 Q) ∧ E 2 = x ∧ E 6 = (.int .i64 j) ∧ bG 113 aK 5 G a e6 T) (fun e6 u => ?_) ?_)
          · refine aD (aA (V (aC e5) (V (aC c1) (V (aQ rfl rfl rfl) (V (aG rfl) (aF (aH (aD (aA (V (aC rfl) (V (aC U) (V (aQ rfl rfl rfl) (aF (aH ?_))))))))))))))
            refine CI u rfl (fun f8 u => ?_) (fun f8 u => ?_)
            · refine aA (V (aC b9) (V (aC e5) (V (aC rfl) (V (aC U) (V (aC c0) (bS u fun l2 g5 u => ?_))))))
              have hsz := hST.size
              refine VE (lT hST (Cr Qz Cn) Tryz.call468 (fun hH hN hsb hmm => ((lG cE) a j0 J e7 ((IntKind.i64.wrap (e7 + j))) Q x f2 _ _ ⟨hH, hN, hsb⟩ d2 (c7.mono (((z.trans a5).trans B).trans b0)) g5)) (fun l0 l3 j7 k8 hST e9 hl1371 f5 => ?_))
              obtain ⟨h2, a6, rfl, g9⟩ := f5
              replace a6 := a6.symm; subst a6
              replace hST := hST.perm (Tr Tn)
              refine aF (aH ?_)
              cases u
              exact ⟨h2, j7, _, e9, hl1371, (hST.sel St), b9, U, c0, c1, g9⟩
            refine aX (aH ?_)
            cases u
            exact ⟨J, y, _, (bE.refl _), Lo.refl, (hST.sel St), b9, U, c0, c1, d2⟩
          rintro j3 E W ⟨T, G, e2, e8, hl1357, hST, h6, h7, h8, h9, g7⟩ g3
          exact aA (V (aC h9) (V (aQ rfl rfl rfl) (V (aG rfl) (aF (cL (aH ⟨j4, Nat.lt_succ_self _, j3, T, ((IntKind.i64.wrap (j * 2))), G, _, ((B.trans b0).trans e8), ((hl1243.trans hl1330).trans hl1357), (hST.sel St), h6, h7, h8, rfl, g7, g3⟩))))))
        refine iD (gI (gI (pC (aH ?_))))
        cases t
        exact ⟨I, k, _, B, hl1243, (hST.sel St), d1⟩
    rintro m1 E W ⟨b2, a9, f3, g1, hl807, hST, i7⟩ i3
    refine lP ?_
    have hx := sj i3; subst hx
    exact jD rfl ⟨_, _, _, rfl, (hST.bkM (Kr Sn)), ((z.trans a5).trans g1), ((hl125.trans hl150).trans hl807), (ST.sub_hpx hST (fF.mem (Kr Sn))), b2, rfl, rfl, i7⟩
theorem ud (c : Value) (k : List aB) (a : List (Nat × Obj)) (i : Value) (u : ((aB × aB)) → Option Int) (r : List aB) (w : World) {t : bD} (J : jU t (a ++ []) w) (j : bG 113 aK 5 t c k a) (x : sf Tryz.prog i t (rn aK aK) (fun (r : Int) => (.int .i64 r)) u) (hm : gJ k u = some r) :
    eS false Tryz.prog 457 [c, i] w t (a ++ []) (fun v I K => ∃ (B : List (Nat × Obj)), v = (.tuple #[]) ∧ I = (B ++ []) ∧ bG 113 aK 5 K c r B) := by
  have hST := ST.startE (dd := false) J
  unfold gJ at hm
  refine cF 9 Tryz.func457 rfl (aA (V (aC rfl) (V (aC rfl) (V (tX Tryz.underlying111 rfl j) (V (aC rfl) (bS hm fun Q H hm => ?_))))))
  have hsz := hST.size
  refine VE (lT hST (Cr Qz Cn) Tryz.call464 (fun hH hN hsb hmm => (uw c k a ((k.length : Int)) i u _ _ ⟨hH, hN, hsb⟩ j (x.mono (bE.refl _)) H)) (fun N T U M hST y hl6 G => ?_))
  obtain ⟨D, g, rfl, z⟩ := G
  replace g := g.symm; subst g
  replace hST := hST.perm (Tr Tn)
  refine aF (lP ?_)
  have hx := sj hm; subst hx
  exact jD rfl ⟨_, _, _, rfl, (hST.bkM (Kr Sn)), y, hl6, (ST.sub_hpx hST (fF.mem (Kr Sn))), D, rfl, rfl, z⟩
theorem mY (t : Nat) (j : Value) (G : List Int) (i : List (Nat × Obj)) (a1 : Int) (r : (Bool × (List Int))) (w : World) {μ0 : bD} (h0 : jU μ0 ((t, Obj.cells (#[j] : Array Value) 92 (0, 0)) :: (i ++ [])) w) (y : bI 5 (bV .u8) 1 j G i) (hm : gD G a1 = some r) :
    eB true Tryz.prog 268 [(.pointer (some ⟨t, 0, none⟩)), (.int .i64 a1)] w ((t, Obj.cells (#[j] : Array Value) 92 (0, 0)) :: (i ++ [])) (fun v L1 W' => ∃ (y1 : Value) (S2 : List (Nat × Obj)), v = (.bool (r.1)) ∧ L1 = ((t, Obj.cells (#[y1] : Array Value) 92 (0, 0)) :: (S2 ++ [])) ∧ bI 5 (bV .u8) 1 y1 r.2 S2) := by
  have hST := ST.startE (dd := true) h0
  unfold gD at hm
  refine cF 38 Tryz.func268 rfl (aD (aA (V (aG rfl) (aF (aH (aD (aD (aA (V (aC rfl) (V (pV Tryz.underlying90 rfl rfl) (V (aC rfl) (Vg rfl rfl (aC rfl) (Vg rfl rfl (aQ rfl rfl rfl) (V (bX rfl rfl) ?_))))))))))))))
  refine aF (aH (CI hm rfl (fun a9 hm => ?_) (fun a9 hm => ?_)))
  · refine aD (aA (V (aG rfl) (aF (aH (aU (cU ?_))))))
    have hx := sj hm; subst hx
    exact eA (v := (.bool false)) rfl rfl ⟨_, _, rfl, (hST.bkM (Kb (Kr Sn))), j, i, rfl, rfl, y⟩
  refine aX (aH (aD (aY (iV (fun m E W => ∃ (c : Int) (z : Value) (U : List Int) (u : List (Nat × Obj)) (a0 : List (Nat × Obj)), ST true (keys ((t, Obj.cells (#[j] : Array Value) 92 (0, 0)) :: (i ++ []))) w W μ0 ((t, Obj.cells (#[z] : Array Value) 92 (0, 0)) :: (u ++ a0)) ∧ E 0 = (.pointer (some ⟨t, 0, none⟩)) ∧ E 1 = (.int .i64 c) ∧ bI 5 (bV .u8) 1 z U u ∧ iZ m c U = some r) cE ⟨a1, j, G, i, _, (hST.sel St), rfl, rfl, y, hm⟩ ?_))))
  rintro m E W ⟨c, z, U, u, a0, hST, x, K, T, g⟩
  cases m with
  | zero => rw [iZ] at g; cases g
  | succ b0 =>
    rw [iZ] at g
    refine aD (aD (aA (V (aC K) (V (aQ rfl rfl rfl) (aF (aH (CI g rfl (fun a6 g => ?_) (fun a6 g => ?_))))))))
    · refine aX (aH (aD (aY (aA (V (aC x) (V (aC x) (V (cT rfl) (V (aN wv rfl) (V (aJ rfl (aP hST.has Mh rfl Tryz.isAgg54)) (V (aC K) (V (lM (k' := .i64) (a := c) Tryz.underlying3 Tryz.underlying5 rfl) (V (Ij (k := .u8) (a := ((IntKind.u8.wrap c))) (b := 128) (v := (.int .u8 ((IntKind.u8.wrap (BitVec.ofInt (IntKind.bits .u8) ((IntKind.u8.wrap c)) ||| BitVec.ofInt (IntKind.bits .u8) 128).toNat)))) rfl rfl (by decide) rfl) (VE (aR (qs := #[(0, (.int .u8 ((IntKind.u8.wrap (BitVec.ofInt (IntKind.bits .u8) ((IntKind.u8.wrap c)) ||| BitVec.ofInt (IntKind.bits .u8) 128).toNat))))]) (cs := [(.int .u8 ((IntKind.u8.wrap (BitVec.ofInt (IntKind.bits .u8) ((IntKind.u8.wrap c)) ||| BitVec.ofInt (IntKind.bits .u8) 128).toNat)))].toArray) hST (bM rfl) (bB [(.int .u8 ((IntKind.u8.wrap (BitVec.ofInt (IntKind.bits .u8) ((IntKind.u8.wrap c)) ||| BitVec.ofInt (IntKind.bits .u8) 128).toNat)))] Tryz.underlying54 Tryz.sizeOf5 Tryz.zeroValue5 (by decide) rfl (by intro v hv; simp only [List.mem_cons, List.not_mem_nil, or_false] at hv; rcases hv with rfl <;> rfl) rfl rfl) (fun c3 a8 hST => ?_)))))))))))))))
      replace hST := hST.perm (Nr (Qb (Qb Qz)) Nz)
      refine bS g fun Q Y g => VE (kG (enc := (bV .u8)) (v := z) (vs := (.slice (some ⟨a8, 0, none⟩) 1 1)) (R := u) hST (fun _ => rfl) (by decide) (zk _) Tryz.underlying54 dZ.1 dZ.2.1 rfl dZ.2.2.1 dZ.2.2.2 rfl rfl T (Sl.lit (enc := (bV .u8)) (l := [(IntKind.u8.wrap (BitVec.ofInt (IntKind.bits .u8) ((IntKind.u8.wrap c)) ||| BitVec.ofInt (IntKind.bits .u8) 128).toNat)]) (fun _ => rfl) rfl nb rfl (hST.at_ (Ma Mh))) Y (fun b4 c1 a2 hST M => V (cT rfl) (V (aN wv rfl) ?_)))
      obtain ⟨B, H, rfl⟩ := M.form
      replace hST := hST.perm (Nb (Pr (Pb Pz)) Nz)
      refine VO (bH (.slice B Q.length H) (#[(.slice B Q.length H)]) hST rfl rfl Tryz.sizeOf54 (by simp [Value.cells, Value.oneCell']) nb rfl (fun b5 hST => aF (cL (aH ?_))))
      replace hST := hST.sel (Kb (Kr (Db St)))
      exact aA (V (aC K) (V (zY (a := c) (b := 7) rfl rfl (by decide)) (V (aG rfl) (aF (aH ⟨b0, Nat.lt_succ_self _, ((Int.fdiv c (2 ^ min (Int.toNat 7) (IntKind.bits .i64)))), (.slice B Q.length H), Q, a2, _, (hST.sel St), x, rfl, M, g⟩)))))
    refine iD (gI (gI (pC (aH (aD (aA (V (aC x) (V (aC x) (V (cT rfl) (V (aN wv rfl) (V (aJ rfl (aP hST.has Mh rfl Tryz.isAgg54)) (V (aC K) (V (lM (k' := .i64) (a := c) Tryz.underlying3 Tryz.underlying5 rfl) (VE (aR (qs := #[(0, (.int .u8 ((IntKind.u8.wrap c))))]) (cs := [(.int .u8 ((IntKind.u8.wrap c)))].toArray) hST (bM rfl) (bB [(.int .u8 ((IntKind.u8.wrap c)))] Tryz.underlying54 Tryz.sizeOf5 Tryz.zeroValue5 (by decide) rfl (by intro v hv; simp only [List.mem_cons, List.not_mem_nil, or_false] at hv; rcases hv with rfl <;> rfl) rfl rfl) (fun b6 a5 hST => ?_))))))))))))))))
    replace hST := hST.perm (Nr (Qb (Qb Qz)) Nz)
    refine bS g fun J Z g => VE (kG (enc := (bV .u8)) (v := z) (vs := (.slice (some ⟨a5, 0, none⟩) 1 1)) (R := u) hST (fun _ => rfl) (by decide) (zk _) Tryz.underlying54 dZ.1 dZ.2.1 rfl dZ.2.2.1 dZ.2.2.2 rfl rfl T (Sl.lit (enc := (bV .u8)) (l := [(IntKind.u8.wrap c)]) (fun _ => rfl) rfl nb rfl (hST.at_ (Ma Mh))) Z (fun b7 c2 a3 hST N => V (cT rfl) (V (aN wv rfl) ?_)))
    obtain ⟨D, I, rfl⟩ := N.form
    replace hST := hST.perm (Nb (Pr (Pb Pz)) Nz)
    refine VO (bH (.slice D J.length I) (#[(.slice D J.length I)]) hST rfl rfl Tryz.sizeOf54 (by simp [Value.cells, Value.oneCell']) nb rfl (fun b9 hST => aF (aH ?_)))
    replace hST := hST.sel (Kb (Kr (Db St)))
    refine aD (aA (V (aG rfl) (aF (aH (aU ?_)))))
    have hx := sj g; subst hx
    exact eA (v := (.bool true)) rfl rfl ⟨_, _, rfl, (hST.bkM (Kb (Kr Sn))), (.slice D J.length I), a3, rfl, rfl, N⟩
theorem Ad (g : Nat) (c : Value) (j : List Int) (a : List (Nat × Obj)) (u : Value) (D : List Int) (r : (Bool × (List Int))) (w : World) {Z : bD} (h0 : jU Z ((g, Obj.cells (#[c] : Array Value) 92 (0, 0)) :: (a ++ [])) w) (i : bI 5 (bV .u8) 1 c j a) (k : Sl (Pl (bV .u8)) 1 Z u D) (hm : qI j D = some r) :
    eB true Tryz.prog 165 [(.pointer (some ⟨g, 0, none⟩)), u] w ((g, Obj.cells (#[c] : Array Value) 92 (0, 0)) :: (a ++ [])) (fun v L1 W' => ∃ (U : Value) (M : List (Nat × Obj)), v = (.bool (r.1)) ∧ L1 = ((g, Obj.cells (#[U] : Array Value) 92 (0, 0)) :: (M ++ [])) ∧ bI 5 (bV .u8) 1 U r.2 M) := by
  have hST := ST.startE (dd := true) h0
  unfold qI at hm
  refine cF 25 Tryz.func165 rfl (aD (aA (V (aG rfl) (aF (aH (aD (aD (aA (V (aC rfl) (V (pV Tryz.underlying90 rfl rfl) (V (aC rfl) (Vg rfl rfl (aC rfl) (Vg rfl rfl (dO Tryz.underlying54 rfl k) (Vg rfl rfl (aQ rfl rfl rfl) ?_))))))))))))))
  refine V (bX rfl rfl) (aF (aH (CI hm rfl (fun Q hm => ?_) (fun Q hm => ?_))))
  · refine aD (aA (V (aG rfl) (aF (aH (aU (cU ?_))))))
    have hx := sj hm; subst hx
    exact eA (v := (.bool false)) rfl rfl ⟨_, _, rfl, (hST.bkM (Kb (Kr Sn))), c, a, rfl, rfl, i⟩
  refine aX (aH (aD (aA (V (aC rfl) (V (aC rfl) (V (dO Tryz.underlying54 rfl k) (bS hm fun r2 T hm => ?_)))))))
  have hsz := hST.size
  refine VE (mL hST (Cb Pz (Cr Qz Cn)) Tryz.call268 (fun hH hN hsb hmm => (mY g c j a ((D.length : Int)) _ _ ⟨hH, hN, bE.refl _⟩ i T)) (fun W4 v8 μ5 a3 hST H hl7 hlift N => ?_))
  obtain ⟨Y, K, t, rfl, I⟩ := N
  replace t := t.symm; subst t
  replace hST := hST.perm (Tb (Tr Tn))
  refine aF (aH (aD (aA (V (aC rfl) (V (aC rfl) (V (cT rfl) (V (aN wv rfl) (V (aJ rfl (aP hST.has Mh rfl Tryz.isAgg54)) (V (aC rfl) ?_)))))))))
  replace hST := hST.perm (Nr (Qb Qz) Nz)
  refine bS hm fun B G hm => VE (kG (enc := (bV .u8)) (v := Y) (vs := u) (R := K) hST (fun _ => rfl) (by decide) (zk _) Tryz.underlying54 dZ.1 dZ.2.1 rfl dZ.2.2.1 dZ.2.2.2 rfl rfl I (k.mono (Pl.mono _) (H.trans hST.sub_hp)) G (fun a4 a6 J hST z => V (cT rfl) (V (aN wv rfl) ?_)))
  obtain ⟨x, y, rfl⟩ := z.form
  replace hST := hST.perm (Nb (Pr Pz) Nz)
  refine VO (bH (.slice x B.length y) (#[(.slice x B.length y)]) hST rfl rfl Tryz.sizeOf54 (by simp [Value.cells, Value.oneCell']) nb rfl (fun a5 hST => aF (aH (aD (aA (V (aG rfl) (aF (aH (aU ?_)))))))))
  have hx := sj hm; subst hx
  exact eA (v := (.bool true)) rfl rfl ⟨_, _, rfl, (hST.bkM (Kb (Kr Sn))), (.slice x B.length y), J, rfl, rfl, z⟩
theorem uf (j : Nat) (c : Value) (t : List Int) (a : List (Nat × Obj)) (J : ByteArray) (r : (Bool × (List Int))) (w : World) {Z : bD} (h0 : jU Z ((j, Obj.cells (#[c] : Array Value) 92 (0, 0)) :: (a ++ [])) w) (k : bI 5 (bV .u8) 1 c t a) (hm : nL t J = some r) :
    eB true Tryz.prog 270 [(.pointer (some ⟨j, 0, none⟩)), (.string J)] w ((j, Obj.cells (#[c] : Array Value) 92 (0, 0)) :: (a ++ [])) (fun v L1 W' => ∃ (y1 : Value) (S2 : List (Nat × Obj)), v = (.bool (r.1)) ∧ L1 = ((j, Obj.cells (#[y1] : Array Value) 92 (0, 0)) :: (S2 ++ [])) ∧ bI 5 (bV .u8) 1 y1 r.2 S2) := by
  have hST := ST.startE (dd := true) h0
  unfold nL at hm
  refine cF 17 Tryz.func270 rfl (aD (aA (V (aG rfl) (aF (aH (aD (aA (V (aC rfl) (V (yA Tryz.underlying90 rfl rfl) (V (aC rfl) (Vg rfl rfl (aC rfl) (bS hm fun r1 a4 hm => oO rfl rfl (Eg hST Tryz.call152 ((qT J _ _  a4)) (fun W3 hST => V (bU rfl rfl) ?_))))))))))))))
  refine V (aC rfl) (LJ hm (fun B E W => ∃ (z : Value) (x : List (Nat × Obj)) (D : bD) (I : List (Nat × Obj)), bE Z D ∧ ST true (keys ((j, Obj.cells (#[c] : Array Value) 92 (0, 0)) :: (a ++ []))) w W D ((j, Obj.cells (#[z] : Array Value) 92 (0, 0)) :: (x ++ I)) ∧ E 4 = (.bool false) ∧ E 16 = (.bool B.1) ∧ bI 5 (bV .u8) 1 z B.2 x) 5 ?_ (fun B g y => ?_))
  · rintro ⟨a7, c0⟩ E W ⟨z, x, D, I, b1, hST, b9, a3, T⟩ M
    refine V (aG a3) (aF (aH (aU ?_)))
    have hx := sj M; subst hx
    exact eA (v := (.bool a7)) rfl rfl ⟨_, _, rfl, (hST.bkM (Kb (Kr Sn))), z, x, rfl, rfl, T⟩
  refine bC g (fun i g => ?_) (fun i g => ?_)
  · refine Vg rfl (cB i) (aC rfl) (Vg rfl (cB i) (aC rfl) (bS g fun a5 N g => oO rfl (cB i) (CL hST Tryz.underlying9 Tryz.underlying54 Tryz.underlying5 rfl N (fun b6 a6 c3 hST G hl48 U b4 => bS g fun c1 Q g => ?_))))
    have hsz := hST.size
    refine oO rfl (cB i) (mL hST (Cb Pz (Cr Qz Cn)) Tryz.call165 (fun hH hN hsb hmm => (Ad j c t a a6 a5 _ _ ⟨hH, hN, bE.refl _⟩ k (U.mono (Pl.mono _) hsb) Q)) (fun b7 c2 b0 b5 hST H hl56 hlift K => ?_))
    obtain ⟨a9, a2, u, rfl, Y⟩ := K
    replace u := u.symm; subst u
    replace hST := hST.perm (Tb (Tr Tn))
    refine V (bU (cB i) rfl) ?_
    cases g
    exact y _ _ ⟨a9, a2, b0, _, (G.trans H), (hST.sel St), rfl, rfl, Y⟩
  refine Vn rfl (cB i) (Vn rfl (cB i) (Vn rfl (cB i) (Vn rfl (cB i) (V (bX (cB i) rfl) ?_))))
  cases g
  exact y _ _ ⟨c, a, Z, _, (bE.refl _), (hST.sel St), rfl, rfl, k⟩
theorem qQ (c : Nat) (i : Value) (D : List Int) (a : List (Nat × Obj)) (x : Role) (r : (Bool × (List Int))) (w : World) {μ0 : bD} (h0 : jU μ0 ((c, Obj.cells (#[i] : Array Value) 92 (0, 0)) :: (a ++ [])) w) (y : bI 5 (bV .u8) 1 i D a) (hm : jQ D x = some r) :
    eB true Tryz.prog 269 [(.pointer (some ⟨c, 0, none⟩)), (.agg (aO x).toArray)] w ((c, Obj.cells (#[i] : Array Value) 92 (0, 0)) :: (a ++ [])) (fun v L1 W' => ∃ (y1 : Value) (S2 : List (Nat × Obj)), v = (.bool (r.1)) ∧ L1 = ((c, Obj.cells (#[y1] : Array Value) 92 (0, 0)) :: (S2 ++ [])) ∧ bI 5 (bV .u8) 1 y1 r.2 S2) := by
  have hST := ST.startE (dd := true) h0
  unfold jQ at hm
  refine cF 23 Tryz.func269 rfl (aD (aA (VE (cO (v := (.agg (aO x).toArray)) hST rfl (fun W2 b1 hST => V (aG rfl) (aF (aH (aD (aA (V (aC rfl) (V (yA Tryz.underlying90 rfl rfl) (V (aC rfl) (Vg rfl rfl (aJ rfl (aM hST.has Mh (aO x) rfl Tryz.isAgg28 Tryz.sizeOf28)) (bS hm fun r3 c4 hm => oO rfl rfl (Eg hST Tryz.call254 ((nP x _ _  c4)) (fun W5 hST => ?_))))))))))))))))
  refine V (bU rfl rfl) (V (aC rfl) (LJ hm (fun T E W => ∃ (z : Value) (u : List (Nat × Obj)) (B : bD) (a0 : List (Nat × Obj)), bE μ0 B ∧ ST true (keys ((c, Obj.cells (#[i] : Array Value) 92 (0, 0)) :: (a ++ []))) w W B ((b1, Obj.cells ((aO x).toArray : Array Value) 28 (0, 0)) :: ((c, Obj.cells (#[z] : Array Value) 92 (0, 0)) :: (u ++ a0))) ∧ E 0 = (.pointer (some ⟨c, 0, none⟩)) ∧ E 3 = (.pointer (some ⟨b1, 0, none⟩)) ∧ E 4 = (.bool false) ∧ E 16 = (.bool T.1) ∧ bI 5 (bV .u8) 1 z T.2 u) 5 ?_ (fun T t K => ?_)))
  · rintro ⟨e6, c5⟩ E W ⟨z, u, B, a0, d2, hST, c0, c1, a3, c2, N⟩ a6
    refine V (aC c2) (LJ a6 (fun Q E W => ∃ (M : Value) (I : List (Nat × Obj)) (U : bD) (a2 : List (Nat × Obj)), bE B U ∧ ST true (keys ((c, Obj.cells (#[i] : Array Value) 92 (0, 0)) :: (a ++ []))) w W U ((c, Obj.cells (#[M] : Array Value) 92 (0, 0)) :: (I ++ a2)) ∧ E 4 = (.bool false) ∧ E 22 = (.bool Q.1) ∧ bI 5 (bV .u8) 1 M Q.2 I) 5 ?_ (fun Q k J => ?_))
    · rintro ⟨c6, e1⟩ E W ⟨M, I, U, a2, d3, hST, e0, c3, b0⟩ a7
      refine V (aG c3) (aF (aH (aU ?_)))
      have hx := sj a7; subst hx
      exact eA (v := (.bool c6)) rfl rfl ⟨_, _, rfl, (hST.bkM (Kb (Kr Sn))), M, I, rfl, rfl, b0⟩
    refine bC k (fun g k => ?_) (fun g k => ?_)
    · refine Vg rfl (cB g) (aC c0) (Vg rfl (cB g) (aN te c1) (Vg rfl (cB g) (aJ rfl (aP hST.has Mh rfl Tryz.isAgg9)) (bS k fun e2 a8 k => ?_)))
      have hsz := hST.size
      refine oO rfl (cB g) (mL hST (Cb (Pb Pz) (Cr (Qb Qz) Cn)) Tryz.call270 (fun hH hN hsb hmm => (uf c z c5 u x.Word _ _ ⟨hH, hN, bE.refl _⟩ N a8)) (fun d8 e4 d0 d6 hST Y hl67 hlift a4 => ?_))
      obtain ⟨c8, b6, G, rfl, b2⟩ := a4
      replace G := G.symm; subst G
      replace hST := hST.perm (Tb (Tr Tn))
      refine V (bU (cB g) rfl) ?_
      cases k
      exact J _ _ ⟨c8, b6, d0, _, Y, (hST.sel (Kb (Kr (Db St)))), a3, rfl, b2⟩
    refine Vn rfl (cB g) (Vn rfl (cB g) (Vn rfl (cB g) (Vn rfl (cB g) (V (bX (cB g) rfl) ?_))))
    cases k
    exact J _ _ ⟨z, u, B, _, (bE.refl _), (hST.sel (Db St)), a3, rfl, N⟩
  refine bC t (fun j t => ?_) (fun j t => ?_)
  · refine Vg rfl (cB j) (aC rfl) (Vg rfl (cB j) (aN qM rfl) (Vg rfl (cB j) (aJ rfl (aP hST.has Mh rfl Tryz.isAgg9)) (bS t fun e3 a9 t => ?_)))
    have hsz := hST.size
    refine oO rfl (cB j) (mL hST (Cb (Pb Pz) (Cr (Qb Qz) Cn)) Tryz.call270 (fun hH hN hsb hmm => (uf c i D a x.Owner _ _ ⟨hH, hN, bE.refl _⟩ y a9)) (fun d9 e5 d1 d7 hST Z hl84 hlift a5 => ?_))
    obtain ⟨c9, b7, H, rfl, b3⟩ := a5
    replace H := H.symm; subst H
    replace hST := hST.perm (Tb (Tr Tn))
    refine V (bU (cB j) rfl) ?_
    cases t
    exact K _ _ ⟨c9, b7, d1, _, Z, (hST.sel (Sb (Pb (Pr Pz)) St)), rfl, rfl, rfl, rfl, b3⟩
  refine Vn rfl (cB j) (Vn rfl (cB j) (Vn rfl (cB j) (Vn rfl (cB j) (V (bX (cB j) rfl) ?_))))
  cases t
  exact K _ _ ⟨i, a, μ0, _, (bE.refl _), (hST.sel St), rfl, rfl, rfl, rfl, y⟩
theorem yt (b4 : (List Int) → aB → Option (List Int)) (f2 : ∀ (a : Nat) (k : Value) (B : List Int) (g : List (Nat × Obj)) (j : aB) (u : Value) (r : List Int) (w : World) {μ0 : bD} (h0 : jU μ0 ((a, Obj.cells (#[k] : Array Value) 92 (0, 0)) :: (g ++ [])) w) (T : bI 5 (bV .u8) 1 k B g) (t : Sl aK 5 μ0 u j.Kids), b4 B j = some r → eB false Tryz.prog 471 [(.pointer (some ⟨a, 0, none⟩)), (.agg #[(.int .i64 j.Op), (.int .i64 j.K), (.string j.Role.Owner), (.string j.Role.Word), u])] w ((a, Obj.cells (#[k] : Array Value) 92 (0, 0)) :: (g ++ [])) (fun v L1 W' => ∃ (y1 : Value) (S2 : List (Nat × Obj)), v = (.tuple #[]) ∧ L1 = ((a, Obj.cells (#[y1] : Array Value) 92 (0, 0)) :: (S2 ++ [])) ∧ bI 5 (bV .u8) 1 y1 r S2)) (a : Nat) (k : Value) (B : List Int) (g : List (Nat × Obj)) (j : aB) (u : Value) (r : List Int) (w : World) {μ0 : bD} (h0 : jU μ0 ((a, Obj.cells (#[k] : Array Value) 92 (0, 0)) :: (g ++ [])) w) (T : bI 5 (bV .u8) 1 k B g) (t : Sl aK 5 μ0 u j.Kids) (hm : oG b4 B j = some r) :
    eB false Tryz.prog 471 [(.pointer (some ⟨a, 0, none⟩)), (.agg #[(.int .i64 j.Op), (.int .i64 j.K), (.string j.Role.Owner), (.string j.Role.Word), u])] w ((a, Obj.cells (#[k] : Array Value) 92 (0, 0)) :: (g ++ [])) (fun v L1 W' => ∃ (y1 : Value) (S2 : List (Nat × Obj)), v = (.tuple #[]) ∧ L1 = ((a, Obj.cells (#[y1] : Array Value) 92 (0, 0)) :: (S2 ++ [])) ∧ bI 5 (bV .u8) 1 y1 r S2) := by
  have hST := ST.startE (dd := false) h0
  unfold oG at hm
  refine cF 40 Tryz.func471 rfl (aD (aA ?_))
  obtain ⟨A1, c2, rfl⟩ := t.form
  refine VE (cO (v := (.agg (C3 j.Op j.K j.Role.Owner j.Role.Word A1 j.Kids.length c2).toArray)) hST rfl (fun W4 b3 hST => aF (aH (aD (aA (V (aC rfl) (V (aN nR rfl) (V (aJ rfl (aP hST.has Mh rfl Tryz.isAgg3)) (bS hm fun r5 g6 hm => ?_)))))))))
  have hsz := hST.size
  refine VE (mL hST (Cb (Pb Pz) (Cr (Qb Qz) Cn)) Tryz.call268 (fun hH hN hsb hmm => eB.weak (mY a k B g j.Op _ _ ⟨hH, hN, bE.refl _⟩ T g6)) (fun W7 j6 μ8 i8 hST e9 hl10 hlift e5 => ?_))
  obtain ⟨b7, a9, a2, rfl, a5⟩ := e5
  replace a2 := a2.symm; subst a2
  replace hST := hST.perm (Tb (Tr Tn))
  refine aF (aH (aD (aD (aA (V (aN nR rfl) (V (aJ rfl (aP hST.has (Mt (Ma Mh)) rfl Tryz.isAgg3)) (V (aQ rfl rfl rfl) (aF (aH (CI hm rfl (fun e8 hm => ?_) (fun e8 hm => ?_)))))))))))
  · refine aD (aA (V (aC rfl) (V (aN qK rfl) (V (aJ rfl (aM hST.has (Mt (Ma Mh)) (aO j.Role) rfl Tryz.isAgg28 Tryz.sizeOf28)) (bS hm fun j5 f0 hm => ?_)))))
    have hsz := hST.size
    refine VE (mL hST (Cb Pz (Cr Qz Cn)) Tryz.call269 (fun hH hN hsb hmm => eB.weak (qQ a b7 r5.2 a9 j.Role _ _ ⟨hH, hN, bE.refl _⟩ a5 f0)) (fun j3 j7 j9 i9 hST h4 hl24 hlift e6 => ?_))
    obtain ⟨h1, g2, a3, rfl, f4⟩ := e6
    replace a3 := a3.symm; subst a3
    replace hST := hST.perm (Tb (Tr Tn))
    refine aF (aH ?_)
    replace hST := hST.sel (Kb (Kr (Db St)))
    refine aU (cU ?_)
    have hx := sj hm; subst hx
    exact jD rfl ⟨_, _, rfl, (hST.bkM (Kb (Kr Sn))), h1, g2, rfl, rfl, f4⟩
  refine aX (aH (aD (CJ hm (fun b5 E W => ∃ (a8 : Value) (a6 : List (Nat × Obj)) (c0 : bD) (d6 : List (Nat × Obj)), bE μ8 c0 ∧ ST false (keys ((a, Obj.cells (#[k] : Array Value) 92 (0, 0)) :: (g ++ []))) w W c0 ((a, Obj.cells (#[a8] : Array Value) 92 (0, 0)) :: ((b3, Obj.cells ((C3 j.Op j.K j.Role.Owner j.Role.Word A1 j.Kids.length c2).toArray : Array Value) 113 (0, 0)) :: (a6 ++ d6))) ∧ E 0 = (.pointer (some ⟨a, 0, none⟩)) ∧ E 3 = (.pointer (some ⟨b3, 0, none⟩)) ∧ bI 5 (bV .u8) 1 a8 b5 a6) (fun b5 y => ?_) ?_)))
  · refine aD (aA (V (aN nR rfl) (V (aJ rfl (aP hST.has (Mt (Ma Mh)) rfl Tryz.isAgg3)) (V (aQ rfl rfl rfl) (aF (aH (CI y rfl (fun c4 y => ?_) (fun c4 y => ?_))))))))
    · refine aA (V (aC rfl) (V (aN sO rfl) (V (aJ rfl (aP hST.has (Mt (Ma Mh)) rfl Tryz.isAgg3)) (bS y fun i4 d0 y => ?_))))
      have hsz := hST.size
      refine VE (mL hST (Cb Pz (Cr Qz Cn)) Tryz.call268 (fun hH hN hsb hmm => eB.weak (mY a b7 r5.2 a9 j.K _ _ ⟨hH, hN, bE.refl _⟩ a5 d0)) (fun i1 i7 g1 h7 hST b2 hl266 hlift c3 => ?_))
      obtain ⟨f9, e3, N, rfl, d5⟩ := c3
      replace N := N.symm; subst N
      replace hST := hST.perm (Tb (Tr Tn))
      refine aF (aH ?_)
      cases y
      exact ⟨f9, e3, g1, _, b2, (hST.sel (Kb (Sb (Pr Pz) St))), rfl, rfl, d5⟩
    refine aX (aH ?_)
    cases y
    exact ⟨b7, a9, μ8, _, (bE.refl _), (hST.sel (Kb (Sb (Pr Pz) St))), rfl, rfl, a5⟩
  rintro g7 E W ⟨a8, a6, c0, d6, c6, hST, d7, d8, f3⟩ a0
  refine aD (aA (V (aC d7) (V (aN lK d8) (V (aJ rfl (aP hST.has (Mt Mh) rfl Tryz.isAgg111)) (V (dO Tryz.underlying111 rfl t) (bS a0 fun g9 f1 a0 => ?_))))))
  have hsz := hST.size
  refine VE (mL hST (Cb Pz (Cr (Qb Qz) Cn)) Tryz.call268 (fun hH hN hsb hmm => eB.weak (mY a a8 g7 a6 ((j.Kids.length : Int)) _ _ ⟨hH, hN, bE.refl _⟩ f3 f1)) (fun j4 j8 d9 j0 hST c7 hl61 hlift e7 => ?_))
  obtain ⟨h2, g3, a4, rfl, f5⟩ := e7
  replace a4 := a4.symm; subst a4
  replace hST := hST.perm (Tb (Tr Tn))
  refine aF (aH (aD (aA (V (aN lK d8) (V (aJ rfl (aP hST.has (Mt (Ma Mh)) rfl Tryz.isAgg111)) (V (dO Tryz.underlying111 rfl t) (V (aC rfl) (aF (aH ?_)))))))))
  replace hST := hST.sel (Kb (Kr (Db St)))
  refine qP (dA (fun i E W => ∃ (D : Value) (H : List Int) (z : List (Nat × Obj)) (Q : bD) (U : List (Nat × Obj)), (E 32 = .int .i64 (i : Nat) ∧ E 31 = .int .i64 (j.Kids.length : Nat)) ∧ bE d9 Q ∧ ST false (keys ((a, Obj.cells (#[k] : Array Value) 92 (0, 0)) :: (g ++ []))) w W Q ((a, Obj.cells (#[D] : Array Value) 92 (0, 0)) :: (z ++ U)) ∧ E 0 = (.pointer (some ⟨a, 0, none⟩)) ∧ E 30 = (.slice A1 j.Kids.length c2) ∧ bI 5 (bV .u8) 1 D H z ∧ iM b4 (j.Kids.drop i) H = some r) j.Kids.length t.len ⟨h2, g9.2, g3, d9, _, ⟨rfl, rfl⟩, (bE.refl _), (hST.sel St), d7, rfl, f5, a0⟩ (by decide) (by decide) (by decide) (fun _ _ _ h => by obtain ⟨_, _, _, _, _, eIN, _⟩ := h; exact eIN) ?_ ?_)
  · rintro f6 E W c5 ⟨D, H, z, Q, U, ⟨eI, eN⟩, G, hST, Y, Z, K, x⟩
    obtain ⟨c, h5, d2, d1, d3⟩ := cR c5
    rw [d2] at x
    rw [iM] at x
    refine aY (aD (aA (VQ (eV (i := (f6 : Int)) (x0 := c) aK.out Tryz.underlying111 Tryz.sizeOf113 Z eI (t.mono aV.mono (((e9.trans c6).trans c7).trans G)) (Int.natCast_nonneg _) d1) (fun i3 ⟨_, ⟨i5, rfl, a7⟩, c8⟩ => V (aJ rfl (bN hST.has c8 Tryz.isAgg113 Tryz.sizeOf113)) (VE (bL hST Tryz.zeroValue113 (fun h8 i2 hST => ?_)))))))
    obtain ⟨I, J, rfl⟩ := a7.form
    refine VO (bH (.agg (C3 c.Op c.K c.Role.Owner c.Role.Word I c.Kids.length J).toArray) ((C3 c.Op c.K c.Role.Owner c.Role.Word I c.Kids.length J).toArray) hST rfl rfl Tryz.sizeOf113 (by simp [Value.cells, Value.oneCell']) nb rfl (fun h9 hST => aF (aH (aA (V (aC Y) (V (aJ rfl (aM hST.has Mh (C3 c.Op c.K c.Role.Owner c.Role.Word I c.Kids.length J) rfl Tryz.isAgg113 Tryz.sizeOf113)) (bS x fun f7 c9 x => ?_)))))))
    have hsz := hST.size
    refine VE (mL hST (Cb (Pb Pz) (Cr (Qb Qz) Cn)) Tryz.call471 (fun hH hN hsb hmm => (f2 a D H z c (.slice I c.Kids.length J) _ _ ⟨hH, hN, bE.refl _⟩ K (a7.mono aV.mono hsb) c9)) (fun i0 i6 g0 h6 hST b1 hl249 hlift c1 => ?_))
    obtain ⟨f8, e2, M, rfl, d4⟩ := c1
    replace M := M.symm; subst M
    replace hST := hST.perm (Tb (Tr Tn))
    refine aF (cL (aH ?_))
    replace hST := hST.sel (Kb (Kr (Db St)))
    exact ⟨eI, f8, f7, e2, g0, _, ⟨rfl, eN⟩, (G.trans b1), (hST.sel St), Y, Z, d4, (by rw [d3]; exact x)⟩
  rintro E W ⟨D, H, z, Q, U, ⟨eI, eN⟩, G, hST, Y, Z, K, x⟩
  rw [List.drop_length] at x
  rw [iM] at x
  refine aH (lP ?_)
  have hx := sj x; subst hx
  exact jD rfl ⟨_, _, rfl, (hST.bkM (Kb (Kr Sn))), D, z, rfl, rfl, K⟩
theorem wH : ∀ (n : Nat) (i : Nat) (g : Value) (k : List Int) (c : List (Nat × Obj)) (j : aB) (a : Value) (r : List Int) (w : World) {z : bD} (D : jU z ((i, Obj.cells (#[g] : Array Value) 92 (0, 0)) :: (c ++ [])) w) (x : bI 5 (bV .u8) 1 g k c) (t : Sl aK 5 z a j.Kids) (_ : kN n k j = some r),
    eB false Tryz.prog 471 [(.pointer (some ⟨i, 0, none⟩)), (.agg #[(.int .i64 j.Op), (.int .i64 j.K), (.string j.Role.Owner), (.string j.Role.Word), a])] w ((i, Obj.cells (#[g] : Array Value) 92 (0, 0)) :: (c ++ [])) (fun v B W' => ∃ (y : Value) (u : List (Nat × Obj)), v = (.tuple #[]) ∧ B = ((i, Obj.cells (#[y] : Array Value) 92 (0, 0)) :: (u ++ [])) ∧ bI 5 (bV .u8) 1 y r u)
  | 0 => by intros; rename_i h; simp only [kN] at h; cases h
  | n + 1 => yt (kN n) (wH n)
theorem BB (k : Nat) (i : Value) (u : List Int) (c : List (Nat × Obj)) (a : aB) (j : Value) (r : (Bool × (List Int))) (w : World) {Q : bD} (Y : jU Q ((k, Obj.cells (#[i] : Array Value) 92 (0, 0)) :: (c ++ [])) w) (t : bI 5 (bV .u8) 1 i u c) (g : Sl aK 5 Q j a.Kids) (hm : pS u a = some r) :
    eB false Tryz.prog 469 [(.pointer (some ⟨k, 0, none⟩)), (.agg #[(.int .i64 a.Op), (.int .i64 a.K), (.string a.Role.Owner), (.string a.Role.Word), j])] w ((k, Obj.cells (#[i] : Array Value) 92 (0, 0)) :: (c ++ [])) (fun v U W' => ∃ (M : Value) (I : List (Nat × Obj)), v = (.bool (r.1)) ∧ U = ((k, Obj.cells (#[M] : Array Value) 92 (0, 0)) :: (I ++ [])) ∧ bI 5 (bV .u8) 1 M r.2 I) := by
  have hST := ST.startE (dd := false) Y
  unfold pS at hm
  refine cF 15 Tryz.func469 rfl (aD (aA ?_))
  obtain ⟨y, z, rfl⟩ := g.form
  refine VE (cO (v := (.agg (C3 a.Op a.K a.Role.Owner a.Role.Word y a.Kids.length z).toArray)) hST rfl (fun W4 b3 hST => V (aG rfl) (aF (aH (aD (aD (aA (V (aC rfl) (V (pV Tryz.underlying90 rfl rfl) (V (aC rfl) (Vg rfl rfl (aJ rfl (aM hST.has Mh (C3 a.Op a.K a.Role.Owner a.Role.Word y a.Kids.length z) rfl Tryz.isAgg113 Tryz.sizeOf113)) (bS hm fun r5 K hm => oO rfl rfl (Eg hST Tryz.call107 ((mB a (.slice y a.Kids.length z) _ _ (g.mono aV.mono hST.sub_hp) K)) (fun W7 hST => Vg rfl rfl (fV rfl) (V (bX rfl rfl) ?_)))))))))))))))
  refine aF (aH (CI hm rfl (fun J hm => ?_) (fun J hm => ?_)))
  · refine aD (aA (V (aG rfl) (aF (aH ?_))))
    replace hST := hST.sel (Db St)
    refine aU (cU ?_)
    have hx := sj hm; subst hx
    exact eA (v := (.bool false)) rfl rfl ⟨_, _, rfl, (hST.bkM (Kb (Kr Sn))), i, c, rfl, rfl, t⟩
  refine aX (aH (aD (aA (V (aC rfl) (V (aJ rfl (aM hST.has Mh (C3 a.Op a.K a.Role.Owner a.Role.Word y a.Kids.length z) rfl Tryz.isAgg113 Tryz.sizeOf113)) (bS hm fun r9 D hm => ?_))))))
  have hsz := hST.size
  refine VE (mL hST (Cb (Pb Pz) (Cr (Qb Qz) Cn)) Tryz.call471 (fun hH hN hsb hmm => ((wH cE) k i u c a (.slice y a.Kids.length z) _ _ ⟨hH, hN, bE.refl _⟩ t (g.mono aV.mono hsb) D)) (fun a0 a2 a3 Z hST T hl14 hlift B => ?_))
  obtain ⟨N, H, x, rfl, G⟩ := B
  replace x := x.symm; subst x
  replace hST := hST.perm (Tb (Tr Tn))
  refine aF (aH ?_)
  replace hST := hST.sel (Kb (Kr (Db St)))
  refine aD (aA (V (aG rfl) (aF (aH (aU ?_)))))
  have hx := sj hm; subst hx
  exact eA (v := (.bool true)) rfl rfl ⟨_, _, rfl, (hST.bkM (Kb (Kr Sn))), N, H, rfl, rfl, G⟩
theorem Df (g : Value) (i : List Int) (r : List Int) (w : World) (a : Sl (Pl (bV .u8)) 1 (hp w) g i) (hm : pP i = some r) :
    gQ true Tryz.prog 153 [g] w 5 (bV .u8) 1 r := by
  have hST := ST.start (dd := true) w
  unfold pP at hm
  refine cF 8 Tryz.func153 rfl (aD (aA (V (aG rfl) (aF (aH (aD (aD (aA (V (aC rfl) ?_)))))))))
  obtain ⟨y, B, rfl⟩ := a.form
  refine V (wU Tryz.underlying54 rfl rfl) (aF (aH ?_))
  rcases y with _ | z
  · have u := a.isNil
    replace hm : some [] = some r := by rw [u] at hm; simpa [fK, maxLen] using hm
    refine uo (rfl) (aD (aA (V (aG rfl) (aF (aH (aU (cU ?_)))))))
    have hx := sj hm; subst hx
    exact eA (v := (.slice none 0 0)) rfl rfl ⟨_, [], rfl, hST.backRow (fun p hq => by cases hq) (by simp), bI.nil _ _ _⟩
  · refine oL (rfl) (aX (aH (aD (aA (VE (aR (qs := #[]) (cs := #[]) hST nZ (bB [] Tryz.underlying54 Tryz.sizeOf5 Tryz.zeroValue5 (by decide) rfl (by simp) rfl rfl) (fun G k hST => V (aC rfl) (bS hm fun H t hm => VE (kG (enc := (bV .u8)) (v := (.slice (some ⟨k, 0, none⟩) 0 0)) (vs := (.slice (some z) i.length B)) (R := [(k, Obj.cells (#[] : Array Value) 5 (0, 0))]) hST (fun _ => rfl) (by decide) (zk _) Tryz.underlying54 dZ.1 dZ.2.1 rfl dZ.2.2.1 dZ.2.2.2 rfl rfl (bI.lit (l := []) (enc := (bV .u8)) rfl (by decide) rfl rfl) (a.mono (Pl.mono _) hST.sub_hp) t (fun D x j hST c => V (aG rfl) (aF (aH (aU ?_)))))))))))))
    have hx := sj hm; subst hx
    exact eA (v := x) rfl rfl ⟨_, j, rfl, hST.backRow (fun p hq => (Ml hq)) c.nd, c⟩
theorem wi (g : Nat) (a : Value) (c : List Int) (r : List Int) (w : World) (j : Sl (Pl (bV .u8)) 1 (hp w) a c) (k : At (hp w) (.pointer (some ⟨g, 0, none⟩)) [a]) (hm : mZ c = some r) :
    gQ true Tryz.prog 66 [(.pointer (some ⟨g, 0, none⟩))] w 5 (bV .u8) 1 r := by
  have hST := ST.start (dd := true) w
  unfold mZ at hm
  refine cF 10 Tryz.func66 rfl (aD (aA (V (aG rfl) (aF (aH (aD (aD (aA (V (aC rfl) (V (pV Tryz.underlying90 rfl rfl) (aF (aH (oL rfl (aX ?_))))))))))))))
  refine aH (aD (aA (V (aC rfl) (V (cT rfl) (VQ (uZ [a] wv rfl k rfl) (fun G u => V (aJ rfl (nU hST.has (y := a) u Tryz.isAgg54)) (bS hm fun H x hm => VE (sZ hST Tryz.call153 ((Df a c _ _ (j.mono (Pl.mono _) hST.sub_hp) x)) (fun D z I t hST B hl9 i => V (aG rfl) (aF (aH (aU ?_))))))))))))
  have hx := sj hm; subst hx
  exact eA (v := z) rfl rfl ⟨_, t, rfl, hST.backRow (fun p hq => (Ml hq)) i.nd, i⟩
theorem vA (a : aB) (g : Value) (r : List Int) (w : World) (c : Sl aK 5 (hp w) g a.Kids) (hm : mH a = some r) :
    gQ false Tryz.prog 465 [(.agg #[(.int .i64 a.Op), (.int .i64 a.K), (.string a.Role.Owner), (.string a.Role.Word), g])] w 5 (bV .u8) 1 r := by
  have hST := ST.start (dd := false) w
  unfold mH at hm
  refine cF 11 Tryz.func465 rfl (aD (aA ?_))
  obtain ⟨k, t, rfl⟩ := c.form
  refine VE (cO (v := (.agg (C3 a.Op a.K a.Role.Owner a.Role.Word k a.Kids.length t).toArray)) hST rfl (fun W4 b3 hST => V (aG rfl) (aF (aH (aD (aA (V (bJ (qs := #[]) (v := (.agg #[(.slice none 0 0)])) nZ (aW Tryz.zeroValue92 Tryz.underlying92 (J6 _ Tryz.underlying92) (by kernel_rfl))) (VE (cO (v := (.agg #[(.slice none 0 0)])) hST rfl (fun W6 B hST => V (aG rfl) (aF (aH (aD (aA (V (aC rfl) (V (aJ rfl (aM hST.has (Mt Mh) (C3 a.Op a.K a.Role.Owner a.Role.Word k a.Kids.length t) rfl Tryz.isAgg113 Tryz.sizeOf113)) ?_))))))))))))))))
  refine bS hm fun K D hm => ?_
  have hsz := hST.size
  refine VE (mL hST (Cb Pz (C0 Cn)) Tryz.call469 (fun hH hN hsb hmm => (BB B (.slice none 0 0) ([]) [] a (.slice k a.Kids.length t) _ _ ⟨hH, hN, bE.refl _⟩ (bI.nil _ _ _) (c.mono aV.mono hsb) D)) (fun W9 U Y M hST I hl12 hlift u => ?_))
  obtain ⟨H, N, i, rfl, y⟩ := u
  replace i := i.symm; subst i
  replace hST := hST.perm (Tb (Tr Tn))
  refine aF (aH ?_)
  replace hST := hST.sel (Kb (Kr (Db St)))
  refine aD (aA (V (aC rfl) (bS hm fun T x hm => VE (sZ hST Tryz.call66 (gQ.weak (wi B H K.2 _ _ (y.sl (fun _ => rfl) (fun b o hq => hST.at_ (Mt (Ml hq)))) (At.of (hST.at_ Mh) _ rfl) x)) (fun Q G Z z hST J hl25 j => V (aG rfl) (aF (aH ?_)))))))
  replace hST := hST.sel (Kr (Db (Dr St)))
  refine aU ?_
  have hx := sj hm; subst hx
  exact eA (v := G) rfl rfl ⟨_, z, rfl, hST.backRow (fun p hq => (Ml hq)) j.nd, j⟩
theorem Ji (w : World) {va vb : Value} {a b : List Int} (h1 : Sl (Pl (bV .u8)) 1 (hp w) va a) (h2 : Sl (Pl (bV .u8)) 1 (hp w) vb b) : (callFunc 369 [va, vb].toArray).run Tryz.prog w = .ok (.value (.int .i64 (tZ a b))) w := Ht Tryz.func369 (by kernel_rfl) (by kernel_rfl) (by kernel_rfl) (by kernel_rfl) h1 h2
theorem wV (a : Value) (g : List Int) (c : Value) (i : List Int) (r : Int) (w : World) (j : Sl (Pl (bV .u8)) 1 (hp w) a g) (k : Sl (Pl (bV .u8)) 1 (hp w) c i) (hm : pW g i = some r) :
    bO true Tryz.prog 323 [a, c] w (.int .i64 r) := by
  have hST := ST.start (dd := true) w
  unfold pW at hm
  refine cF 8 Tryz.func323 rfl (aD (aA (V (aG rfl) (aF (aH (aD (aA (V (aC rfl) (V (aC rfl) (VE (FC (args := [a, c]) (v := .int .i64 (tZ g i)) rfl (by exact sJ rfl rfl) (Ji _ (j.mono (Pl.mono _) hST.sub_hp) (k.mono (Pl.mono _) hST.sub_hp)) (V (aG rfl) (aF (aH (aU ?_)))))))))))))))
  have hx := sj hm; subst hx
  exact rP hST
theorem Af (a : aB) (j : Value) (c : aB) (k : Value) (r : Int) (w : World) (g : Sl aK 5 (hp w) j a.Kids) (i : Sl aK 5 (hp w) k c.Kids) (hm : mI a c = some r) :
    bO false Tryz.prog 458 [(.agg #[(.int .i64 a.Op), (.int .i64 a.K), (.string a.Role.Owner), (.string a.Role.Word), j]), (.agg #[(.int .i64 c.Op), (.int .i64 c.K), (.string c.Role.Owner), (.string c.Role.Word), k])] w (.int .i64 r) := by
  have hST := ST.start (dd := false) w
  unfold mI at hm
  refine cF 10 Tryz.func458 rfl (aD (aA ?_))
  obtain ⟨x, z, rfl⟩ := g.form
  refine VE (cO (v := (.agg (C3 a.Op a.K a.Role.Owner a.Role.Word x a.Kids.length z).toArray)) hST rfl (fun W4 b3 hST => ?_))
  obtain ⟨y, B, rfl⟩ := i.form
  refine VE (cO (v := (.agg (C3 c.Op c.K c.Role.Owner c.Role.Word y c.Kids.length B).toArray)) hST rfl (fun W8 b7 hST => V (aG rfl) (aF (aH (aD ?_)))))
  replace hST := hST.drew
  have hS0 := hST.has.sel (Kb (Kb Sn))
  refine cX hS0 cC (XH 0 rfl hS0 (fun _ hS => aJ rfl (aM hS (Mt Mh) (C3 a.Op a.K a.Role.Owner a.Role.Word x a.Kids.length z) rfl Tryz.isAgg113 Tryz.sizeOf113)) (XH 2 rfl hS0 (fun _ hS => aJ rfl (aM hS Mh (C3 c.Op c.K c.Role.Owner c.Role.Word y c.Kids.length B) rfl Tryz.isAgg113 Tryz.sizeOf113)) (bS hm fun K H hm => XE 1 rfl (sZ hST Tryz.call465 ((vA a (.slice x a.Kids.length z) _ _ (g.mono aV.mono hST.sub_hp) H)) (fun Y N a4 T hST t hl56 D => ?_)))))
  have hS0 := hST.has.selS t (Dr (Kb (Kb Sn)))
  refine ⟨hS0, (bS hm fun M I hm => XE 3 rfl (sZ hST Tryz.call465 ((vA c (.slice y c.Kids.length B) _ _ (i.mono aV.mono (t.trans hST.sub_hp)) I)) (fun Z Q a5 U hST u hl65 G => ?_)))⟩
  have hS0 := hST.has.selS (t.trans u) (Dr (Dr (Kb (Kb Sn))))
  refine ⟨hS0, (bS hm fun a3 J hm => XE 4 rfl (Eg hST Tryz.call323 (bO.weak (wV N K Q M _ _ (D.sl (fun _ => rfl) (fun b o hq => hST.at_ (Ma (Ml hq)))) (G.sl (fun _ => rfl) (fun b o hq => hST.at_ (Ml hq))) J)) (fun a2 hST => ?_)))⟩
  have hS0 := hST.has.selS (t.trans u) (Dr (Dr (Kb (Kb Sn))))
  refine ⟨hS0, (X 5 rfl hS0 (aG rfl) (dB (by kernel_rfl) (aH ?_)))⟩
  replace hST := hST.sel (Dr (Dr (Db (Db St))))
  refine aU ?_
  have hx := sj hm; subst hx
  exact rP hST
theorem xQ (g : Value) (k : List aB) (r : List aB) (w : World) {G : bD} (Y : jU G [] w) (u : Sl aK 5 G g k) (hm : oR k = some r) :
    eS false Tryz.prog 436 [g] w G [] (fun v U μ1 => ∃ (T : Value) (I : List (Nat × Obj)), v = T ∧ U = (I ++ []) ∧ bG 113 aK 5 μ1 T r I) := by
  have hST := ST.startE (dd := false) Y
  unfold oR at hm
  refine cF 9 Tryz.func436 rfl (aD (aA (V (aG rfl) (aF (aH (aD (aA (V (aC rfl) (bS hm fun Z Q hm => ?_)))))))))
  have hsz := hST.size
  refine VE (lT hST (List.Perm.refl _) Tryz.call456 (fun hH hN hsb hmm => eS.weak (xc g k _ _ ⟨hH, hN, hsb⟩ (u.mono aV.mono (bE.refl _)) Q)) (fun W3 v7 μ4 L9 hST y hl6 K => ?_) (L0 := []))
  obtain ⟨i, H, a, rfl, B⟩ := K
  replace a := a.symm; subst a
  replace hST := hST.perm (Tr Tn)
  refine V (aG rfl) (aF (aH (aD (aA (V (aC rfl) (bS hm fun a5 z hm => ?_))))))
  have hsz := hST.size
  refine VE (lT hST (Cr Qz Cn) Tryz.call457 (fun hH hN hsb hmm => (ud i Z H (.func (.func 458) #[] #[]) (fun (x : (aB × aB)) => mI x.1 x.2) _ _ ⟨hH, hN, hsb⟩ B ⟨458, #[], #[], rfl, Tryz.call458, fun W x vs r hs hR hm => by obtain ⟨_, _, rfl, M, N⟩ := hR; obtain ⟨u0, rfl, k0⟩ := M.out; obtain ⟨t0, rfl, j0⟩ := N.out; exact Af x.1 u0 x.2 t0 r W k0 j0 hm⟩ z)) (fun a4 a6 a7 a3 hST j hl19 t => ?_))
  obtain ⟨J, c, rfl, D⟩ := t
  replace c := c.symm; subst c
  replace hST := hST.perm (Tr Tn)
  refine aF (aH (aD (aA (V (aC rfl) (V (aG rfl) (aF (aH (aU ?_))))))))
  have hx := sj hm; subst hx
  exact eA (v := i) rfl rfl ⟨_, _, _, rfl, (hST.bkM (Kr Sn)), (y.trans j), (hl6.trans hl19), (ST.sub_hpx hST (fF.mem (Kr Sn))), i, J, rfl, rfl, D⟩
theorem uJ (g : Value) (a0 : List aB) (x : List (Nat × Obj)) (Z : Value) (f1 : ((aB × aB)) → Option Bool) (r : List aB) (w : World) {μ0 : bD} (h0 : jU μ0 (x ++ []) w) (B : bG 113 aK 5 μ0 g a0 x) (d2 : sf Tryz.prog Z μ0 (rn aK aK) (fun (r : Bool) => (.bool r)) f1) (hm : iC a0 f1 = some r) :
    eS false Tryz.prog 439 [g, Z] w μ0 (x ++ []) (fun v L1 μ1 => ∃ (y1 : Value), v = y1 ∧ L1 = [] ∧ Sl aK 5 μ1 y1 (r)) := by
  have hST := ST.startE (dd := false) h0
  unfold iC at hm
  refine cF 66 Tryz.func439 rfl (aD (aA (V (aG rfl) (aF (aH (aD (aD (aA (V (aC rfl) (V (tX Tryz.underlying111 rfl B) (V (aQ rfl rfl rfl) (aF (aH (CI hm rfl (fun i1 hm => ?_) (fun i1 hm => ?_)))))))))))))))
  · refine aD (aA (V (aC rfl) (V (aG rfl) (aF (aH (aU (cU ?_)))))))
    have hx := sj hm; subst hx
    refine eA (v := g) rfl rfl ?_
    obtain ⟨μ2, hST, i0, hl4, i8⟩ := ST.pubD aV hST B
    exact ⟨_, _, _, rfl, (hST.bkM Sn), i0, hl4, (ST.sub_hpx hST (fF.mem Sn)), g, rfl, rfl, i8⟩
  refine aX (aH (aD (aD (aA (V (aG rfl) (aF (aH (aY (iV (fun m E W => ∃ (t : Int) (b7 : List (Nat × Obj)), ST false (keys (x ++ [])) w W μ0 (x ++ b7) ∧ E 0 = g ∧ E 1 = Z ∧ E 5 = (.int .i64 t) ∧ eC a0 f1 m t = some r) cE ⟨1, _, (hST.sel St), rfl, rfl, rfl, hm⟩ ?_)))))))))
  rintro m E W ⟨t, b7, hST, y, a3, G, a⟩
  cases m with
  | zero => rw [eC] at a; cases a
  | succ g8 =>
    rw [eC] at a
    refine aD (aD (aA (V (aC G) (V (aC y) (V (tX Tryz.underlying111 rfl B) (V (aQ rfl rfl rfl) (aF (aH (CI a rfl (fun d3 a => ?_) (fun d3 a => ?_))))))))))
    · refine aX (aH (aD (aY (aD ?_))))
      replace hST := hST.drew
      have hS0 := hST.has.sel (Kr Sn)
      refine cX hS0 cC (X 0 rfl hS0 (aC a3) (X 1 rfl hS0 (aC y) (X 2 rfl hS0 (aC G) (bS a fun h5 b2 a => XQ 3 rfl hS0 (dD (i := t) aK.out Tryz.underlying111 Tryz.sizeOf113 rfl rfl B (bY b2) (bT b2)) (fun j9 ⟨_, ⟨h1, rfl, e7⟩, e0, i2⟩ => XH 4 rfl hS0 (fun _ hS => aJ rfl (bN (iA.hp _) (e0.mono (eG (fun b o hq => hS.2 b o (Ml hq)))) Tryz.isAgg113 Tryz.sizeOf113)) (X 5 rfl hS0 (aC y) (X 6 rfl hS0 (aC G) (X 7 rfl hS0 (aQ rfl rfl rfl) (bS a fun h6 b3 a => XQ 8 rfl hS0 (dD (i := (IntKind.i64.wrap (t - 1))) aK.out Tryz.underlying111 Tryz.sizeOf113 rfl rfl B (bY b3) (bT b3)) (fun k0 ⟨_, ⟨h2, rfl, e8⟩, e1, i3⟩ => XH 9 rfl hS0 (fun _ hS => aJ rfl (bN (iA.hp _) (e1.mono (eG (fun b o hq => hS.2 b o (Ml hq)))) Tryz.isAgg113 Tryz.sizeOf113)) (bS a fun k5 e5 a => XE 10 rfl (ut ((h5, h6)) hST d2 (bE.refl _) (rn.mk aV aV (aK.mk ⟨h1, rfl, e7⟩) (aK.mk ⟨h2, rfl, e8⟩) hST.sub_hp) rfl (sJ rfl rfl) e5 (fun j4 hST => ?_)))))))))))))
      have hS0 := hST.has.sel (Kr Sn)
      refine ⟨hS0, (dB (by kernel_rfl) (aH (CI a rfl (fun d4 a => ?_) (fun d4 a => ?_))))⟩
      · refine aD (aA (V (aC y) (V (aC G) (bS a fun _ a7 a => VQ (wx (i := t) Tryz.underlying111 Tryz.sizeOf113 rfl rfl B (rZ a7) (rX a7)) (fun c4 K => V (aG rfl) (aF (aH (aD (aD (aA (V (aG rfl) (aF (aH ?_)))))))))))))
        refine CJ a (fun T E W => ∃ (a2 : List (Nat × Obj)) (b9 : List (Nat × Obj)), ST false (keys (x ++ [])) w W μ0 (a2 ++ b9) ∧ E 0 = g ∧ E 5 = (.int .i64 T.2) ∧ bG 113 aK 5 μ0 g T.1 a2) (fun T d8 => ?_) ?_
        · refine aY (iV (fun m E W => ∃ (a5 : List aB) (J : List (Nat × Obj)) (U : Int) (u : Int) (c0 : List (Nat × Obj)), ST false (keys (x ++ [])) w W μ0 (J ++ c0) ∧ E 0 = g ∧ E 1 = Z ∧ E 5 = (.int .i64 U) ∧ E 6 = c4 ∧ E 7 = (.int .i64 u) ∧ bG 113 aK 5 μ0 g a5 J ∧ eD t f1 m a5 U u = some T) cE ⟨a0, x, t, 1, _, (hST.sel St), y, a3, G, rfl, rfl, B, d8⟩ ?_)
          rintro m E W ⟨a5, J, U, u, c0, hST, N, a4, Q, H, I, k, j⟩
          cases m with
          | zero => rw [eD] at j; cases j
          | succ g9 =>
            rw [eD] at j
            refine aD (aD (aA (V (aC I) (V (aC H) (V (FP Tryz.underlying111 rfl K k) (V (aQ rfl rfl rfl) (aF (aH (CI j rfl (fun d5 j => ?_) (fun d5 j => ?_))))))))))
            · refine aX (aH (aD (CJ j (fun a6 E W => ∃ (M : List (Nat × Obj)) (c1 : List (Nat × Obj)), ST false (keys (x ++ [])) w W μ0 (M ++ c1) ∧ E 0 = g ∧ E 1 = Z ∧ E 5 = (.int .i64 a6.2) ∧ E 6 = c4 ∧ E 7 = (.int .i64 u) ∧ bG 113 aK 5 μ0 g a6.1 M) (fun a6 c => ?_) ?_)))
              · refine aY (aD ?_)
                replace hST := hST.drew
                have hS0 := hST.has.sel (Kr Sn)
                refine cX hS0 cC (X 0 rfl hS0 (aC a4) (X 1 rfl hS0 (aC H) (X 2 rfl hS0 (aC I) (bS c fun h8 b4 c => XQ 3 rfl hS0 (wg (i := u) aK.out Tryz.underlying111 Tryz.sizeOf113 rfl rfl k K (bY b4) (bT b4)) (fun k1 ⟨_, ⟨h3, rfl, f4⟩, e2, i4⟩ => XH 4 rfl hS0 (fun _ hS => aJ rfl (bN (iA.hp _) (e2.mono (eG (fun b o hq => hS.2 b o (Ml hq)))) Tryz.isAgg113 Tryz.sizeOf113)) (X 5 rfl hS0 (aC H) (X 6 rfl hS0 (aC I) (X 7 rfl hS0 (aQ rfl rfl rfl) (bS c fun h9 b5 c => XQ 8 rfl hS0 (wg (i := (IntKind.i64.wrap (u - 1))) aK.out Tryz.underlying111 Tryz.sizeOf113 rfl rfl k K (bY b5) (bT b5)) (fun k2 ⟨_, ⟨h4, rfl, f5⟩, e3, i5⟩ => XH 9 rfl hS0 (fun _ hS => aJ rfl (bN (iA.hp _) (e3.mono (eG (fun b o hq => hS.2 b o (Ml hq)))) Tryz.isAgg113 Tryz.sizeOf113)) (bS c fun k6 e6 c => XE 10 rfl (ut ((h8, h9)) hST d2 (bE.refl _) (rn.mk aV aV (aK.mk ⟨h3, rfl, f4⟩) (aK.mk ⟨h4, rfl, f5⟩) hST.sub_hp) rfl (sJ rfl rfl) e6 (fun j6 hST => ?_)))))))))))))
                have hS0 := hST.has.sel (Kr Sn)
                refine ⟨hS0, (X 11 rfl hS0 (fV rfl) (dB (by kernel_rfl) (aH (CI c rfl (fun d6 c => ?_) (fun d6 c => ?_)))))⟩
                · refine aD (aA (V (aC N) (V (aC Q) (V (aC H) (V (aC I) (bS c fun c7 b6 c => VQ (wg (i := u) aK.out Tryz.underlying111 Tryz.sizeOf113 rfl rfl k K (bY b6) (bT b6)) (fun k3 ⟨_, ⟨k8, rfl, b1⟩, e4, i6⟩ => V (aJ rfl (bN (iA.hp _) (e4.mono (eG (fun b o hq => hST.has.2 b o (Ml hq)))) Tryz.isAgg113 Tryz.sizeOf113)) (bS c fun l0 Y c => VQ (dD (i := U) aK.out Tryz.underlying111 Tryz.sizeOf113 rfl rfl k (bY Y) (bT Y)) (fun k4 ⟨_, ⟨k9, rfl, i9⟩, i7, d7⟩ => ?_)))))))))
                  obtain ⟨f7, g0, rfl⟩ := b1.form
                  refine VO (lV (x1 := c7) aV hST k rfl rfl (aK.mk ⟨(.slice f7 c7.Kids.length g0), rfl, b1⟩) d7 (bT Y) Tryz.sizeOf113 (fun j7 f8 hST d1 => aF (aH (aA (V (aC Q) (V (aQ rfl rfl rfl) (V (aG rfl) (aF (cL (aH ?_))))))))))
                  cases c
                  exact ⟨f8, _, (hST.sel St), N, a4, rfl, H, I, d1⟩
                refine aX (cL (aH ?_))
                cases c
                exact ⟨J, _, (hST.sel St), N, a4, Q, H, I, k⟩
              rintro ⟨g7, h7⟩ E W ⟨M, c1, hST, g1, g2, g3, g4, g5, f3⟩ d9
              exact aA (V (aC g5) (V (aQ rfl rfl rfl) (V (aG rfl) (aF (aH ⟨g9, Nat.lt_succ_self _, g7, M, h7, ((IntKind.i64.wrap (u + 1))), _, (hST.sel St), g1, g2, g3, g4, rfl, f3, d9⟩)))))
            refine iD (gI (gI (pC (aH ?_))))
            cases j
            exact ⟨J, _, (hST.sel St), N, Q, k⟩
        rintro ⟨j8, c6⟩ E W ⟨a2, b9, hST, c2, c3, b0⟩ D
        refine aD (aA (V (aC c2) (V (aC c3) (bS D fun _ a8 D => VQ (wx (i := c6) Tryz.underlying111 Tryz.sizeOf113 rfl rfl b0 (rZ a8) (rX a8)) (fun k7 e9 => VO (zm (z := (⟨0, 0, K0, []⟩ : aB)) (zs := qG) aV hST b0 (aK.mk ⟨(.slice none 0 0), rfl, (Sl.nil _ _ _)⟩) Tryz.underlying111 Tryz.zeroValue113 e9 rfl rfl (fun j5 j3 hST d0 => aF (aH (aD (aA (V (aC c2) (V (aC c3) (bS D fun _ a9 D => VQ (BH (i := c6) Tryz.underlying111 Tryz.sizeOf113 rfl rfl d0 (rZ a9) (rX a9)) (fun c5 f0 => ?_))))))))))))))
        refine V (aG rfl) (aF (aH (aU (fE (cU (cU (fE (cU ?_))))))))
        have hx := sj D; subst hx
        refine eA (v := c5) rfl rfl ?_
        obtain ⟨l1, hST, c8, hl6562, f2⟩ := ST.pubD aV hST f0
        exact ⟨_, _, _, rfl, (hST.bkM Sn), c8, hl6562, (ST.sub_hpx hST (fF.mem Sn)), c5, rfl, rfl, f2⟩
      exact aX (cL (aH (aA (V (aC G) (V (aQ rfl rfl rfl) (V (aG rfl) (aF (aH ⟨g8, Nat.lt_succ_self _, ((IntKind.i64.wrap (t + 1))), _, (hST.sel St), y, a3, rfl, a⟩))))))))
    refine iD (gI (gI (pC (aH (aD (aA (V (aC y) (V (aG rfl) (aF (aH (aU ?_)))))))))))
    have hx := sj a; subst hx
    refine eA (v := g) rfl rfl ?_
    obtain ⟨l2, hST, c9, hl7116, f6⟩ := ST.pubD aV hST B
    exact ⟨_, _, _, rfl, (hST.bkM Sn), c9, hl7116, (ST.sub_hpx hST (fF.mem Sn)), g, rfl, rfl, f6⟩
theorem lQ (G : Value) (N : List aB) (H : Value) (a1 : List aB) (I : Value) (f2 : ((aB × aB)) → Option Bool) (r : Bool) (w : World) (x : Sl aK 5 (hp w) G N) (Q : Sl aK 5 (hp w) H a1) (a7 : sf Tryz.prog I (hp w) (rn aK aK) (fun (r : Bool) => (.bool r)) f2) (hm : dP N a1 f2 = some r) :
    bO false Tryz.prog 459 [G, H, I] w (.bool r) := by
  have hST := ST.start (dd := false) w
  unfold dP at hm
  refine cF 32 Tryz.func459 rfl (aD (aA (V (aG rfl) (aF (aH (aD (aD (aA (V (aC rfl) (V (dO Tryz.underlying111 rfl x) (V (aC rfl) (V (dO Tryz.underlying111 rfl Q) (V (aQ rfl rfl rfl) (aF ?_))))))))))))))
  refine aH (CI hm rfl (fun b0 hm => ?_) (fun b0 hm => ?_))
  · refine aD (aA (V (aG rfl) (aF (aH (aU (cU ?_))))))
    have hx := sj hm; subst hx
    exact rP hST
  refine aX (aH (aD (aD (aA (V (aC rfl) (V (dO Tryz.underlying111 rfl x) (V (aC rfl) (aF (aH (dA (fun i E W => ∃  (y : List (Nat × Obj)), (E 17 = .int .i64 (i : Nat) ∧ E 16 = .int .i64 (N.length : Nat)) ∧ ST false dC w W (hp w) y ∧ E 1 = H ∧ E 2 = I ∧ E 15 = G ∧ bP a1 f2 (N.drop i) i = some r) N.length x.len ⟨_, ⟨rfl, rfl⟩, (hST.sel St), rfl, rfl, rfl, hm⟩ (by decide) (by decide) (by decide) (fun _ _ _ h => by obtain ⟨_, eIN, _⟩ := h; exact eIN) ?_ ?_))))))))))
  · rintro a4 E W U ⟨y, ⟨eI, eN⟩, hST, z, B, D, a⟩
    obtain ⟨g, c5, a9, a8, a3⟩ := cR U
    rw [a9] at a
    rw [bP] at a
    refine aY (aD (aA (V (aC eI) (VQ (eV (i := (a4 : Int)) (x0 := g) aK.out Tryz.underlying111 Tryz.sizeOf113 D eI x (Int.natCast_nonneg _) a8) (fun b9 ⟨_, ⟨c2, rfl, J⟩, Y⟩ => V (aJ rfl (bN hST.has Y Tryz.isAgg113 Tryz.sizeOf113)) (VE (bL hST Tryz.zeroValue113 (fun b1 b6 hST => V (aG rfl) ?_))))))))
    obtain ⟨j, t, rfl⟩ := J.form
    refine VO (bH (.agg (C3 g.Op g.K g.Role.Owner g.Role.Word j g.Kids.length t).toArray) ((C3 g.Op g.K g.Role.Owner g.Role.Word j g.Kids.length t).toArray) hST rfl rfl Tryz.sizeOf113 (by simp [Value.cells, Value.oneCell']) nb rfl (fun b2 hST => aF (aH (aD (aA (V (aC z) (V (aC rfl) (bS a fun c M a => VQ (eV (i := (a4 : Int)) (x0 := c) aK.out Tryz.underlying111 Tryz.sizeOf113 rfl rfl Q (bY M) (bT M)) (fun c0 ⟨_, ⟨c3, rfl, K⟩, Z⟩ => V (aJ rfl (bN hST.has Z Tryz.isAgg113 Tryz.sizeOf113)) (VE (bL hST Tryz.zeroValue113 (fun b3 b7 hST => ?_))))))))))))
    obtain ⟨k, u, rfl⟩ := K.form
    refine VO (bH (.agg (C3 c.Op c.K c.Role.Owner c.Role.Word k c.Kids.length u).toArray) ((C3 c.Op c.K c.Role.Owner c.Role.Word k c.Kids.length u).toArray) hST rfl rfl Tryz.sizeOf113 (by simp [Value.cells, Value.oneCell']) nb rfl (fun b4 hST => aF (aH (aD (aA (V (aC B) (V (aJ rfl (aM hST.has (Mt Mh) (C3 g.Op g.K g.Role.Owner g.Role.Word j g.Kids.length t) rfl Tryz.isAgg113 Tryz.sizeOf113)) (V (aJ rfl (aM hST.has Mh (C3 c.Op c.K c.Role.Owner c.Role.Word k c.Kids.length u) rfl Tryz.isAgg113 Tryz.sizeOf113)) (bS a fun c1 a2 a => VE (ut ((g, c)) hST a7 (bE.refl _) (rn.mk aV aV (aK.mk ⟨(.slice j g.Kids.length t), rfl, J⟩) (aK.mk ⟨(.slice k c.Kids.length u), rfl, K⟩) hST.sub_hp) rfl (sJ rfl rfl) a2 (fun b5 hST => V (fV rfl) (aF (aH ?_)))))))))))))
    replace hST := hST.sel (Db (Db St))
    refine CI a rfl (fun T a => ?_) (fun T a => ?_)
    · refine aD (aA (V (aG rfl) (aF (aH (aU (fE (cU (fE (cU ?_)))))))))
      have hx := sj a; subst hx
      exact rP hST
    exact aX (cL (aH ⟨eI, _, ⟨rfl, eN⟩, (hST.sel St), z, B, D, (by rw [a3]; exact a)⟩))
  rintro E W ⟨y, ⟨eI, eN⟩, hST, z, B, D, a⟩
  rw [List.drop_length] at a
  rw [bP] at a
  refine aH (aD (aA (V (aG rfl) (aF (aH (aU ?_))))))
  have hx := sj a; subst hx
  exact rP hST
theorem yJ (M : aB → aB → Option Bool) (b5 : ∀ (a : aB) (j : Value) (c : aB) (k : Value) (r : Bool) (w : World) (u : Sl aK 5 (hp w) j a.Kids) (y : Sl aK 5 (hp w) k c.Kids), M a c = some r → bO false Tryz.prog 440 [(.agg #[(.int .i64 a.Op), (.int .i64 a.K), (.string a.Role.Owner), (.string a.Role.Word), j]), (.agg #[(.int .i64 c.Op), (.int .i64 c.K), (.string c.Role.Owner), (.string c.Role.Word), k])] w (.bool r)) (a : aB) (j : Value) (c : aB) (k : Value) (r : Bool) (w : World) (u : Sl aK 5 (hp w) j a.Kids) (y : Sl aK 5 (hp w) k c.Kids) (hm : pK M a c = some r) :
    bO false Tryz.prog 440 [(.agg #[(.int .i64 a.Op), (.int .i64 a.K), (.string a.Role.Owner), (.string a.Role.Word), j]), (.agg #[(.int .i64 c.Op), (.int .i64 c.K), (.string c.Role.Owner), (.string c.Role.Word), k])] w (.bool r) := by
  have hST := ST.start (dd := false) w
  unfold pK at hm
  refine cF 31 Tryz.func440 rfl (aD (aA ?_))
  obtain ⟨N, Y, rfl⟩ := u.form
  refine VE (cO (v := (.agg (C3 a.Op a.K a.Role.Owner a.Role.Word N a.Kids.length Y).toArray)) hST rfl (fun W4 T hST => ?_))
  obtain ⟨Q, Z, rfl⟩ := y.form
  refine VE (cO (v := (.agg (C3 c.Op c.K c.Role.Owner c.Role.Word Q c.Kids.length Z).toArray)) hST rfl (fun W8 U hST => V (aG rfl) (aF (aH (aD (aA (V (aN nR rfl) (V (aJ rfl (aP hST.has (Mt Mh) rfl Tryz.isAgg3)) (V (aN nR rfl) (V (aJ rfl (aP hST.has Mh rfl Tryz.isAgg3)) (V (aQ rfl rfl rfl) (V (aC rfl) (LJ hm (fun a9 E W => ∃  (a2 : List (Nat × Obj)), ST false dC w W (hp w) ((U, Obj.cells ((C3 c.Op c.K c.Role.Owner c.Role.Word Q c.Kids.length Z).toArray : Array Value) 113 (0, 0)) :: ((T, Obj.cells ((C3 a.Op a.K a.Role.Owner a.Role.Word N a.Kids.length Y).toArray : Array Value) 113 (0, 0)) :: a2)) ∧ E 2 = (.pointer (some ⟨T, 0, none⟩)) ∧ E 3 = (.pointer (some ⟨U, 0, none⟩)) ∧ E 4 = (.bool false) ∧ E 16 = (.bool a9)) 6 ?_ (fun a9 D I => ?_))))))))))))))
  · rintro d1 E W ⟨a2, hST, J, K, a5, b6⟩ b0
    refine V (aC b6) (LJ b0 (fun a8 E W => ∃  (a3 : List (Nat × Obj)), ST false dC w W (hp w) ((U, Obj.cells ((C3 c.Op c.K c.Role.Owner c.Role.Word Q c.Kids.length Z).toArray : Array Value) 113 (0, 0)) :: ((T, Obj.cells ((C3 a.Op a.K a.Role.Owner a.Role.Word N a.Kids.length Y).toArray : Array Value) 113 (0, 0)) :: a3)) ∧ E 2 = (.pointer (some ⟨T, 0, none⟩)) ∧ E 3 = (.pointer (some ⟨U, 0, none⟩)) ∧ E 4 = (.bool false) ∧ E 23 = (.bool a8)) 6 ?_ (fun a8 B H => ?_))
    · rintro d2 E W ⟨a3, hST, b9, c0, a6, c1⟩ b1
      refine V (aC c1) (LJ b1 (fun a7 E W => ∃  (a4 : List (Nat × Obj)), ST false dC w W (hp w) a4 ∧ E 4 = (.bool false) ∧ E 30 = (.bool a7)) 6 ?_ (fun a7 z G => ?_))
      · rintro d3 E W ⟨a4, hST, c9, c3⟩ b2
        refine V (aG c3) (aF (aH (aU ?_)))
        have hx := sj b2; subst hx
        exact rP hST
      refine bC z (fun i z => ?_) (fun i z => ?_)
      · refine Vg rfl (cB i) (aN lK b9) (Vg rfl (cB i) (aJ rfl (aP hST.has (Mt Mh) rfl Tryz.isAgg111)) (Vg rfl (cB i) (aN lK c0) (Vg rfl (cB i) (aJ rfl (aP hST.has Mh rfl Tryz.isAgg111)) (bS z fun d0 b4 z => oO rfl (cB i) (Eg hST Tryz.call459 ((lQ (.slice N a.Kids.length Y) a.Kids (.slice Q c.Kids.length Z) c.Kids (.func (.func 440) #[] #[]) (fun (x : (aB × aB)) => M x.1 x.2) _ _ (u.mono aV.mono hST.sub_hp) (y.mono aV.mono hST.sub_hp) ⟨440, #[], #[], rfl, Tryz.call440, fun W x vs r hs hR hm => by obtain ⟨_, _, rfl, c4, c5⟩ := hR; obtain ⟨u0, rfl, k0⟩ := c4.out; obtain ⟨t0, rfl, j0⟩ := c5.out; exact b5 x.1 u0 x.2 t0 r W k0 j0 hm⟩ b4)) (fun c8 hST => V (bU (cB i) rfl) ?_))))))
        cases z
        exact G _ _ ⟨_, (hST.sel (Db (Db St))), a6, rfl⟩
      refine Vn rfl (cB i) (Vn rfl (cB i) (Vn rfl (cB i) (Vn rfl (cB i) (Vn rfl (cB i) (V (bX (cB i) rfl) ?_)))))
      cases z
      exact G _ _ ⟨_, (hST.sel (Db (Db St))), a6, rfl⟩
    refine bC B (fun g B => ?_) (fun g B => ?_)
    · refine Vg rfl (cB g) (aN qK J) (Vg rfl (cB g) (aJ rfl (aM hST.has (Mt Mh) (aO a.Role) rfl Tryz.isAgg28 Tryz.sizeOf28)) (Vg rfl (cB g) (aN qK K) (Vg rfl (cB g) (aJ rfl (aM hST.has Mh (aO c.Role) rfl Tryz.isAgg28 Tryz.sizeOf28)) (Vg rfl (cB g) (vJ rfl rfl (nM Tryz.eqGuardType28) (sR (sg _ a.Role c.Role))) (V (bU (cB g) rfl) ?_)))))
      cases B
      exact H _ _ ⟨_, (hST.sel St), J, K, a5, rfl⟩
    refine Vn rfl (cB g) (Vn rfl (cB g) (Vn rfl (cB g) (Vn rfl (cB g) (Vn rfl (cB g) (V (bX (cB g) rfl) ?_)))))
    cases B
    exact H _ _ ⟨_, (hST.sel St), J, K, a5, rfl⟩
  refine bC D (fun t D => ?_) (fun t D => ?_)
  · refine Vg rfl (cB t) (aN sO rfl) (Vg rfl (cB t) (aJ rfl (aP hST.has (Mt Mh) rfl Tryz.isAgg3)) (Vg rfl (cB t) (aN sO rfl) (Vg rfl (cB t) (aJ rfl (aP hST.has Mh rfl Tryz.isAgg3)) (Vg rfl (cB t) (aQ rfl rfl rfl) (V (bU (cB t) rfl) ?_)))))
    cases D
    exact I _ _ ⟨_, (hST.sel St), rfl, rfl, rfl, rfl⟩
  refine Vn rfl (cB t) (Vn rfl (cB t) (Vn rfl (cB t) (Vn rfl (cB t) (Vn rfl (cB t) (V (bX (cB t) rfl) ?_)))))
  cases D
  exact I _ _ ⟨_, (hST.sel St), rfl, rfl, rfl, rfl⟩
theorem xA : ∀ (n : Nat) (g : aB) (a : Value) (i : aB) (c : Value) (r : Bool) (w : World) (j : Sl aK 5 (hp w) a g.Kids) (k : Sl aK 5 (hp w) c i.Kids) (_ : iE n g i = some r),
    bO false Tryz.prog 440 [(.agg #[(.int .i64 g.Op), (.int .i64 g.K), (.string g.Role.Owner), (.string g.Role.Word), a]), (.agg #[(.int .i64 i.Op), (.int .i64 i.K), (.string i.Role.Owner), (.string i.Role.Word), c])] w (.bool r)
  | 0 => by intros; rename_i h; simp only [iE] at h; cases h
  | n + 1 => yJ (iE n) (xA n)
theorem oW (j : Nat) (a0 : bW) (c : Int) (K : Value) (a2 : List aB) (r : (aB × bW)) (w : World) {μ0 : bD} (h0 : jU μ0 ((j, Obj.cells ((cP a0).toArray : Array Value) 376 (0, 0)) :: []) w) (b5 : Sl aK 5 μ0 K a2) (hm : fZ a0 c a2 = some r) :
    eS false Tryz.prog 407 [(.pointer (some ⟨j, 0, none⟩)), (.int .i64 c), K] w μ0 ((j, Obj.cells ((cP a0).toArray : Array Value) 376 (0, 0)) :: []) (fun v L1 μ1 => ∃ (y1 : Value), v = (.agg #[(.int .i64 ((r.1).Op)), (.int .i64 ((r.1).K)), (.string (((r.1).Role).Owner)), (.string (((r.1).Role).Word)), y1]) ∧ L1 = ((j, Obj.cells ((cP (r.2)).toArray : Array Value) 376 (0, 0)) :: []) ∧ Sl aK 5 μ1 y1 ((r.1).Kids)) := by
  have hST := ST.startE (dd := false) h0
  unfold fZ at hm
  refine cF 37 Tryz.func407 rfl (aD (aA (VE (bL hST Tryz.zeroValue113 (fun W2 b1 hST => aF (aH (aD (aA (V (aC rfl) (V (aQ rfl rfl rfl) (VE (bL hST Tryz.zeroValue3 (fun W4 b3 hST => VO (bH (.int .i64 ((IntKind.i64.wrap (5 - c)))) (#[(.int .i64 ((IntKind.i64.wrap (5 - c))))]) hST rfl rfl Tryz.sizeOf3 (zk _ ((IntKind.i64.wrap (5 - c)))) nb rfl (fun W5 hST => aF (aH (aD ?_)))))))))))))))))
  refine aA (V (aC rfl) (V (aC rfl) (bS hm fun r6 d1 hm => ?_)))
  have hsz := hST.size
  refine VE (lT hST (List.Perm.refl _) Tryz.call437 (fun hH hN hsb hmm => eS.weak (CT c K a2 _ _ ⟨hH, hN, hsb⟩ (b5.mono aV.mono (bE.refl _)) d1)) (fun W8 f4 μ9 e2 hST B hl11 b0 => ?_) (L0 := []))
  obtain ⟨a7, H, rfl, a3⟩ := b0
  replace H := H.symm; subst H
  replace hST := hST.perm Tn
  refine V (aG rfl) (aF (aH (aD (aD (aA (V (aC rfl) (V (qD (by exact tG rfl) rfl) (bS hm fun f3 c1 hm => VE (Eg hST Tryz.call310 ((qF a7 r6 (.func (.func 438) #[] #[(.pointer (some ⟨b3, 0, none⟩))]) (fun (x : aB) => jJ x ((IntKind.i64.wrap (5 - c)))) _ _ (a3.mono aV.mono hST.sub_hp) ⟨438, #[], #[(.pointer (some ⟨b3, 0, none⟩))], rfl, Tryz.call438, fun W x vs r hs hR hm => by obtain ⟨_, rfl, U⟩ := hR; obtain ⟨u0, rfl, k0⟩ := U.out; exact (vG x u0 b3 ((IntKind.i64.wrap (5 - c))) r W k0 (At.of (hs _ _ (hST.at_ Mh)) _ rfl) hm).weak⟩ c1)) (fun e5 hST => aF (aH (CI hm rfl (fun b6 hm => ?_) (fun b6 hm => ?_)))))))))))))
  · refine aD (aA (V (aJ rfl (aP hST.has Mh rfl Tryz.isAgg3)) (V (bJ (qs := #[(0, (.int .i64 ((IntKind.i64.wrap (5 - c)))))]) (v := (.agg (Gz ((IntKind.i64.wrap (5 - c)))).toArray)) (bM rfl) (aW Tryz.zeroValue113 Tryz.underlying113 (tu _ Tryz.underlying113) (by kernel_rfl))) ?_)))
    replace hST := hST.perm (Nb (Pb Pz) Nz)
    refine VO (bH (.agg (Gz ((IntKind.i64.wrap (5 - c)))).toArray) ((Gz ((IntKind.i64.wrap (5 - c)))).toArray) hST rfl rfl Tryz.sizeOf113 (by simp [Value.cells, Value.oneCell']) nb rfl (fun e6 hST => aF (aH ?_)))
    replace hST := hST.sel (Kb (Db St))
    refine aU (cU ?_)
    have hx := sj hm; subst hx
    exact kM (v := (.agg (Gz ((IntKind.i64.wrap (5 - c)))).toArray)) rfl rfl (aM hST.has Mh (Gz ((IntKind.i64.wrap (5 - c)))) rfl Tryz.isAgg113 Tryz.sizeOf113) ⟨_, _, _, rfl, (hST.bkM (Db (Kb Sn))), B, hl11, (ST.sub_hpx hST (fF.mem (Db (Kb Sn)))), (.slice none 0 0), rfl, rfl, (Sl.nil _ _ _)⟩
  refine aX (aH ?_)
  replace hST := hST.sel (Db St)
  refine aD (aA (V (aC rfl) (bS hm fun d2 c2 hm => ?_)))
  have hsz := hST.size
  refine VE (lT hST (List.Perm.refl _) Tryz.call436 (fun hH hN hsb hmm => (xQ a7 r6 _ _ ⟨hH, hN, hsb⟩ (a3.mono aV.mono (bE.refl _)) c2)) (fun e7 f5 f9 e3 hST N hl29 b2 => ?_) (L0 := []))
  obtain ⟨d5, c7, I, rfl, c4⟩ := b2
  replace I := I.symm; subst I
  replace hST := hST.perm (Tr Tn)
  refine bS hm fun z c3 hm => ?_
  have hsz := hST.size
  refine VE (lT hST (Cr Qz Cn) Tryz.call439 (fun hH hN hsb hmm => (uJ d5 d2 c7 (.func (.func 440) #[] #[]) (fun (x : (aB × aB)) => iE cE x.1 x.2) _ _ ⟨hH, hN, hsb⟩ c4 ⟨440, #[], #[], rfl, Tryz.call440, fun W x vs r hs hR hm => by obtain ⟨_, _, rfl, U, d0⟩ := hR; obtain ⟨u0, rfl, k0⟩ := U.out; obtain ⟨t0, rfl, j0⟩ := d0.out; exact (xA cE) x.1 u0 x.2 t0 r W k0 j0 hm⟩ c3)) (fun e8 f6 d7 e4 hST Q hl42 b4 => ?_))
  obtain ⟨d6, J, rfl, y⟩ := b4
  replace J := J.symm; subst J
  replace hST := hST.perm Tn
  refine V (aG rfl) (aF (aH (aD (CJ hm (fun a6 E W => ∃  (a5 : List (Nat × Obj)), ST false (keys ((j, Obj.cells ((cP a0).toArray : Array Value) 376 (0, 0)) :: [])) w W d7 ((b1, Obj.cells (qG.toArray : Array Value) 113 (0, 0)) :: ((j, Obj.cells ((cP a6).toArray : Array Value) 376 (0, 0)) :: a5)) ∧ E 1 = (.int .i64 c) ∧ E 6 = (.pointer (some ⟨b1, 0, none⟩)) ∧ E 8 = d6) (fun a6 u => ?_) ?_))))
  · refine aD (aA (V (aC rfl) (V (dO Tryz.underlying111 rfl y) (V (aQ rfl rfl rfl) (aF (aH (CI u rfl (fun b9 u => ?_) (fun b9 u => ?_))))))))
    · refine aA (V (aC rfl) (V (cT rfl) (V (aN EN rfl) ?_)))
      replace hST := hST.perm (Nb (Pb Pz) Nz)
      refine VO (bH (.int .i64 12) ((cP ((⟨12⟩ : bW))).toArray) hST rfl rfl Tryz.sizeOf57 (zk _ 12) nb rfl (fun f1 hST => aF (aH ?_)))
      cases u
      exact ⟨_, (hST.sel (Sb (Pb Pz) St)), rfl, rfl, rfl⟩
    refine aX (aH ?_)
    cases u
    exact ⟨_, (hST.sel St), rfl, rfl, rfl⟩
  rintro f8 E W ⟨a5, hST, c9, M, T⟩ g
  refine aD (aD (aA (V (aC T) (V (dO Tryz.underlying111 rfl y) (V (aQ rfl rfl rfl) (aF (aH (CI g rfl (fun b7 g => ?_) (fun b7 g => ?_)))))))))
  · refine aD (aA (V (aC T) (bS g fun a Z g => VQ (eV (i := 0) (x0 := a) aK.out Tryz.underlying111 Tryz.sizeOf113 rfl rfl y (bY Z) (bT Z)) (fun f2 ⟨_, ⟨f7, rfl, Y⟩, c0⟩ => V (aJ rfl (bN hST.has c0 Tryz.isAgg113 Tryz.sizeOf113)) ?_))))
    obtain ⟨D, G, rfl⟩ := Y.form
    refine VO (bH (.agg (C3 a.Op a.K a.Role.Owner a.Role.Word D a.Kids.length G).toArray) ((C3 a.Op a.K a.Role.Owner a.Role.Word D a.Kids.length G).toArray) hST M rfl Tryz.sizeOf113 (by simp [Value.cells, Value.oneCell']) nb rfl (fun e9 hST => aF (aH (aU (cU ?_)))))
    have hx := sj g; subst hx
    exact kM (v := (.agg (C3 a.Op a.K a.Role.Owner a.Role.Word D a.Kids.length G).toArray)) rfl M (aM hST.has Mh (C3 a.Op a.K a.Role.Owner a.Role.Word D a.Kids.length G) rfl Tryz.isAgg113 Tryz.sizeOf113) ⟨_, _, _, rfl, (hST.bkM (Db (Kb Sn))), ((B.trans N).trans Q), ((hl11.trans hl29).trans hl42), (ST.sub_hpx hST (fF.mem (Db (Kb Sn)))), (.slice D a.Kids.length G), rfl, rfl, Y⟩
  refine aX (aH (aD (aA (V (aC c9) (V (aC T) ?_)))))
  obtain ⟨k, t, rfl⟩ := y.form
  refine V (bJ (qs := #[(0, (.int .i64 c)), (3, (.slice k z.length t))]) (v := (.agg #[(.int .i64 c), (.int .i64 0), (.string zS), (.string zS), (.slice k z.length t)])) (fR rfl rfl) (aW Tryz.zeroValue113 Tryz.underlying113 (tu _ Tryz.underlying113) (by kernel_rfl))) (VO (bH (.agg #[(.int .i64 c), (.int .i64 0), (.string zS), (.string zS), (.slice k z.length t)]) (#[(.int .i64 c), (.int .i64 0), (.string zS), (.string zS), (.slice k z.length t)]) hST M rfl Tryz.sizeOf113 (by simp [Value.cells, Value.oneCell']) nb rfl (fun f0 hST => aF (aH (aU ?_)))))
  have hx := sj g; subst hx
  exact kM (v := (.agg #[(.int .i64 c), (.int .i64 0), (.string zS), (.string zS), (.slice k z.length t)])) rfl M (aM hST.has Mh [(.int .i64 c), (.int .i64 0), (.string zS), (.string zS), (.slice k z.length t)] rfl Tryz.isAgg113 Tryz.sizeOf113) ⟨_, _, _, rfl, (hST.bkM (Db (Kb Sn))), ((B.trans N).trans Q), ((hl11.trans hl29).trans hl42), (ST.sub_hpx hST (fF.mem (Db (Kb Sn)))), (.slice k z.length t), rfl, rfl, y⟩
theorem vI (G : Nat) (a0 : bW) (a1 : Int) (c2 : Value) (a2 : List aB) (r : (aB × bW)) (w : World) {μ0 : bD} (h0 : jU μ0 ((G, Obj.cells ((cP a0).toArray : Array Value) 376 (0, 0)) :: []) w) (c1 : Sl aK 5 μ0 c2 a2) (hm : jF a0 a1 a2 = some r) :
    eS false Tryz.prog 406 [(.pointer (some ⟨G, 0, none⟩)), (.int .i64 a1), c2] w μ0 ((G, Obj.cells ((cP a0).toArray : Array Value) 376 (0, 0)) :: []) (fun v L1 μ1 => ∃ (y1 : Value), v = (.agg #[(.int .i64 ((r.1).Op)), (.int .i64 ((r.1).K)), (.string (((r.1).Role).Owner)), (.string (((r.1).Role).Word)), y1]) ∧ L1 = ((G, Obj.cells ((cP (r.2)).toArray : Array Value) 376 (0, 0)) :: []) ∧ Sl aK 5 μ1 y1 ((r.1).Kids)) := by
  have hST := ST.startE (dd := false) h0
  unfold jF at hm
  refine cF 58 Tryz.func406 rfl (aD (aA (VE (bL hST Tryz.zeroValue113 (fun W2 b1 hST => aF (aH (aD (aA (V (aG rfl) (aF (aH (aD (aD (aA (V (aC rfl) ?_)))))))))))))))
  refine V (dO Tryz.underlying111 rfl c1) (V (aC rfl) (aF (aH (dA (fun i E W => ∃ (x : Int) (K : Value) (J : List aB) (N : List (Nat × Obj)) (c0 : List (Nat × Obj)), (E 12 = .int .i64 (i : Nat) ∧ E 11 = .int .i64 (a2.length : Nat)) ∧ ST false (keys ((G, Obj.cells ((cP a0).toArray : Array Value) 376 (0, 0)) :: [])) w W μ0 ((b1, Obj.cells (qG.toArray : Array Value) 113 (0, 0)) :: ((G, Obj.cells ((cP a0).toArray : Array Value) 376 (0, 0)) :: (N ++ c0))) ∧ E 0 = (.pointer (some ⟨G, 0, none⟩)) ∧ E 1 = (.int .i64 x) ∧ E 6 = (.pointer (some ⟨b1, 0, none⟩)) ∧ E 7 = K ∧ E 10 = c2 ∧ bG 113 aK 5 μ0 K J N ∧ dQ a0 (a2.drop i) x J = some r) a2.length c1.len ⟨a1, (.slice none 0 0), ([]), [], _, ⟨rfl, rfl⟩, (hST.sel St), rfl, rfl, rfl, rfl, rfl, (bG.nil _ _ _ _), hm⟩ (by decide) (by decide) (by decide) (fun _ _ _ h => by obtain ⟨_, _, _, _, _, eIN, _⟩ := h; exact eIN) ?_ ?_))))
  · rintro g9 E W f2 ⟨x, K, J, N, c0, ⟨eI, eN⟩, hST, U, H, u, I, b0, D, a⟩
    obtain ⟨c, h6, g6, g5, b7⟩ := cR f2
    rw [g6] at a
    rw [dQ] at a
    refine aY (aD (aA (VQ (eV (i := (g9 : Int)) (x0 := c) aK.out Tryz.underlying111 Tryz.sizeOf113 b0 eI c1 (Int.natCast_nonneg _) g5) (fun k5 ⟨_, ⟨k8, rfl, Y⟩, f3⟩ => V (aJ rfl (bN hST.has f3 Tryz.isAgg113 Tryz.sizeOf113)) (VE (bL hST Tryz.zeroValue113 (fun i4 k2 hST => ?_)))))))
    obtain ⟨y, z, rfl⟩ := Y.form
    refine VO (bH (.agg (C3 c.Op c.K c.Role.Owner c.Role.Word y c.Kids.length z).toArray) ((C3 c.Op c.K c.Role.Owner c.Role.Word y c.Kids.length z).toArray) hST rfl rfl Tryz.sizeOf113 (by simp [Value.cells, Value.oneCell']) nb rfl (fun i5 hST => aF (aH (aY (aD (aA (V (aJ rfl (aM hST.has Mh (C3 c.Op c.K c.Role.Owner c.Role.Word y c.Kids.length z) rfl Tryz.isAgg113 Tryz.sizeOf113)) (bS a fun k6 f4 a => VE (Eg hST Tryz.call433 (bO.weak (uI c (.slice y c.Kids.length z) 2 _ _ (Y.mono aV.mono hST.sub_hp) f4)) (fun i6 hST => V (aG rfl) (aF (aH (CI a rfl (fun e5 a => ?_) (fun e5 a => ?_))))))))))))))
    · refine aA (V (aC H) (V (aQ rfl rfl rfl) (V (aG rfl) (aF (cL (cL (aH ?_)))))))
      replace hST := hST.sel (Db St)
      exact ⟨eI, ((IntKind.i64.wrap (x - 1))), K, J, N, _, ⟨rfl, eN⟩, (hST.sel St), U, rfl, u, I, b0, D, (by rw [b7]; exact a)⟩
    refine aD (aA (V (aJ rfl (aM hST.has Mh (C3 c.Op c.K c.Role.Owner c.Role.Word y c.Kids.length z) rfl Tryz.isAgg113 Tryz.sizeOf113)) (bS a fun k7 f5 a => VE (Eg hST Tryz.call433 (bO.weak (uI c (.slice y c.Kids.length z) 3 _ _ (Y.mono aV.mono hST.sub_hp) f5)) (fun i7 hST => V (fV rfl) (V (aG rfl) (aF (aH (CI a rfl (fun e6 a => ?_) (fun e6 a => ?_))))))))))
    · refine aA (V (aC I) (V (aJ rfl (aM hST.has Mh (C3 c.Op c.K c.Role.Owner c.Role.Word y c.Kids.length z) rfl Tryz.isAgg113 Tryz.sizeOf113)) (VE (aR (qs := #[(0, (.agg (C3 c.Op c.K c.Role.Owner c.Role.Word y c.Kids.length z).toArray))]) (cs := (C3 c.Op c.K c.Role.Owner c.Role.Word y c.Kids.length z).toArray) hST (bM rfl) (bB [(.agg (C3 c.Op c.K c.Role.Owner c.Role.Word y c.Kids.length z).toArray)] Tryz.underlying111 Tryz.sizeOf113 Tryz.zeroValue113 (by decide) rfl (by intro v hv; simp only [List.mem_cons, List.not_mem_nil, or_false] at hv; rcases hv with rfl <;> rfl) rfl rfl) (fun i8 k3 hST => ?_)))))
      replace hST := hST.perm (Nr (Qb (Qb (Qb (Qb Qz)))) Nz)
      refine bS a fun h1 e7 a => VE (sw (B := N) aV hST (by decide) Tryz.underlying111 gV.1 gV.2.1 rfl gV.2.2.1 gV.2.2.2 rfl rfl D (yD.lit aV (l := [c]) (.cons (ys := C3 c.Op c.K c.Role.Owner c.Role.Word y c.Kids.length z) (aK.mk ⟨(.slice y c.Kids.length z), rfl, Y⟩) .nil) rfl nb (hST.at_ (Ma Mh))) e7 (fun i9 h2 g7 hST e4 => V (aG rfl) (aF (cL (cL (aH ?_))))))
      replace hST := hST.sel (Kr (Db (Db St)))
      exact ⟨eI, x, h2, h1, g7, _, ⟨rfl, eN⟩, (hST.sel (Sb (Pr Pz) (Sb (Pr Pz) St))), U, H, u, rfl, b0, e4, (by rw [b7]; exact a)⟩
    refine aX (cL (cL (aH ?_)))
    replace hST := hST.sel (Db St)
    exact ⟨eI, x, K, J, N, _, ⟨rfl, eN⟩, (hST.sel St), U, H, u, I, b0, D, (by rw [b7]; exact a)⟩
  rintro E W ⟨x, K, J, N, c0, ⟨eI, eN⟩, hST, U, H, u, I, b0, D, a⟩
  rw [List.drop_length] at a
  rw [dQ] at a
  refine aH (aD (aY (aD (aA (V (aC H) (V (aQ rfl rfl rfl) (V (aG rfl) (aF (aH (CI a rfl (fun e8 a => ?_) (fun e8 a => ?_)))))))))))
  · refine aD (aA (bS a fun g f6 a => ?_))
    have hsz := hST.size
    refine VE (lT hST (List.Perm.refl _) Tryz.call434 (fun hH hN hsb hmm => eS.weak (Bv  _ _ ⟨hH, hN, hsb⟩  f6)) (fun j0 k9 m0 h8 hST c9 hl223 d9 => ?_) (L0 := []))
    obtain ⟨l4, b2, rfl, c3⟩ := d9
    replace b2 := b2.symm; subst b2
    replace hST := hST.perm Tn
    obtain ⟨Z, a6, rfl⟩ := c3.form
    refine VO (bH (.agg #[(.int .i64 ((g).Op)), (.int .i64 ((g).K)), (.string (((g).Role).Owner)), (.string (((g).Role).Word)), (.slice Z ((g).Kids).length a6)]) (#[(.int .i64 ((g).Op)), (.int .i64 ((g).K)), (.string (((g).Role).Owner)), (.string (((g).Role).Word)), (.slice Z ((g).Kids).length a6)]) hST u rfl Tryz.sizeOf113 (by simp [Value.cells, Value.oneCell']) nb rfl (fun j3 hST => aF (aH ?_)))
    replace hST := hST.sel (Kb (Kb (Dr St)))
    refine aU (fE (cU ?_))
    have hx := sj a; subst hx
    exact kM (v := (.agg #[(.int .i64 ((g).Op)), (.int .i64 ((g).K)), (.string (((g).Role).Owner)), (.string (((g).Role).Word)), (.slice Z ((g).Kids).length a6)])) rfl u (aM hST.has Mh [(.int .i64 ((g).Op)), (.int .i64 ((g).K)), (.string (((g).Role).Owner)), (.string (((g).Role).Word)), (.slice Z ((g).Kids).length a6)] rfl Tryz.isAgg113 Tryz.sizeOf113) ⟨_, _, _, rfl, (hST.bkM (Db (Kb Sn))), c9, hl223, (ST.sub_hpx hST (fF.mem (Db (Kb Sn)))), (.slice Z ((g).Kids).length a6), rfl, rfl, c3⟩
  refine aD (aA (V (aC H) (V (aC I) (V (tX Tryz.underlying111 rfl D) (V (aQ rfl rfl rfl) (V (aG rfl) (aF (aH (CI a rfl (fun e9 a => ?_) (fun e9 a => ?_))))))))))
  · refine aD (aA (bS a fun j f7 a => ?_))
    have hsz := hST.size
    refine VE (lT hST (List.Perm.refl _) Tryz.call435 (fun hH hN hsb hmm => eS.weak (Cc  _ _ ⟨hH, hN, hsb⟩  f7)) (fun j4 l0 m1 h9 hST d0 hl240 e0 => ?_) (L0 := []))
    obtain ⟨l5, b3, rfl, c4⟩ := e0
    replace b3 := b3.symm; subst b3
    replace hST := hST.perm Tn
    obtain ⟨a3, a7, rfl⟩ := c4.form
    refine VO (bH (.agg #[(.int .i64 ((j).Op)), (.int .i64 ((j).K)), (.string (((j).Role).Owner)), (.string (((j).Role).Word)), (.slice a3 ((j).Kids).length a7)]) (#[(.int .i64 ((j).Op)), (.int .i64 ((j).K)), (.string (((j).Role).Owner)), (.string (((j).Role).Word)), (.slice a3 ((j).Kids).length a7)]) hST u rfl Tryz.sizeOf113 (by simp [Value.cells, Value.oneCell']) nb rfl (fun j5 hST => aF (aH ?_)))
    replace hST := hST.sel (Kb (Kb (Dr St)))
    refine aU (fE (cU ?_))
    have hx := sj a; subst hx
    exact kM (v := (.agg #[(.int .i64 ((j).Op)), (.int .i64 ((j).K)), (.string (((j).Role).Owner)), (.string (((j).Role).Word)), (.slice a3 ((j).Kids).length a7)])) rfl u (aM hST.has Mh [(.int .i64 ((j).Op)), (.int .i64 ((j).K)), (.string (((j).Role).Owner)), (.string (((j).Role).Word)), (.slice a3 ((j).Kids).length a7)] rfl Tryz.isAgg113 Tryz.sizeOf113) ⟨_, _, _, rfl, (hST.bkM (Db (Kb Sn))), d0, hl240, (ST.sub_hpx hST (fF.mem (Db (Kb Sn)))), (.slice a3 ((j).Kids).length a7), rfl, rfl, c4⟩
  refine aD (aA (V (aC H) (V (aC I) (V (tX Tryz.underlying111 rfl D) (V (aQ rfl rfl rfl) (V (aG rfl) (aF (aH (CI a rfl (fun f0 a => ?_) (fun f0 a => ?_))))))))))
  · refine aD (aA (V (aC U) (V (aC I) ?_)))
    replace hST := hST.perm (Nr (Qb (Qb Qz)) Nz)
    obtain ⟨m2, hST, d1, hl254, g1⟩ := ST.pubD aV hST D
    refine bS a fun k f8 a => ?_
    have hsz := hST.size
    refine VE (lT hST (Cb (Pb Pz) Cn) Tryz.call407 (fun hH hN hsb hmm => (oW G a0 2 K J _ _ ⟨hH, hN, hsb⟩ (g1.mono aV.mono (bE.refl _)) f8)) (fun j6 l1 m3 i0 hST d2 hl261 e1 => ?_))
    obtain ⟨l6, b4, rfl, c5⟩ := e1
    replace b4 := b4.symm; subst b4
    replace hST := hST.perm (Tb Tn)
    obtain ⟨a4, a8, rfl⟩ := c5.form
    replace hST := hST.perm (Nb (Pb Pz) Nz)
    refine VO (bH (.agg #[(.int .i64 ((k.1).Op)), (.int .i64 ((k.1).K)), (.string (((k.1).Role).Owner)), (.string (((k.1).Role).Word)), (.slice a4 ((k.1).Kids).length a8)]) (#[(.int .i64 ((k.1).Op)), (.int .i64 ((k.1).K)), (.string (((k.1).Role).Owner)), (.string (((k.1).Role).Word)), (.slice a4 ((k.1).Kids).length a8)]) hST u rfl Tryz.sizeOf113 (by simp [Value.cells, Value.oneCell']) nb rfl (fun j7 hST => aF (aH (aU (fE (cU ?_))))))
    have hx := sj a; subst hx
    exact kM (v := (.agg #[(.int .i64 ((k.1).Op)), (.int .i64 ((k.1).K)), (.string (((k.1).Role).Owner)), (.string (((k.1).Role).Word)), (.slice a4 ((k.1).Kids).length a8)])) rfl u (aM hST.has Mh [(.int .i64 ((k.1).Op)), (.int .i64 ((k.1).K)), (.string (((k.1).Role).Owner)), (.string (((k.1).Role).Word)), (.slice a4 ((k.1).Kids).length a8)] rfl Tryz.isAgg113 Tryz.sizeOf113) ⟨_, _, _, rfl, (hST.bkM (Db (Kb Sn))), (d1.trans d2), (hl254.trans hl261), (ST.sub_hpx hST (fF.mem (Db (Kb Sn)))), (.slice a4 ((k.1).Kids).length a8), rfl, rfl, c5⟩
  refine aD (aA (V (aC H) (V (aQ rfl rfl rfl) (V (aG rfl) (aF (aH (CI a rfl (fun f1 a => ?_) (fun f1 a => ?_))))))))
  · refine aD (aA (V (aC U) (V (aC I) ?_)))
    replace hST := hST.perm (Nr (Qb (Qb Qz)) Nz)
    obtain ⟨m4, hST, d3, hl275, g2⟩ := ST.pubD aV hST D
    refine bS a fun t f9 a => ?_
    have hsz := hST.size
    refine VE (lT hST (Cb (Pb Pz) Cn) Tryz.call407 (fun hH hN hsb hmm => (oW G a0 3 K J _ _ ⟨hH, hN, hsb⟩ (g2.mono aV.mono (bE.refl _)) f9)) (fun j8 l2 m5 i1 hST d4 hl282 e2 => ?_))
    obtain ⟨l7, b5, rfl, c6⟩ := e2
    replace b5 := b5.symm; subst b5
    replace hST := hST.perm (Tb Tn)
    obtain ⟨a5, a9, rfl⟩ := c6.form
    replace hST := hST.perm (Nb (Pb Pz) Nz)
    refine VO (bH (.agg #[(.int .i64 ((t.1).Op)), (.int .i64 ((t.1).K)), (.string (((t.1).Role).Owner)), (.string (((t.1).Role).Word)), (.slice a5 ((t.1).Kids).length a9)]) (#[(.int .i64 ((t.1).Op)), (.int .i64 ((t.1).K)), (.string (((t.1).Role).Owner)), (.string (((t.1).Role).Word)), (.slice a5 ((t.1).Kids).length a9)]) hST u rfl Tryz.sizeOf113 (by simp [Value.cells, Value.oneCell']) nb rfl (fun j9 hST => aF (aH (aU (fE (cU ?_))))))
    have hx := sj a; subst hx
    exact kM (v := (.agg #[(.int .i64 ((t.1).Op)), (.int .i64 ((t.1).K)), (.string (((t.1).Role).Owner)), (.string (((t.1).Role).Word)), (.slice a5 ((t.1).Kids).length a9)])) rfl u (aM hST.has Mh [(.int .i64 ((t.1).Op)), (.int .i64 ((t.1).K)), (.string (((t.1).Role).Owner)), (.string (((t.1).Role).Word)), (.slice a5 ((t.1).Kids).length a9)] rfl Tryz.isAgg113 Tryz.sizeOf113) ⟨_, _, _, rfl, (hST.bkM (Db (Kb Sn))), (d3.trans d4), (hl275.trans hl282), (ST.sub_hpx hST (fF.mem (Db (Kb Sn)))), (.slice a5 ((t.1).Kids).length a9), rfl, rfl, c6⟩
  refine aX (cL (aH (aD (aA (V (aC H) (V (aC I) ?_))))))
  replace hST := hST.perm (Nr (Qb (Qb Qz)) Nz)
  obtain ⟨m6, hST, d5, hl295, g3⟩ := ST.pubD aV hST D
  refine bS a fun T g0 a => ?_
  have hsz := hST.size
  refine VE (lT hST (List.Perm.refl _) Tryz.call436 (fun hH hN hsb hmm => (xQ K J _ _ ⟨hH, hN, hsb⟩ (g3.mono aV.mono (bE.refl _)) g0)) (fun k0 l3 m7 i2 hST d6 hl302 e3 => ?_) (L0 := []))
  obtain ⟨l8, i3, b6, rfl, c7⟩ := e3
  replace b6 := b6.symm; subst b6
  replace hST := hST.perm (Tr Tn)
  obtain ⟨M, Q, rfl⟩ := c7.form
  refine V (bJ (qs := #[(0, (.int .i64 4)), (1, (.int .i64 x)), (3, (.slice M T.length Q))]) (v := (.agg #[(.int .i64 4), (.int .i64 x), (.string zS), (.string zS), (.slice M T.length Q)])) (eH rfl rfl rfl) (aW Tryz.zeroValue113 Tryz.underlying113 (tu _ Tryz.underlying113) (by kernel_rfl))) ?_
  replace hST := hST.perm (Nb (Pr Pz) Nz)
  refine VO (bH (.agg #[(.int .i64 4), (.int .i64 x), (.string zS), (.string zS), (.slice M T.length Q)]) (#[(.int .i64 4), (.int .i64 x), (.string zS), (.string zS), (.slice M T.length Q)]) hST u rfl Tryz.sizeOf113 (by simp [Value.cells, Value.oneCell']) nb rfl (fun k1 hST => aF (aH (aU ?_))))
  have hx := sj a; subst hx
  refine kM (v := (.agg #[(.int .i64 4), (.int .i64 x), (.string zS), (.string zS), (.slice M T.length Q)])) rfl u (aM hST.has Mh [(.int .i64 4), (.int .i64 x), (.string zS), (.string zS), (.slice M T.length Q)] rfl Tryz.isAgg113 Tryz.sizeOf113) ?_
  replace hST := hST.perm (Nr (Qb Qz) Nz)
  obtain ⟨m8, hST, d7, hl316, g4⟩ := ST.pubD aV hST c7
  exact ⟨_, _, _, rfl, (hST.bkM (Db (Kb Sn))), ((d5.trans d6).trans d7), ((hl295.trans hl302).trans hl316), (ST.sub_hpx hST (fF.mem (Db (Kb Sn)))), (.slice M T.length Q), rfl, rfl, g4⟩
theorem uL (c9 : bW → aB → Option ((aB × bW))) (e9 : ∀ (u : Nat) (a0 : bW) (a : aB) (y : Value) (r : (aB × bW)) (w : World) {μ0 : bD} (h0 : jU μ0 ((u, Obj.cells ((cP a0).toArray : Array Value) 376 (0, 0)) :: []) w) (x : Sl aK 5 μ0 y a.Kids), c9 a0 a = some r → eS false Tryz.prog 351 [(.pointer (some ⟨u, 0, none⟩)), (.agg #[(.int .i64 a.Op), (.int .i64 a.K), (.string a.Role.Owner), (.string a.Role.Word), y])] w μ0 ((u, Obj.cells ((cP a0).toArray : Array Value) 376 (0, 0)) :: []) (fun v L1 μ1 => ∃ (y1 : Value), v = (.agg #[(.int .i64 ((r.1).Op)), (.int .i64 ((r.1).K)), (.string (((r.1).Role).Owner)), (.string (((r.1).Role).Word)), y1]) ∧ L1 = ((u, Obj.cells ((cP (r.2)).toArray : Array Value) 376 (0, 0)) :: []) ∧ Sl aK 5 μ1 y1 ((r.1).Kids))) (u : Nat) (a0 : bW) (a : aB) (y : Value) (r : (aB × bW)) (w : World) {μ0 : bD} (h0 : jU μ0 ((u, Obj.cells ((cP a0).toArray : Array Value) 376 (0, 0)) :: []) w) (x : Sl aK 5 μ0 y a.Kids) (hm : kB c9 a0 a = some r) :
    eS false Tryz.prog 351 [(.pointer (some ⟨u, 0, none⟩)), (.agg #[(.int .i64 a.Op), (.int .i64 a.K), (.string a.Role.Owner), (.string a.Role.Word), y])] w μ0 ((u, Obj.cells ((cP a0).toArray : Array Value) 376 (0, 0)) :: []) (fun v L1 μ1 => ∃ (y1 : Value), v = (.agg #[(.int .i64 ((r.1).Op)), (.int .i64 ((r.1).K)), (.string (((r.1).Role).Owner)), (.string (((r.1).Role).Word)), y1]) ∧ L1 = ((u, Obj.cells ((cP (r.2)).toArray : Array Value) 376 (0, 0)) :: []) ∧ Sl aK 5 μ1 y1 ((r.1).Kids)) := by
  have hST := ST.startE (dd := false) h0
  unfold kB at hm
  refine cF 39 Tryz.func351 rfl (aD (aA ?_))
  obtain ⟨A1, c2, rfl⟩ := x.form
  refine VE (cO (v := (.agg (C3 a.Op a.K a.Role.Owner a.Role.Word A1 a.Kids.length c2).toArray)) hST rfl (fun W4 b3 hST => VE (bL hST Tryz.zeroValue113 (fun W6 b5 hST => aF (aH (aD (aD (aA (V (aN nR rfl) (V (aJ rfl (aP hST.has (Mt Mh) rfl Tryz.isAgg3)) (V (aQ rfl rfl rfl) (aF (aH (CI hm rfl (fun f8 hm => ?_) (fun f8 hm => ?_)))))))))))))))
  · refine aD (aA (V (aJ rfl (aM hST.has (Mt Mh) (C3 a.Op a.K a.Role.Owner a.Role.Word A1 a.Kids.length c2) rfl Tryz.isAgg113 Tryz.sizeOf113)) (VO (bH (.agg (C3 a.Op a.K a.Role.Owner a.Role.Word A1 a.Kids.length c2).toArray) ((C3 a.Op a.K a.Role.Owner a.Role.Word A1 a.Kids.length c2).toArray) hST rfl rfl Tryz.sizeOf113 (by simp [Value.cells, Value.oneCell']) nb rfl (fun W8 hST => aF (aH ?_))))))
    replace hST := hST.sel (Kb (Db St))
    refine aU (cU ?_)
    have hx := sj hm; subst hx
    exact kM (v := (.agg (C3 a.Op a.K a.Role.Owner a.Role.Word A1 a.Kids.length c2).toArray)) rfl rfl (aM hST.has Mh (C3 a.Op a.K a.Role.Owner a.Role.Word A1 a.Kids.length c2) rfl Tryz.isAgg113 Tryz.sizeOf113) ⟨_, _, _, rfl, (hST.bkM (Db (Kb Sn))), (bE.refl _), Lo.refl, (ST.sub_hpx hST (fF.mem (Db (Kb Sn)))), (.slice A1 a.Kids.length c2), rfl, rfl, x⟩
  refine aX (aH (aD (aA (V (aG rfl) (aF (aH (aD (aD (aA (V (aN lK rfl) (V (aJ rfl (aP hST.has (Mt Mh) rfl Tryz.isAgg111)) (V (dO Tryz.underlying111 rfl x) (V (aC rfl) (aF ?_))))))))))))))
  refine aH (dA (fun i E W => ∃ (I : Value) (H : List aB) (T : List (Nat × Obj)) (D : bW) (J : bD) (b7 : List (Nat × Obj)), (E 15 = .int .i64 (i : Nat) ∧ E 14 = .int .i64 (a.Kids.length : Nat)) ∧ bE μ0 J ∧ Lo (keys ((u, Obj.cells ((cP a0).toArray : Array Value) 376 (0, 0)) :: [])) w μ0 J ∧ ST false (keys ((u, Obj.cells ((cP a0).toArray : Array Value) 376 (0, 0)) :: [])) w W J ((u, Obj.cells ((cP D).toArray : Array Value) 376 (0, 0)) :: ((b5, Obj.cells (qG.toArray : Array Value) 113 (0, 0)) :: ((b3, Obj.cells ((C3 a.Op a.K a.Role.Owner a.Role.Word A1 a.Kids.length c2).toArray : Array Value) 113 (0, 0)) :: (T ++ b7)))) ∧ E 0 = (.pointer (some ⟨u, 0, none⟩)) ∧ E 3 = (.pointer (some ⟨b3, 0, none⟩)) ∧ E 4 = (.pointer (some ⟨b5, 0, none⟩)) ∧ E 5 = I ∧ E 13 = (.slice A1 a.Kids.length c2) ∧ bG 113 aK 5 J I H T ∧ eT c9 a (a.Kids.drop i) H D = some r) a.Kids.length x.len ⟨(.slice none 0 0), ([]), [], a0, μ0, _, ⟨rfl, rfl⟩, (bE.refl _), Lo.refl, (hST.sel (Sb (Pb (Pb Pz)) St)), rfl, rfl, rfl, rfl, rfl, (bG.nil _ _ _ _), hm⟩ (by decide) (by decide) (by decide) (fun _ _ _ h => by obtain ⟨_, _, _, _, _, _, eIN, _⟩ := h; exact eIN) ?_ ?_)
  · rintro f0 E W d7 ⟨I, H, T, D, J, b7, ⟨eI, eN⟩, z, hl234, hST, a2, a3, G, b0, b9, K, c⟩
    obtain ⟨t, f9, e5, e4, e6⟩ := cR d7
    rw [e5] at c
    rw [eT] at c
    refine aY (aD (aA (VQ (eV (i := (f0 : Int)) (x0 := t) aK.out Tryz.underlying111 Tryz.sizeOf113 b9 eI (x.mono aV.mono z) (Int.natCast_nonneg _) e4) (fun h5 ⟨_, ⟨h6, rfl, c0⟩, d8⟩ => V (aJ rfl (bN hST.has d8 Tryz.isAgg113 Tryz.sizeOf113)) (VE (bL hST Tryz.zeroValue113 (fun g3 h3 hST => ?_)))))))
    obtain ⟨a7, a9, rfl⟩ := c0.form
    refine VO (bH (.agg (C3 t.Op t.K t.Role.Owner t.Role.Word a7 t.Kids.length a9).toArray) ((C3 t.Op t.K t.Role.Owner t.Role.Word a7 t.Kids.length a9).toArray) hST rfl rfl Tryz.sizeOf113 (by simp [Value.cells, Value.oneCell']) nb rfl (fun g4 hST => aF (aH (aA (V (aC b0) (V (aC a2) (V (aJ rfl (aM hST.has Mh (C3 t.Op t.K t.Role.Owner t.Role.Word a7 t.Kids.length a9) rfl Tryz.isAgg113 Tryz.sizeOf113)) (bS c fun g d9 c => ?_))))))))
    have hsz := hST.size
    refine VE (lT hST (Cb (Pb Pz) Cn) Tryz.call351 (fun hH hN hsb hmm => (e9 u D t (.slice a7 t.Kids.length a9) _ _ ⟨hH, hN, hsb⟩ (c0.mono aV.mono (bE.refl _)) d9)) (fun g5 h7 f4 g0 hST b6 hl255 d1 => ?_))
    obtain ⟨i0, b1, rfl, c1⟩ := d1
    replace b1 := b1.symm; subst b1
    replace hST := hST.perm (Tb Tn)
    obtain ⟨M, U, rfl⟩ := c1.form
    refine VE (aR (qs := #[(0, (.agg #[(.int .i64 ((g.1).Op)), (.int .i64 ((g.1).K)), (.string (((g.1).Role).Owner)), (.string (((g.1).Role).Word)), (.slice M ((g.1).Kids).length U)]))]) (cs := #[(.int .i64 ((g.1).Op)), (.int .i64 ((g.1).K)), (.string (((g.1).Role).Owner)), (.string (((g.1).Role).Word)), (.slice M ((g.1).Kids).length U)]) hST (bM rfl) (bB [(.agg #[(.int .i64 ((g.1).Op)), (.int .i64 ((g.1).K)), (.string (((g.1).Role).Owner)), (.string (((g.1).Role).Word)), (.slice M ((g.1).Kids).length U)])] Tryz.underlying111 Tryz.sizeOf113 Tryz.zeroValue113 (by decide) rfl (by intro v hv; simp only [List.mem_cons, List.not_mem_nil, or_false] at hv; rcases hv with rfl <;> rfl) rfl rfl) (fun g6 h4 hST => ?_))
    replace hST := hST.perm (Nr (Qb (Qb (Qb (Qb (Qb Qz))))) Nz)
    refine bS c fun f1 d5 c => VE (sw (B := T) aV hST (by decide) Tryz.underlying111 gV.1 gV.2.1 rfl gV.2.2.1 gV.2.2.2 rfl rfl (K.mono aV b6) (yD.lit aV (l := [g.1]) (.cons (ys := [(.int .i64 ((g.1).Op)), (.int .i64 ((g.1).K)), (.string (((g.1).Role).Owner)), (.string (((g.1).Role).Word)), (.slice M ((g.1).Kids).length U)]) (aK.mk ⟨(.slice M ((g.1).Kids).length U), rfl, c1⟩) .nil) rfl nb (hST.at_ (Ma Mh))) d5 (fun g7 f2 e8 hST d4 => V (aG rfl) (aF (cL (aH ?_)))))
    replace hST := hST.sel (Kr (Db (Kb (Db St))))
    exact ⟨eI, f2, f1, e8, g.2, f4, _, ⟨rfl, eN⟩, (z.trans b6), (hl234.trans hl255), (hST.sel (Sb (Pr Pz) (Sb (Pr Pz) (Sb (Pr Pz) St)))), a2, a3, G, rfl, b9, d4, (by rw [e6]; exact c)⟩
  rintro E W ⟨I, H, T, D, J, b7, ⟨eI, eN⟩, z, hl234, hST, a2, a3, G, b0, b9, K, c⟩
  rw [List.drop_length] at c
  rw [eT] at c
  refine aH (aD (aD (aA (V (aN nR a3) (V (aJ rfl (aP hST.has (Mt (Mt Mh)) rfl Tryz.isAgg3)) (V (aQ rfl rfl rfl) (aF (aH (CI c rfl (fun d6 c => ?_) (fun d6 c => ?_))))))))))
  · refine aD (aA (V (aC a2) (V (aN sO a3) (V (aJ rfl (aP hST.has (Mt (Mt Mh)) rfl Tryz.isAgg3)) (V (aC b0) ?_)))))
    replace hST := hST.perm (Nr (Qb (Qb (Qb Qz))) Nz)
    obtain ⟨i3, hST, c5, hl275, e2⟩ := ST.pubD aV hST K
    refine bS c fun j e0 c => ?_
    have hsz := hST.size
    refine VE (lT hST (Cb Pz Cn) Tryz.call406 (fun hH hN hsb hmm => (vI u D a.K I H _ _ ⟨hH, hN, hsb⟩ (e2.mono aV.mono (bE.refl _)) e0)) (fun g8 h8 i4 g1 hST c6 hl282 d2 => ?_))
    obtain ⟨i1, b2, rfl, c3⟩ := d2
    replace b2 := b2.symm; subst b2
    replace hST := hST.perm (Tb Tn)
    obtain ⟨N, Y, rfl⟩ := c3.form
    replace hST := hST.perm (Nb (Pb Pz) Nz)
    refine VO (bH (.agg #[(.int .i64 ((j.1).Op)), (.int .i64 ((j.1).K)), (.string (((j.1).Role).Owner)), (.string (((j.1).Role).Word)), (.slice N ((j.1).Kids).length Y)]) (#[(.int .i64 ((j.1).Op)), (.int .i64 ((j.1).K)), (.string (((j.1).Role).Owner)), (.string (((j.1).Role).Word)), (.slice N ((j.1).Kids).length Y)]) hST G rfl Tryz.sizeOf113 (by simp [Value.cells, Value.oneCell']) nb rfl (fun g9 hST => aF (aH ?_)))
    replace hST := hST.sel (Kb (Kb (Db St)))
    refine aU (cU ?_)
    have hx := sj c; subst hx
    exact kM (v := (.agg #[(.int .i64 ((j.1).Op)), (.int .i64 ((j.1).K)), (.string (((j.1).Role).Owner)), (.string (((j.1).Role).Word)), (.slice N ((j.1).Kids).length Y)])) rfl G (aM hST.has Mh [(.int .i64 ((j.1).Op)), (.int .i64 ((j.1).K)), (.string (((j.1).Role).Owner)), (.string (((j.1).Role).Word)), (.slice N ((j.1).Kids).length Y)] rfl Tryz.isAgg113 Tryz.sizeOf113) ⟨_, _, _, rfl, (hST.bkM (Db (Kb Sn))), ((z.trans c5).trans c6), ((hl234.trans hl275).trans hl282), (ST.sub_hpx hST (fF.mem (Db (Kb Sn)))), (.slice N ((j.1).Kids).length Y), rfl, rfl, c3⟩
  refine aX (aH (aD (aA (V (aC a2) (V (aN nR a3) (V (aJ rfl (aP hST.has (Mt (Mt Mh)) rfl Tryz.isAgg3)) (V (aC b0) ?_)))))))
  replace hST := hST.perm (Nr (Qb (Qb (Qb Qz))) Nz)
  obtain ⟨i5, hST, c7, hl295, e3⟩ := ST.pubD aV hST K
  refine bS c fun k e1 c => ?_
  have hsz := hST.size
  refine VE (lT hST (Cb Pz Cn) Tryz.call407 (fun hH hN hsb hmm => (oW u D a.Op I H _ _ ⟨hH, hN, hsb⟩ (e3.mono aV.mono (bE.refl _)) e1)) (fun h1 h9 i6 g2 hST c8 hl302 d3 => ?_))
  obtain ⟨i2, b4, rfl, c4⟩ := d3
  replace b4 := b4.symm; subst b4
  replace hST := hST.perm (Tb Tn)
  obtain ⟨Q, Z, rfl⟩ := c4.form
  replace hST := hST.perm (Nb (Pb Pz) Nz)
  refine VO (bH (.agg #[(.int .i64 ((k.1).Op)), (.int .i64 ((k.1).K)), (.string (((k.1).Role).Owner)), (.string (((k.1).Role).Word)), (.slice Q ((k.1).Kids).length Z)]) (#[(.int .i64 ((k.1).Op)), (.int .i64 ((k.1).K)), (.string (((k.1).Role).Owner)), (.string (((k.1).Role).Word)), (.slice Q ((k.1).Kids).length Z)]) hST G rfl Tryz.sizeOf113 (by simp [Value.cells, Value.oneCell']) nb rfl (fun h2 hST => aF (aH ?_)))
  replace hST := hST.sel (Kb (Kb (Db St)))
  refine aU ?_
  have hx := sj c; subst hx
  exact kM (v := (.agg #[(.int .i64 ((k.1).Op)), (.int .i64 ((k.1).K)), (.string (((k.1).Role).Owner)), (.string (((k.1).Role).Word)), (.slice Q ((k.1).Kids).length Z)])) rfl G (aM hST.has Mh [(.int .i64 ((k.1).Op)), (.int .i64 ((k.1).K)), (.string (((k.1).Role).Owner)), (.string (((k.1).Role).Word)), (.slice Q ((k.1).Kids).length Z)] rfl Tryz.isAgg113 Tryz.sizeOf113) ⟨_, _, _, rfl, (hST.bkM (Db (Kb Sn))), ((z.trans c7).trans c8), ((hl234.trans hl295).trans hl302), (ST.sub_hpx hST (fF.mem (Db (Kb Sn)))), (.slice Q ((k.1).Kids).length Z), rfl, rfl, c4⟩
theorem sY : ∀ (n : Nat) (c : Nat) (j : bW) (g : aB) (a : Value) (r : (aB × bW)) (w : World) {k : bD} (y : jU k ((c, Obj.cells ((cP j).toArray : Array Value) 376 (0, 0)) :: []) w) (i : Sl aK 5 k a g.Kids) (_ : fL n j g = some r),
    eS false Tryz.prog 351 [(.pointer (some ⟨c, 0, none⟩)), (.agg #[(.int .i64 g.Op), (.int .i64 g.K), (.string g.Role.Owner), (.string g.Role.Word), a])] w k ((c, Obj.cells ((cP j).toArray : Array Value) 376 (0, 0)) :: []) (fun v u x => ∃ (t : Value), v = (.agg #[(.int .i64 ((r.1).Op)), (.int .i64 ((r.1).K)), (.string (((r.1).Role).Owner)), (.string (((r.1).Role).Word)), t]) ∧ u = ((c, Obj.cells ((cP (r.2)).toArray : Array Value) 376 (0, 0)) :: []) ∧ Sl aK 5 x t ((r.1).Kids))
  | 0 => by intros; rename_i h; simp only [fL] at h; cases h
  | n + 1 => uL (fL n) (sY n)
theorem Ao (c : aB) (u : Value) (r : (aB × Int)) (w : World) {Z : bD} (h0 : jU Z [] w) (k : Sl aK 5 Z u c.Kids) (hm : rM c = some r) :
    eS false Tryz.prog 306 [(.agg #[(.int .i64 c.Op), (.int .i64 c.K), (.string c.Role.Owner), (.string c.Role.Word), u])] w Z [] (fun v L1 μ1 => ∃ (y1 : Value), v = (.tuple #[(.agg #[(.int .i64 ((r.1).Op)), (.int .i64 ((r.1).K)), (.string (((r.1).Role).Owner)), (.string (((r.1).Role).Word)), y1]), (.int .i64 (r.2))]) ∧ L1 = [] ∧ Sl aK 5 μ1 y1 ((r.1).Kids)) := by
  have hST := ST.startE (dd := false) h0
  unfold rM at hm
  refine cF 27 Tryz.func306 rfl (aD (aA ?_))
  obtain ⟨H, I, rfl⟩ := k.form
  refine VE (cO (v := (.agg (C3 c.Op c.K c.Role.Owner c.Role.Word H c.Kids.length I).toArray)) hST rfl (fun W4 b3 hST => VE (bL hST Tryz.zeroValue113 (fun W6 b5 hST => V (aG rfl) (aF (aH (aD (aD (aA (V (aJ rfl (aM hST.has (Mt Mh) (C3 c.Op c.K c.Role.Owner c.Role.Word H c.Kids.length I) rfl Tryz.isAgg113 Tryz.sizeOf113)) (bS hm fun r7 a5 hm => VE (Eg hST Tryz.call107 ((mB c (.slice H c.Kids.length I) _ _ (k.mono aV.mono hST.sub_hp) a5)) (fun W9 hST => V (fV rfl) (aF (aH (CI hm rfl (fun Q hm => ?_) (fun Q hm => ?_)))))))))))))))))
  · refine aD (aA (V (bJ (qs := #[]) (v := (.agg qG.toArray)) nZ (aW Tryz.zeroValue113 Tryz.underlying113 (tu _ Tryz.underlying113) (by kernel_rfl))) (VO (bH (.agg qG.toArray) (qG.toArray) hST rfl rfl Tryz.sizeOf113 (by simp [Value.cells, Value.oneCell']) nb rfl (fun b6 hST => V (aG rfl) (aF (aH ?_)))))))
    replace hST := hST.sel (Kb (Db St))
    refine aU (cU ?_)
    have hx := sj hm; subst hx
    exact rK (v0 := (.agg qG.toArray)) (v1 := (.int .i64 11)) rfl rfl (aM hST.has Mh qG rfl Tryz.isAgg113 Tryz.sizeOf113) rfl ⟨_, _, _, rfl, (hST.bkM Sn), (bE.refl _), Lo.refl, (ST.sub_hpx hST (fF.mem Sn)), (.slice none 0 0), rfl, rfl, (Sl.nil _ _ _)⟩
  refine aX (aH (aD (aA (V (bJ (qs := #[]) (v := (.agg (cP Jw).toArray)) nZ (aW Tryz.zeroValue376 Tryz.underlying376 (Kc _ Tryz.underlying376) (by kernel_rfl))) (VE (cO (v := (.agg (cP Jw).toArray)) hST rfl (fun b7 a1 hST => V (aG rfl) (aF (aH (aD (aA (V (aC rfl) (V (aJ rfl (aM hST.has (Mt (Mt Mh)) (C3 c.Op c.K c.Role.Owner c.Role.Word H c.Kids.length I) rfl Tryz.isAgg113 Tryz.sizeOf113)) (bS hm fun a U hm => ?_))))))))))))))
  have hsz := hST.size
  refine VE (lT hST (Cb Pz Cn) Tryz.call351 (fun hH hN hsb hmm => ((sY cE) a1 Jw c (.slice H c.Kids.length I) _ _ ⟨hH, hN, hsb⟩ (k.mono aV.mono (bE.refl _)) U)) (fun b9 c7 a9 b4 hST D hl20 N => ?_))
  obtain ⟨c9, y, rfl, z⟩ := N
  replace y := y.symm; subst y
  replace hST := hST.perm (Tb Tn)
  refine VE (bL hST Tryz.zeroValue113 (fun c0 K hST => ?_))
  obtain ⟨i, j, rfl⟩ := z.form
  refine VO (bH (.agg #[(.int .i64 ((a.1).Op)), (.int .i64 ((a.1).K)), (.string (((a.1).Role).Owner)), (.string (((a.1).Role).Word)), (.slice i ((a.1).Kids).length j)]) (#[(.int .i64 ((a.1).Op)), (.int .i64 ((a.1).K)), (.string (((a.1).Role).Owner)), (.string (((a.1).Role).Word)), (.slice i ((a.1).Kids).length j)]) hST rfl rfl Tryz.sizeOf113 (by simp [Value.cells, Value.oneCell']) nb rfl (fun c1 hST => aF (aH ?_)))
  replace hST := hST.sel (Kb (Kb (Kb (Db St))))
  refine aD (aD (aA (V (aC rfl) (V (cT rfl) (V (aN EN rfl) (V (aJ rfl (aP hST.has (Mt Mh) rfl Tryz.isAgg57)) (V (aQ rfl rfl rfl) (V (aC rfl) (LJ hm (fun M E W => ∃  (J : List (Nat × Obj)), ST false (keys []) w W a9 ((K, Obj.cells (#[(.int .i64 ((a.1).Op)), (.int .i64 ((a.1).K)), (.string (((a.1).Role).Owner)), (.string (((a.1).Role).Word)), (.slice i ((a.1).Kids).length j)] : Array Value) 113 (0, 0)) :: ((b5, Obj.cells (qG.toArray : Array Value) 113 (0, 0)) :: J)) ∧ E 2 = (.pointer (some ⟨b5, 0, none⟩)) ∧ E 5 = (.pointer (some ⟨K, 0, none⟩)) ∧ E 24 = (.bool M)) 4 ?_ (fun M t G => ?_))))))))))
  · rintro c8 E W ⟨J, hST, B, a3, a4⟩ x
    refine aF (aH (CI x a4 (fun T x => ?_) (fun T x => ?_)))
    · refine aD (aA (V (bJ (qs := #[]) (v := (.agg qG.toArray)) nZ (aW Tryz.zeroValue113 Tryz.underlying113 (tu _ Tryz.underlying113) (by kernel_rfl))) ?_))
      replace hST := hST.perm (Nb (Pb Pz) Nz)
      refine VO (bH (.agg qG.toArray) (qG.toArray) hST B rfl Tryz.sizeOf113 (by simp [Value.cells, Value.oneCell']) nb rfl (fun c3 hST => V (aG rfl) (aF (aH ?_))))
      replace hST := hST.sel (Kb (Db St))
      refine aU (cU ?_)
      have hx := sj x; subst hx
      exact rK (v0 := (.agg qG.toArray)) (v1 := (.int .i64 12)) rfl B (aM hST.has Mh qG rfl Tryz.isAgg113 Tryz.sizeOf113) rfl ⟨_, _, _, rfl, (hST.bkM Sn), D, hl20, (ST.sub_hpx hST (fF.mem Sn)), (.slice none 0 0), rfl, rfl, (Sl.nil _ _ _)⟩
    refine aX (aH (aD (aA (V (aJ a3 (aM hST.has Mh [(.int .i64 ((a.1).Op)), (.int .i64 ((a.1).K)), (.string (((a.1).Role).Owner)), (.string (((a.1).Role).Word)), (.slice i ((a.1).Kids).length j)] rfl Tryz.isAgg113 Tryz.sizeOf113)) ?_))))
    replace hST := hST.perm (Nb (Pb Pz) Nz)
    refine VO (bH (.agg #[(.int .i64 ((a.1).Op)), (.int .i64 ((a.1).K)), (.string (((a.1).Role).Owner)), (.string (((a.1).Role).Word)), (.slice i ((a.1).Kids).length j)]) (#[(.int .i64 ((a.1).Op)), (.int .i64 ((a.1).K)), (.string (((a.1).Role).Owner)), (.string (((a.1).Role).Word)), (.slice i ((a.1).Kids).length j)]) hST B rfl Tryz.sizeOf113 (by simp [Value.cells, Value.oneCell']) nb rfl (fun c4 hST => V (aG rfl) (aF (aH ?_))))
    replace hST := hST.sel (Kb (Db St))
    refine aU ?_
    have hx := sj x; subst hx
    exact rK (v0 := (.agg #[(.int .i64 ((a.1).Op)), (.int .i64 ((a.1).K)), (.string (((a.1).Role).Owner)), (.string (((a.1).Role).Word)), (.slice i ((a.1).Kids).length j)])) (v1 := (.int .i64 0)) rfl B (aM hST.has Mh [(.int .i64 ((a.1).Op)), (.int .i64 ((a.1).K)), (.string (((a.1).Role).Owner)), (.string (((a.1).Role).Word)), (.slice i ((a.1).Kids).length j)] rfl Tryz.isAgg113 Tryz.sizeOf113) rfl ⟨_, _, _, rfl, (hST.bkM Sn), D, hl20, (ST.sub_hpx hST (fF.mem Sn)), (.slice i ((a.1).Kids).length j), rfl, rfl, z⟩
  refine bC t (fun g t => ?_) (fun g t => ?_)
  · refine Vn rfl (cB g) (Vn rfl (cB g) (Vn rfl (cB g) (V (bU (cB g) rfl) ?_)))
    cases t
    exact G _ _ ⟨_, (hST.sel (Kb (Db St))), rfl, rfl, rfl⟩
  refine Vg rfl (cB g) (aJ rfl (aM hST.has Mh [(.int .i64 ((a.1).Op)), (.int .i64 ((a.1).K)), (.string (((a.1).Role).Owner)), (.string (((a.1).Role).Word)), (.slice i ((a.1).Kids).length j)] rfl Tryz.isAgg113 Tryz.sizeOf113)) (bS t fun c6 Y t => oO rfl (cB g) (Eg hST Tryz.call107 ((mB a.1 (.slice i ((a.1).Kids).length j) _ _ (z.mono aV.mono hST.sub_hp) Y)) (fun c5 hST => Vg rfl (cB g) (fV rfl) (V (bX (cB g) rfl) ?_))))
  cases t
  exact G _ _ ⟨_, (hST.sel (Kb (Db St))), rfl, rfl, rfl⟩
theorem Dd (a : aB) (k : Value) (c : aB) (t : Value) (r : (aB × Int)) (w : World) {N : bD} (h0 : jU N [] w) (i : Sl aK 5 N k a.Kids) (j : Sl aK 5 N t c.Kids) (hm : rG a c = some r) :
    eS false Tryz.prog 307 [(.agg #[(.int .i64 a.Op), (.int .i64 a.K), (.string a.Role.Owner), (.string a.Role.Word), k]), (.agg #[(.int .i64 c.Op), (.int .i64 c.K), (.string c.Role.Owner), (.string c.Role.Word), t])] w N [] (fun v Z μ1 => ∃ (Y : Value), v = (.tuple #[(.agg #[(.int .i64 ((r.1).Op)), (.int .i64 ((r.1).K)), (.string (((r.1).Role).Owner)), (.string (((r.1).Role).Word)), Y]), (.int .i64 (r.2))]) ∧ Z = [] ∧ Sl aK 5 μ1 Y ((r.1).Kids)) := by
  have hST := ST.startE (dd := false) h0
  unfold rG at hm
  refine cF 13 Tryz.func307 rfl (aD (aA ?_))
  obtain ⟨u, z, rfl⟩ := i.form
  refine VE (cO (v := (.agg (C3 a.Op a.K a.Role.Owner a.Role.Word u a.Kids.length z).toArray)) hST rfl (fun W4 b3 hST => ?_))
  obtain ⟨y, G, rfl⟩ := j.form
  refine VE (cO (v := (.agg (C3 c.Op c.K c.Role.Owner c.Role.Word y c.Kids.length G).toArray)) hST rfl (fun W8 b7 hST => VE (bL hST Tryz.zeroValue113 (fun a5 b9 hST => V (aG rfl) (aF (aH (aD (aA (V (aJ rfl (aM hST.has (Mt (Mt Mh)) (C3 a.Op a.K a.Role.Owner a.Role.Word u a.Kids.length z) rfl Tryz.isAgg113 Tryz.sizeOf113)) (V (aJ rfl (aM hST.has (Mt Mh) (C3 c.Op c.K c.Role.Owner c.Role.Word y c.Kids.length G) rfl Tryz.isAgg113 Tryz.sizeOf113)) (VE (aR (qs := #[(0, (.agg (C3 a.Op a.K a.Role.Owner a.Role.Word u a.Kids.length z).toArray)), (1, (.agg (C3 c.Op c.K c.Role.Owner c.Role.Word y c.Kids.length G).toArray))]) (cs := #[(.int .i64 a.Op), (.int .i64 a.K), (.string a.Role.Owner), (.string a.Role.Word), (.slice u a.Kids.length z), (.int .i64 c.Op), (.int .i64 c.K), (.string c.Role.Owner), (.string c.Role.Word), (.slice y c.Kids.length G)]) hST (fR rfl rfl) (bB [(.agg (C3 a.Op a.K a.Role.Owner a.Role.Word u a.Kids.length z).toArray), (.agg (C3 c.Op c.K c.Role.Owner c.Role.Word y c.Kids.length G).toArray)] Tryz.underlying111 Tryz.sizeOf113 Tryz.zeroValue113 (by decide) rfl (by intro v hv; simp only [List.mem_cons, List.not_mem_nil, or_false] at hv; rcases hv with rfl | rfl <;> rfl) rfl rfl) (fun a6 I hST => V (bJ (qs := #[(0, (.int .i64 2)), (3, (.slice (some ⟨I, 0, none⟩) 2 2))]) (v := (.agg #[(.int .i64 2), (.int .i64 0), (.string zS), (.string zS), (.slice (some ⟨I, 0, none⟩) 2 2)])) (fR rfl rfl) (aW Tryz.zeroValue113 Tryz.underlying113 (tu _ Tryz.underlying113) (by kernel_rfl))) ?_)))))))))))))
  obtain ⟨b1, hST, K, hl15, U⟩ := ST.pubD (B := [(I, Obj.cells (#[(.int .i64 a.Op), (.int .i64 a.K), (.string a.Role.Owner), (.string a.Role.Word), (.slice u a.Kids.length z), (.int .i64 c.Op), (.int .i64 c.K), (.string c.Role.Owner), (.string c.Role.Word), (.slice y c.Kids.length G)] : Array Value) 113 (0, 0))]) aV hST (bG.lit aV (l := [a, c]) (.cons (ys := C3 a.Op a.K a.Role.Owner a.Role.Word u a.Kids.length z) (aK.mk ⟨(.slice u a.Kids.length z), rfl, i⟩) (.cons (ys := C3 c.Op c.K c.Role.Owner c.Role.Word y c.Kids.length G) (aK.mk ⟨(.slice y c.Kids.length G), rfl, j⟩) .nil)) rfl nb rfl)
  refine bS hm fun g T hm => ?_
  have hsz := hST.size
  refine VE (lT hST (List.Perm.refl _) Tryz.call306 (fun hH hN hsb hmm => (Ao ((⟨2, 0, K0, [a, c]⟩ : aB)) (.slice (some ⟨I, 0, none⟩) 2 2) _ _ ⟨hH, hN, hsb⟩ (U.mono aV.mono (bE.refl _)) T)) (fun a7 a9 b2 a4 hST M hl22 Q => ?_) (L0 := []))
  obtain ⟨b0, H, rfl, J⟩ := Q
  replace H := H.symm; subst H
  replace hST := hST.perm Tn
  refine V (dU rfl rfl) (V (dU rfl rfl) ?_)
  obtain ⟨x, D, rfl⟩ := J.form
  refine VO (bH (.agg #[(.int .i64 ((g.1).Op)), (.int .i64 ((g.1).K)), (.string (((g.1).Role).Owner)), (.string (((g.1).Role).Word)), (.slice x ((g.1).Kids).length D)]) (#[(.int .i64 ((g.1).Op)), (.int .i64 ((g.1).K)), (.string (((g.1).Role).Owner)), (.string (((g.1).Role).Word)), (.slice x ((g.1).Kids).length D)]) hST rfl rfl Tryz.sizeOf113 (by simp [Value.cells, Value.oneCell']) nb rfl (fun a8 hST => V (aG rfl) (aF (aH ?_))))
  replace hST := hST.sel (Kb (Db (Db St)))
  refine aU ?_
  have hx := sj hm; subst hx
  exact rK (v0 := (.agg #[(.int .i64 ((g.1).Op)), (.int .i64 ((g.1).K)), (.string (((g.1).Role).Owner)), (.string (((g.1).Role).Word)), (.slice x ((g.1).Kids).length D)])) (v1 := (.int .i64 g.2)) rfl rfl (aM hST.has Mh [(.int .i64 ((g.1).Op)), (.int .i64 ((g.1).K)), (.string (((g.1).Role).Owner)), (.string (((g.1).Role).Word)), (.slice x ((g.1).Kids).length D)] rfl Tryz.isAgg113 Tryz.sizeOf113) rfl ⟨_, _, _, rfl, (hST.bkM Sn), (K.trans M), (hl15.trans hl22), (ST.sub_hpx hST (fF.mem Sn)), (.slice x ((g.1).Kids).length D), rfl, rfl, J⟩
end Go.Proofs.YtmlncblocfcmiaaGreat
