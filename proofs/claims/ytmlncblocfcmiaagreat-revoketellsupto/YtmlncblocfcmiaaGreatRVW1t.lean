/- a part of a proof of RevokeTells -/
import Derived.Test.YtmlncblocfcmiaaGreatRVMt
import Derived.Test.YtmlncblocfcmiaaGreatProg
set_option linter.all false
namespace Go.Proofs.YtmlncblocfcmiaaGreat
open Go.RowKit
set_option maxRecDepth 10000
theorem Tryz_mixed : Tryz.prog.follows .mixedOrders = true := by rfl
theorem info5 : Tryz.prog.info? 5 = some Tryz.t5 ∧ Tryz.t5.zero = some (.int .u8 0) ∧ Tryz.t5.size = 1 ∧ Tryz.t5.bytes = 1 := ⟨by kernel_rfl, by kernel_rfl, by kernel_rfl, by kernel_rfl⟩
theorem info28 : Tryz.prog.info? 28 = some Tryz.t28 ∧ Tryz.t28.zero = some (.agg #[(.string ⟨#[]⟩), (.string ⟨#[]⟩)]) ∧ Tryz.t28.size = 2 ∧ Tryz.t28.bytes = 32 := ⟨by kernel_rfl, by kernel_rfl, by kernel_rfl, by kernel_rfl⟩
theorem info38 : Tryz.prog.info? 38 = some Tryz.t38 ∧ Tryz.t38.zero = some (.agg #[(.string ⟨#[]⟩), (.string ⟨#[]⟩), (.string ⟨#[]⟩)]) ∧ Tryz.t38.size = 3 ∧ Tryz.t38.bytes = 48 := ⟨by kernel_rfl, by kernel_rfl, by kernel_rfl, by kernel_rfl⟩
theorem info53 : Tryz.prog.info? 53 = some Tryz.t53 ∧ Tryz.t53.zero = some (.agg #[(.int .i64 0), (.string ⟨#[]⟩), (.string ⟨#[]⟩), (.string ⟨#[]⟩), (.string ⟨#[]⟩), (.string ⟨#[]⟩), (.string ⟨#[]⟩), (.string ⟨#[]⟩), (.string ⟨#[]⟩)]) ∧ Tryz.t53.size = 9 ∧ Tryz.t53.bytes = 136 := ⟨by kernel_rfl, by kernel_rfl, by kernel_rfl, by kernel_rfl⟩
theorem info56 : Tryz.prog.info? 56 = some Tryz.t56 ∧ Tryz.t56.zero = some (.agg #[(.int .i64 0), (.string ⟨#[]⟩), (.string ⟨#[]⟩), (.string ⟨#[]⟩), (.string ⟨#[]⟩), (.string ⟨#[]⟩), (.string ⟨#[]⟩), (.string ⟨#[]⟩), (.string ⟨#[]⟩), (.slice none 0 0)]) ∧ Tryz.t56.size = 10 ∧ Tryz.t56.bytes = 160 := ⟨by kernel_rfl, by kernel_rfl, by kernel_rfl, by kernel_rfl⟩
theorem fa28_0 : FieldAt Tryz.prog 28 0 0 := FieldAt_of Tryz.underlying28 rfl Tryz.sizeOf9 (by decide) rfl
theorem fa28_1 : FieldAt Tryz.prog 28 1 1 := FieldAt_of Tryz.underlying28 rfl Tryz.sizeOf9 (by decide) rfl
theorem fields28 : (Tryz.prog.fieldsOf 28).toList = (match Tryz.prog.underlying 28 with | some (.struct fs) => fs.toList | _ => []) := by rw [Tryz.underlying28]; simp [Program.fieldsOf, Tryz.underlying28]
theorem eqInRole (d : Nat) (x y : Role) (W : World) : (Op.equalIn (d + 2) 28 (.agg (encRole x).toArray) (.agg (encRole y).toArray)).run Tryz.prog W = .ok (beqRole x y) W := by
  rw [run_equalIn_struct W (d + 1) 28 _ _ (by kernel_rfl) Tryz.stoodInHeld28, fields28, Tryz.underlying28]
  exact (eqFields_cons (by decide) (part_one Tryz.isAgg9 rfl) (part_one Tryz.isAgg9 rfl) (eqS Tryz.underlying9 _ _ _ _) (eqFields_cons (by decide) (part_one Tryz.isAgg9 rfl) (part_one Tryz.isAgg9 rfl) (eqS Tryz.underlying9 _ _ _ _) (eqFields_nil _ _ _)))
theorem pl28 : ∀ fs, Tryz.prog.underlying 28 = some (.struct fs) → ∀ w, (fs.mapM (fun (f : Field) => do pure (f.offset, ← sizeOf f.type)) : Sem (Array (Nat × Nat))).run Tryz.prog w = .ok #[(0, 1), (1, 1)] w := by
  intro fs h w
  rw [Tryz.underlying28] at h
  cases h
  kernel_rfl
theorem fa53_0 : FieldAt Tryz.prog 53 0 0 := FieldAt_of Tryz.underlying53 rfl Tryz.sizeOf3 (by decide) rfl
theorem fa53_1 : FieldAt Tryz.prog 53 1 1 := FieldAt_of Tryz.underlying53 rfl Tryz.sizeOf28 (by decide) rfl
theorem fa53_2 : FieldAt Tryz.prog 53 2 3 := FieldAt_of Tryz.underlying53 rfl Tryz.sizeOf9 (by decide) rfl
theorem fa53_3 : FieldAt Tryz.prog 53 3 4 := FieldAt_of Tryz.underlying53 rfl Tryz.sizeOf28 (by decide) rfl
theorem fa53_4 : FieldAt Tryz.prog 53 4 6 := FieldAt_of Tryz.underlying53 rfl Tryz.sizeOf28 (by decide) rfl
theorem fa53_5 : FieldAt Tryz.prog 53 5 8 := FieldAt_of Tryz.underlying53 rfl Tryz.sizeOf9 (by decide) rfl
theorem fields53 : (Tryz.prog.fieldsOf 53).toList = (match Tryz.prog.underlying 53 with | some (.struct fs) => fs.toList | _ => []) := by rw [Tryz.underlying53]; simp [Program.fieldsOf, Tryz.underlying53]
theorem eqInCred (d : Nat) (x y : Cred) (W : World) : (Op.equalIn (d + 3) 53 (.agg (encCred x).toArray) (.agg (encCred y).toArray)).run Tryz.prog W = .ok (beqCred x y) W := by
  rw [run_equalIn_struct W (d + 2) 53 _ _ (by kernel_rfl) Tryz.stoodInHeld53, fields53, Tryz.underlying53]
  exact (eqFields_cons (by decide) (part_one Tryz.isAgg3 rfl) (part_one Tryz.isAgg3 rfl) (eqI Tryz.underlying3 _ _ _ _) (eqFields_cons (by decide) (part_agg Tryz.isAgg28 Tryz.sizeOf28 rfl) (part_agg Tryz.isAgg28 Tryz.sizeOf28 rfl) (eqInRole _ x.Head y.Head W) (eqFields_cons (by decide) (part_one Tryz.isAgg9 rfl) (part_one Tryz.isAgg9 rfl) (eqS Tryz.underlying9 _ _ _ _) (eqFields_cons (by decide) (part_agg Tryz.isAgg28 Tryz.sizeOf28 rfl) (part_agg Tryz.isAgg28 Tryz.sizeOf28 rfl) (eqInRole _ x.B y.B W) (eqFields_cons (by decide) (part_agg Tryz.isAgg28 Tryz.sizeOf28 rfl) (part_agg Tryz.isAgg28 Tryz.sizeOf28 rfl) (eqInRole _ x.C y.C W) (eqFields_cons (by decide) (part_one Tryz.isAgg9 rfl) (part_one Tryz.isAgg9 rfl) (eqS Tryz.underlying9 _ _ _ _) (eqFields_nil _ _ _)))))))
theorem pl53 : ∀ fs, Tryz.prog.underlying 53 = some (.struct fs) → ∀ w, (fs.mapM (fun (f : Field) => do pure (f.offset, ← sizeOf f.type)) : Sem (Array (Nat × Nat))).run Tryz.prog w = .ok #[(0, 1), (1, 2), (3, 1), (4, 2), (6, 2), (8, 1)] w := by
  intro fs h w
  rw [Tryz.underlying53] at h
  cases h
  kernel_rfl
theorem fa38_0 : FieldAt Tryz.prog 38 0 0 := FieldAt_of Tryz.underlying38 rfl Tryz.sizeOf28 (by decide) rfl
theorem fa38_1 : FieldAt Tryz.prog 38 1 2 := FieldAt_of Tryz.underlying38 rfl Tryz.sizeOf9 (by decide) rfl
theorem pl38 : ∀ fs, Tryz.prog.underlying 38 = some (.struct fs) → ∀ w, (fs.mapM (fun (f : Field) => do pure (f.offset, ← sizeOf f.type)) : Sem (Array (Nat × Nat))).run Tryz.prog w = .ok #[(0, 2), (2, 1)] w := by
  intro fs h w
  rw [Tryz.underlying38] at h
  cases h
  kernel_rfl
theorem fa196_0 : FieldAt Tryz.prog 196 0 0 := FieldAt_of Tryz.underlying196 rfl Tryz.sizeOf9 (by decide) rfl
theorem fa196_1 : FieldAt Tryz.prog 196 1 1 := FieldAt_of Tryz.underlying196 rfl Tryz.sizeOf54 (by decide) rfl
theorem pl196 : ∀ fs, Tryz.prog.underlying 196 = some (.struct fs) → ∀ w, (fs.mapM (fun (f : Field) => do pure (f.offset, ← sizeOf f.type)) : Sem (Array (Nat × Nat))).run Tryz.prog w = .ok #[(0, 1), (1, 1)] w := by
  intro fs h w
  rw [Tryz.underlying196] at h
  cases h
  kernel_rfl
theorem fa56_0 : FieldAt Tryz.prog 56 0 0 := FieldAt_of Tryz.underlying56 rfl Tryz.sizeOf53 (by decide) rfl
theorem fa56_1 : FieldAt Tryz.prog 56 1 9 := FieldAt_of Tryz.underlying56 rfl Tryz.sizeOf54 (by decide) rfl
theorem pl56 : ∀ fs, Tryz.prog.underlying 56 = some (.struct fs) → ∀ w, (fs.mapM (fun (f : Field) => do pure (f.offset, ← sizeOf f.type)) : Sem (Array (Nat × Nat))).run Tryz.prog w = .ok #[(0, 9), (9, 1)] w := by
  intro fs h w
  rw [Tryz.underlying56] at h
  cases h
  kernel_rfl
theorem fa212_0 : FieldAt Tryz.prog 212 0 0 := FieldAt_of Tryz.underlying212 rfl Tryz.sizeOf210 (by decide) rfl
theorem pl212 : ∀ fs, Tryz.prog.underlying 212 = some (.struct fs) → ∀ w, (fs.mapM (fun (f : Field) => do pure (f.offset, ← sizeOf f.type)) : Sem (Array (Nat × Nat))).run Tryz.prog w = .ok #[(0, 1)] w := by
  intro fs h w
  rw [Tryz.underlying212] at h
  cases h
  kernel_rfl
theorem fa92_0 : FieldAt Tryz.prog 92 0 0 := FieldAt_of Tryz.underlying92 rfl Tryz.sizeOf54 (by decide) rfl
theorem pl92 : ∀ fs, Tryz.prog.underlying 92 = some (.struct fs) → ∀ w, (fs.mapM (fun (f : Field) => do pure (f.offset, ← sizeOf f.type)) : Sem (Array (Nat × Nat))).run Tryz.prog w = .ok #[(0, 1)] w := by
  intro fs h w
  rw [Tryz.underlying92] at h
  cases h
  kernel_rfl
theorem fa294_0 : FieldAt Tryz.prog 294 0 0 := FieldAt_of Tryz.underlying294 rfl Tryz.sizeOf290 (by decide) rfl
theorem fa294_1 : FieldAt Tryz.prog 294 1 1 := FieldAt_of Tryz.underlying294 rfl Tryz.sizeOf22 (by decide) rfl
theorem fa294_2 : FieldAt Tryz.prog 294 2 2 := FieldAt_of Tryz.underlying294 rfl Tryz.sizeOf291 (by decide) rfl
theorem fa294_3 : FieldAt Tryz.prog 294 3 3 := FieldAt_of Tryz.underlying294 rfl Tryz.sizeOf292 (by decide) rfl
theorem fa294_4 : FieldAt Tryz.prog 294 4 4 := FieldAt_of Tryz.underlying294 rfl Tryz.sizeOf68 (by decide) rfl
theorem fa294_5 : FieldAt Tryz.prog 294 5 5 := FieldAt_of Tryz.underlying294 rfl Tryz.sizeOf3 (by decide) rfl
theorem pl294 : ∀ fs, Tryz.prog.underlying 294 = some (.struct fs) → ∀ w, (fs.mapM (fun (f : Field) => do pure (f.offset, ← sizeOf f.type)) : Sem (Array (Nat × Nat))).run Tryz.prog w = .ok #[(0, 1), (1, 1), (2, 1), (3, 1), (4, 1), (5, 1)] w := by
  intro fs h w
  rw [Tryz.underlying294] at h
  cases h
  kernel_rfl
def relKey : Rep Key := fun μ ys x => ∃ (v0 : Value), ys = [.string x.Who, v0] ∧ Sl (Pl (encIk .u8)) 1 μ v0 x.Key
theorem relKey.out {μ : Mem} {ys : List Value} {x : Key} (h : relKey μ ys x) : ∃ (v0 : Value), ys = [.string x.Who, v0] ∧ Sl (Pl (encIk .u8)) 1 μ v0 x.Key := h
theorem relKey.mk {μ : Mem} {ys : List Value} {x : Key} (h : ∃ (v0 : Value), ys = [.string x.Who, v0] ∧ Sl (Pl (encIk .u8)) 1 μ v0 x.Key) : relKey μ ys x := h
theorem dKey : Deep relKey 2 where
  mono := by rintro _ _ _ _ hs ⟨v0, rfl, h0⟩; exact ⟨v0, rfl, h0.mono (Pl.mono _) hs⟩
  len := by rintro _ _ _ ⟨v0, rfl, h0⟩; rfl
  one := by
    rintro _ _ _ ⟨v0, rfl, h0⟩
    intro u hu; simp only [List.mem_cons, List.not_mem_nil, or_false] at hu; rcases hu with rfl | rfl
    · rfl
    · exact h0.cell1
def relSigned : Rep Signed := fun μ ys x => ∃ (v0 : Value), ys = [.int .i64 x.Cred.Kind, .string x.Cred.Head.Owner, .string x.Cred.Head.Word, .string x.Cred.Who, .string x.Cred.B.Owner, .string x.Cred.B.Word, .string x.Cred.C.Owner, .string x.Cred.C.Word, .string x.Cred.Word2, v0] ∧ Sl (Pl (encIk .u8)) 1 μ v0 x.Tag
theorem relSigned.out {μ : Mem} {ys : List Value} {x : Signed} (h : relSigned μ ys x) : ∃ (v0 : Value), ys = [.int .i64 x.Cred.Kind, .string x.Cred.Head.Owner, .string x.Cred.Head.Word, .string x.Cred.Who, .string x.Cred.B.Owner, .string x.Cred.B.Word, .string x.Cred.C.Owner, .string x.Cred.C.Word, .string x.Cred.Word2, v0] ∧ Sl (Pl (encIk .u8)) 1 μ v0 x.Tag := h
theorem relSigned.mk {μ : Mem} {ys : List Value} {x : Signed} (h : ∃ (v0 : Value), ys = [.int .i64 x.Cred.Kind, .string x.Cred.Head.Owner, .string x.Cred.Head.Word, .string x.Cred.Who, .string x.Cred.B.Owner, .string x.Cred.B.Word, .string x.Cred.C.Owner, .string x.Cred.C.Word, .string x.Cred.Word2, v0] ∧ Sl (Pl (encIk .u8)) 1 μ v0 x.Tag) : relSigned μ ys x := h
theorem dSigned : Deep relSigned 10 where
  mono := by rintro _ _ _ _ hs ⟨v0, rfl, h0⟩; exact ⟨v0, rfl, h0.mono (Pl.mono _) hs⟩
  len := by rintro _ _ _ ⟨v0, rfl, h0⟩; rfl
  one := by
    rintro _ _ _ ⟨v0, rfl, h0⟩
    intro u hu; simp only [List.mem_cons, List.not_mem_nil, or_false] at hu; rcases hu with rfl | rfl | rfl | rfl | rfl | rfl | rfl | rfl | rfl | rfl
    · rfl
    · rfl
    · rfl
    · rfl
    · rfl
    · rfl
    · rfl
    · rfl
    · rfl
    · exact h0.cell1
def relKeysRegistry : Rep KeysRegistry := fun μ ys x => ∃ (v0 : Value), ys = [v0] ∧ DeepAt Value.string (Row 5 (encIk .u8) 1) μ v0 x.m
theorem relKeysRegistry.out {μ : Mem} {ys : List Value} {x : KeysRegistry} (h : relKeysRegistry μ ys x) : ∃ (v0 : Value), ys = [v0] ∧ DeepAt Value.string (Row 5 (encIk .u8) 1) μ v0 x.m := h
theorem relKeysRegistry.mk {μ : Mem} {ys : List Value} {x : KeysRegistry} (h : ∃ (v0 : Value), ys = [v0] ∧ DeepAt Value.string (Row 5 (encIk .u8) 1) μ v0 x.m) : relKeysRegistry μ ys x := h
theorem dKeysRegistry : Deep relKeysRegistry 1 where
  mono := by rintro _ _ _ _ hs ⟨v0, rfl, h0⟩; exact ⟨v0, rfl, h0.mono  hs⟩
  len := by rintro _ _ _ ⟨v0, rfl, h0⟩; rfl
  one := by
    rintro _ _ _ ⟨v0, rfl, h0⟩
    intro u hu; simp only [List.mem_cons, List.not_mem_nil, or_false] at hu; rcases hu with rfl
    · exact h0.cell1
theorem kl9 : KeyLaw Tryz.prog 9 Value.string beqS := KeyLaw.string Tryz.underlying9
theorem kl28 : KeyLaw Tryz.prog 28 (fun (x : Role) => (.agg (encRole x).toArray)) beqRole :=
  KeyLaw.struct Tryz.underlying28 (fun d x y W => eqInRole (d + 8) x y W) (fun b k W => checkKey_struct Tryz.underlying28 rfl (List.forall_mem_cons.2 ⟨fun _ => ⟨.string k.Owner, part_one Tryz.isAgg9 rfl, checkKey_string Tryz.underlying9 _ _ _ _⟩, (List.forall_mem_cons.2 ⟨fun _ => ⟨.string k.Word, part_one Tryz.isAgg9 rfl, checkKey_string Tryz.underlying9 _ _ _ _⟩, (fun _ h => by cases h)⟩)⟩))
    (fun k x h => (beqRole_iff.1 h).symm) (fun k => by simp [Instr.sameBits, encRole, bytes_beq, beqS_iff])
theorem kl53 : KeyLaw Tryz.prog 53 (fun (x : Cred) => (.agg (encCred x).toArray)) beqCred :=
  KeyLaw.struct Tryz.underlying53 (fun d x y W => eqInCred (d + 7) x y W) (fun b k W => checkKey_struct Tryz.underlying53 rfl (List.forall_mem_cons.2 ⟨fun _ => ⟨.int .i64 k.Kind, part_one Tryz.isAgg3 rfl, checkKey_int Tryz.underlying3 _ _ _ _ _⟩, (List.forall_mem_cons.2 ⟨fun _ => ⟨.agg (encRole k.Head).toArray, part_agg Tryz.isAgg28 Tryz.sizeOf28 rfl, checkKey_struct Tryz.underlying28 rfl (List.forall_mem_cons.2 ⟨fun _ => ⟨.string k.Head.Owner, part_one Tryz.isAgg9 rfl, checkKey_string Tryz.underlying9 _ _ _ _⟩, (List.forall_mem_cons.2 ⟨fun _ => ⟨.string k.Head.Word, part_one Tryz.isAgg9 rfl, checkKey_string Tryz.underlying9 _ _ _ _⟩, (fun _ h => by cases h)⟩)⟩)⟩, (List.forall_mem_cons.2 ⟨fun _ => ⟨.string k.Who, part_one Tryz.isAgg9 rfl, checkKey_string Tryz.underlying9 _ _ _ _⟩, (List.forall_mem_cons.2 ⟨fun _ => ⟨.agg (encRole k.B).toArray, part_agg Tryz.isAgg28 Tryz.sizeOf28 rfl, checkKey_struct Tryz.underlying28 rfl (List.forall_mem_cons.2 ⟨fun _ => ⟨.string k.B.Owner, part_one Tryz.isAgg9 rfl, checkKey_string Tryz.underlying9 _ _ _ _⟩, (List.forall_mem_cons.2 ⟨fun _ => ⟨.string k.B.Word, part_one Tryz.isAgg9 rfl, checkKey_string Tryz.underlying9 _ _ _ _⟩, (fun _ h => by cases h)⟩)⟩)⟩, (List.forall_mem_cons.2 ⟨fun _ => ⟨.agg (encRole k.C).toArray, part_agg Tryz.isAgg28 Tryz.sizeOf28 rfl, checkKey_struct Tryz.underlying28 rfl (List.forall_mem_cons.2 ⟨fun _ => ⟨.string k.C.Owner, part_one Tryz.isAgg9 rfl, checkKey_string Tryz.underlying9 _ _ _ _⟩, (List.forall_mem_cons.2 ⟨fun _ => ⟨.string k.C.Word, part_one Tryz.isAgg9 rfl, checkKey_string Tryz.underlying9 _ _ _ _⟩, (fun _ h => by cases h)⟩)⟩)⟩, (List.forall_mem_cons.2 ⟨fun _ => ⟨.string k.Word2, part_one Tryz.isAgg9 rfl, checkKey_string Tryz.underlying9 _ _ _ _⟩, (fun _ h => by cases h)⟩)⟩)⟩)⟩)⟩)⟩))
    (fun k x h => (beqCred_iff.1 h).symm) (fun k => by simp [Instr.sameBits, encCred, bytes_beq, beqS_iff])
theorem ext395 (w : World) (s : ByteArray) (c : Int) : (callFunc 395 [Value.string s, .int .u8 c].toArray).run Tryz.prog w = .ok (.value (.int .i64 (xIndexByte s c))) w := run_indexByteS Tryz.func395 (by kernel_rfl) (by kernel_rfl) (by kernel_rfl) (by kernel_rfl) s c w
theorem w_internal_stringslite_IndexByte (a : ByteArray) (c : Int) (r : Int) (w : World)  (hm : m_internal_stringslite_IndexByte a c = some r) :
    Gives true Tryz.prog 341 [(.string a), (.int .u8 c)] w (.int .i64 r) := by
  have hST := ST.start (dd := true) w
  unfold m_internal_stringslite_IndexByte at hm
  refine calls_of_CW (n := 8) Tryz.func341 rfl rfl (Nat.le_of_ble_eq_true rfl) (CW_seq (CW_region (V (R_assign rfl) (LW_nil (sq_n (CW_seq (CW_region (V (R_move rfl) (V (R_move rfl) (VE (E_ext (args := [(.string a), (.int .u8 c)]) (v := .int .i64 (xIndexByte a c)) rfl (by exact args2 rfl rfl) (ext395 _ a c) (V (R_assign rfl) (LW_nil (sq_n (CW_ret ?_)))))))))))))))
  replace hm := Option.some.inj hm; subst hm
  exact retQ_1 (v := (.int .i64 ((xIndexByte a c)))) rfl rfl ⟨rfl, hST.ex⟩
theorem w_strings_IndexByte (a : ByteArray) (c : Int) (r : Int) (w : World)  (hm : m_strings_IndexByte a c = some r) :
    Gives true Tryz.prog 266 [(.string a), (.int .u8 c)] w (.int .i64 r) := by
  have hST := ST.start (dd := true) w
  unfold m_strings_IndexByte at hm
  refine calls_of_CW (n := 8) Tryz.func266 rfl rfl (Nat.le_of_ble_eq_true rfl) (CW_seq (CW_region (V (R_assign rfl) (LW_nil (sq_n (CW_seq (CW_region (V (R_move rfl) (V (R_move rfl) ?_)))))))))
  obtain ⟨g, f, hm⟩ := bind_some hm
  refine VE (E_gives (args := [(.string a), (.int .u8 c)]) hST rfl Tryz.call341 (by exact args2 rfl rfl) ((w_internal_stringslite_IndexByte a c _ _  f)) (fun i hST => V (R_assign rfl) (LW_nil (sq_n (CW_ret ?_)))))
  replace hm := Option.some.inj hm; subst hm
  exact retQ_1 (v := (.int .i64 g)) rfl rfl ⟨rfl, hST.ex⟩
theorem w_name_only (H : ByteArray) (r : Bool) (w : World)  (hm : m_name_only H = some r) :
    Gives true Tryz.prog 267 [(.string H)] w (.bool r) := by
  have hST := ST.start (dd := true) w
  unfold m_name_only at hm
  refine calls_of_CW (n := 16) Tryz.func267 rfl rfl (Nat.le_of_ble_eq_true rfl) (CW_seq (CW_region (V (R_assign rfl) (LW_nil (sq_n (CW_seq (CW_seq (CW_region (V (R_move rfl) ?_)))))))))
  obtain ⟨G, I, hm⟩ := bind_some hm
  refine VE (E_bytesOf hST Tryz.underlying9 Tryz.underlying54 Tryz.underlying5 rfl I (fun W3 N T hST M hl7 k Y => V (R_len Tryz.underlying54 rfl k) (V (R_move rfl) (LW_nil (sq_n (CW_range (fun i E W => ∃  (g : List (Nat × Obj)), (E 8 = .int .i64 (i : Nat) ∧ E 7 = .int .i64 (G.length : Nat)) ∧ ST true NoF w W T g ∧ E 6 = N ∧ m_name_only_L1 (G.drop i) = some r) G.length k.len ⟨_, ⟨rfl, rfl⟩, (hST.sel St), rfl, hm⟩ (by decide) (by decide) (by decide) (fun _ _ _ h => by obtain ⟨_, eIN, _⟩ := h; exact eIN) ?_ ?_))))))
  · rintro J E W t ⟨g, ⟨eI, eN⟩, hST, j, a⟩
    obtain ⟨f, Q, B, z, D⟩ := drop_cons t
    rw [B] at a
    rw [m_name_only_L1] at a
    refine CW_block (CW_seq (CW_region (VQ (R_indexP (enc := (encIk .u8)) (i := (J : Int)) (x0 := f) Tryz.underlying54 Tryz.sizeOf5 j eI k (Int.natCast_nonneg _) z) (fun Z u => V (R_load rfl (load_at1 hST.has (y := (.int .u8 f)) u Tryz.isAgg5)) (V (R_assign rfl) (LW_nil (sq_n (CW_seq (CW_region (V (R_move rfl) ?_))))))))))
    obtain ⟨K, x, a⟩ := bind_some a
    refine VE (E_gives (args := [(.string ((⟨#[97, 98, 99, 100, 101, 102, 103, 104, 105, 106, 107, 108, 109, 110, 111, 112, 113, 114, 115, 116, 117, 118, 119, 120, 121, 122, 48, 49, 50, 51, 52, 53, 54, 55, 56, 57, 45]⟩ : ByteArray))), (.int .u8 f)]) hST rfl Tryz.call266 (by exact args2 rfl rfl) ((w_strings_IndexByte ((⟨#[97, 98, 99, 100, 101, 102, 103, 104, 105, 106, 107, 108, 109, 110, 111, 112, 113, 114, 115, 116, 117, 118, 119, 120, 121, 122, 48, 49, 50, 51, 52, 53, 54, 55, 56, 57, 45]⟩ : ByteArray)) f _ _  x)) (fun U hST => V (R_int rfl rfl rfl) (LW_nil (sq_n (CW_if (b := (decide (K < 0))) rfl (fun c => ?_) (fun c => ?_))))))
    · replace a := if_t c a
      refine CW_seq (CW_region (V (R_assign rfl) (LW_nil (sq_n (CW_ret (bq_r (sq_r (bq_r (sq_r ?_)))))))))
      replace a := Option.some.inj a; subst a
      exact retQ_1 (v := (.bool false)) rfl rfl ⟨rfl, hST.ex⟩
    replace a := if_f c a
    exact CW_skip (bq_n (sq_n ⟨eI, _, ⟨rfl, eN⟩, (hST.sel St), j, (by rw [D]; exact a)⟩))
  rintro E W ⟨g, ⟨eI, eN⟩, hST, j, a⟩
  rw [List.drop_length] at a
  rw [m_name_only_L1] at a
  refine sq_n (CW_seq (CW_region (V (R_assign rfl) (LW_nil (sq_n (CW_ret ?_))))))
  replace a := Option.some.inj a; subst a
  exact retQ_1 (v := (.bool true)) rfl rfl ⟨rfl, hST.ex⟩
theorem w_name_Right (u : ByteArray) (r : Bool) (w : World)  (hm : m_name_Right u = some r) :
    Gives true Tryz.prog 152 [(.string u)] w (.bool r) := by
  have hST := ST.start (dd := true) w
  unfold m_name_Right at hm
  refine calls_of_CW (n := 21) Tryz.func152 rfl rfl (Nat.le_of_ble_eq_true rfl) (CW_seq (CW_region (V (R_assign rfl) (LW_nil (sq_n (CW_seq (CW_region (V (R_move rfl) (V (R_lenStr Tryz.underlying9 rfl) (V (R_int rfl rfl rfl) (V (R_move rfl) ?_)))))))))))
  obtain ⟨b7, f, M⟩ := bind_some hm
  refine LW_join (J := fun E W => ∃ (T : Bool) (L3 : List (Nat × Obj)), ST true NoF w W (hp w) L3 ∧ E 0 = (.string u) ∧ E 2 = (.bool false) ∧ E 10 = (.bool T) ∧ (((if T then (((idxS u 0)).bind fun B => (((m_strings_IndexByte ((⟨#[97, 98, 99, 100, 101, 102, 103, 104, 105, 106, 107, 108, 109, 110, 111, 112, 113, 114, 115, 116, 117, 118, 119, 120, 121, 122]⟩ : ByteArray)) ((B.toNat : Int)))).bind fun Q => some ((decide (Q ≥ 0))))) else some false) : Option Bool).bind fun x => (((if x then (((m_name_only u)).bind fun y => some y) else some false) : Option Bool).bind fun t => some t)) = some r) 4 ?_ (fun H => ?_)
  · rintro E W ⟨T, L3, hST, e5, e6, e7, b0⟩
    refine V (R_move e7) ?_
    obtain ⟨b6, a, K⟩ := bind_some b0
    refine LW_join (J := fun E W => ∃ (x : Bool) (U : List (Nat × Obj)), ST true NoF w W (hp w) U ∧ E 0 = (.string u) ∧ E 2 = (.bool false) ∧ E 16 = (.bool x) ∧ (((if x then (((m_name_only u)).bind fun y => some y) else some false) : Option Bool).bind fun t => some t) = some r) 5 ?_ (fun G => ?_)
    · rintro E W ⟨x, U, hST, a6, Z, a7, a2⟩
      refine V (R_move a7) ?_
      obtain ⟨b5, c, I⟩ := bind_some a2
      refine LW_join (J := fun E W => ∃ (t : Bool) (Y : List (Nat × Obj)), ST true NoF w W (hp w) Y ∧ E 2 = (.bool false) ∧ E 20 = (.bool t) ∧ some t = some r) 3 ?_ (fun D => ?_)
      · rintro E W ⟨t, Y, hST, b4, a8, z⟩
        refine V (R_assign a8) (LW_nil (sq_n (CW_ret ?_)))
        replace z := Option.some.inj z; subst z
        exact retQ_1 (v := (.bool t)) rfl rfl ⟨rfl, hST.ex⟩
      rcases bool_cases x with j | j
      · replace c := if_t j c
        refine Vg rfl (congrArg Value.bool j) (R_move a6) ?_
        obtain ⟨y, a3, c⟩ := bind_some c
        refine VgE rfl (congrArg Value.bool j) (E_gives (args := [(.string u)]) hST rfl Tryz.call267 (by exact args1 rfl) ((w_name_only u _ _  a3)) (fun b2 hST => V (R_pickT (congrArg Value.bool j) rfl) ?_))
        replace c := Option.some.inj c; subst c
        exact D _ _ ⟨y, _, (hST.sel St), Z, rfl, I⟩
      replace c := if_f j c
      refine Vn rfl (congrArg Value.bool j) (Vn rfl (congrArg Value.bool j) (V (R_pickF (congrArg Value.bool j) rfl) ?_))
      replace c := Option.some.inj c; subst c
      exact D _ _ ⟨false, _, (hST.sel St), Z, rfl, I⟩
    rcases bool_cases T with g | g
    · replace a := if_t g a
      refine Vg rfl (congrArg Value.bool g) (R_move e5) ?_
      obtain ⟨B, N, a⟩ := bind_some a
      refine Vg rfl (congrArg Value.bool g) (R_indexStr (i := 0) Tryz.underlying9 rfl rfl (idxS_nonneg N) (idxS_get N)) ?_
      obtain ⟨Q, a4, a⟩ := bind_some a
      refine VgE rfl (congrArg Value.bool g) (E_gives (args := [(.string ((⟨#[97, 98, 99, 100, 101, 102, 103, 104, 105, 106, 107, 108, 109, 110, 111, 112, 113, 114, 115, 116, 117, 118, 119, 120, 121, 122]⟩ : ByteArray))), (.int .u8 ((B.toNat : Int)))]) hST rfl Tryz.call266 (by exact args2 rfl rfl) ((w_strings_IndexByte ((⟨#[97, 98, 99, 100, 101, 102, 103, 104, 105, 106, 107, 108, 109, 110, 111, 112, 113, 114, 115, 116, 117, 118, 119, 120, 121, 122]⟩ : ByteArray)) ((B.toNat : Int)) _ _  a4)) (fun b3 hST => Vg rfl (congrArg Value.bool g) (R_int rfl rfl rfl) (V (R_pickT (congrArg Value.bool g) rfl) ?_)))
      replace a := Option.some.inj a; subst a
      exact G _ _ ⟨((decide (Q ≥ 0))), _, (hST.sel St), e5, e6, rfl, K⟩
    replace a := if_f g a
    refine Vn rfl (congrArg Value.bool g) (Vn rfl (congrArg Value.bool g) (Vn rfl (congrArg Value.bool g) (Vn rfl (congrArg Value.bool g) (V (R_pickF (congrArg Value.bool g) rfl) ?_))))
    replace a := Option.some.inj a; subst a
    exact G _ _ ⟨false, _, (hST.sel St), e5, e6, rfl, K⟩
  rcases bool_cases ((decide (((u.size : Int)) ≥ 1))) with k | k
  · replace f := if_t k f
    refine Vg rfl (congrArg Value.bool k) (R_move rfl) (Vg rfl (congrArg Value.bool k) (R_lenStr Tryz.underlying9 rfl) (Vg rfl (congrArg Value.bool k) (R_int rfl rfl rfl) (V (R_pickT (congrArg Value.bool k) rfl) ?_)))
    replace f := Option.some.inj f; subst f
    exact H _ _ ⟨((decide (((u.size : Int)) ≤ 16))), _, (hST.sel St), rfl, rfl, rfl, M⟩
  replace f := if_f k f
  refine Vn rfl (congrArg Value.bool k) (Vn rfl (congrArg Value.bool k) (Vn rfl (congrArg Value.bool k) (V (R_pickF (congrArg Value.bool k) rfl) ?_)))
  replace f := Option.some.inj f; subst f
  exact H _ _ ⟨false, _, (hST.sel St), rfl, rfl, rfl, M⟩
theorem w_bytes_Clone (f : Value) (g : List Int) (r : List Int) (w : World) (a : Sl (Pl (encIk .u8)) 1 (hp w) f g) (hm : m_bytes_Clone g = some r) :
    GivesRow true Tryz.prog 153 [f] w 5 (encIk .u8) 1 r := by
  have hST := ST.start (dd := true) w
  unfold m_bytes_Clone at hm
  refine calls_of_CW (n := 8) Tryz.func153 rfl rfl (Nat.le_of_ble_eq_true rfl) (CW_seq (CW_region (V (R_assign rfl) (LW_nil (sq_n (CW_seq (CW_seq (CW_region (V (R_move rfl) ?_)))))))))
  obtain ⟨x, z, rfl⟩ := a.form
  refine V (R_slEqNil Tryz.underlying54 rfl rfl) (LW_nil (sq_n ?_))
  rcases x with _ | y
  · have t := a.isNil
    replace hm : some [] = some r := by rw [t] at hm; simpa [appB, maxLen] using hm
    refine CW_if_true (rfl) (CW_seq (CW_region (V (R_assign rfl) (LW_nil (sq_n (CW_ret (sq_r ?_)))))))
    replace hm := Option.some.inj hm; subst hm
    exact retQ_1 (v := (.slice none 0 0)) rfl rfl ⟨_, [], rfl, hST.backRow (fun p hq => by cases hq) (by simp), Row.nil _ _ _⟩
  · refine CW_if_false (rfl) (CW_skip (sq_n (CW_seq (CW_region (VE (E_buildSlice (qs := #[]) (cs := #[]) hST parts0 (run_lit [] Tryz.underlying54 Tryz.sizeOf5 Tryz.zeroValue5 (by decide) rfl (by simp) rfl rfl) (fun D j hST => V (R_move rfl) ?_)))))))
    obtain ⟨G, k, hm⟩ := bind_some hm
    refine VE (F_append (enc := (encIk .u8)) (v := (.slice (some ⟨j, 0, none⟩) 0 0)) (vs := (.slice (some y) g.length z)) (R := [(j, Obj.cells (#[] : Array Value) 5 (0, 0))]) hST (fun _ => rfl) (by decide) (oneI _) Tryz.underlying54 info5.1 info5.2.1 rfl info5.2.2.1 info5.2.2.2 rfl rfl (Row.lit (l := []) (enc := (encIk .u8)) rfl (by decide) rfl rfl) (a.mono (Pl.mono _) hST.sub_hp) k (fun B u i hST c => V (R_assign rfl) (LW_nil (sq_n (CW_ret ?_)))))
    replace hm := Option.some.inj hm; subst hm
    exact retQ_1 (v := u) rfl rfl ⟨_, i, rfl, hST.backRow (fun p hq => (Ml hq)) c.nd, c⟩
theorem w_keys_New (Z : Value) (a0 : List Key) (r : (((Option KeysRegistry)) × Int)) (w : World) {μ0 : Mem} (h0 : Ent μ0 [] w) (a7 : Sl relKey 2 μ0 Z a0) (hm : m_keys_New a0 = some r) :
    GivesD true Tryz.prog 49 [Z] w μ0 [] (fun v L1 μ1 => ∃ (y1 : Value), v = (.tuple #[y1, (.int .i64 (r.2))]) ∧ L1 = [] ∧ OptR relKeysRegistry μ1 y1 r.1) := by
  have hST := ST.startE (dd := true) h0
  unfold m_keys_New at hm
  refine calls_of_CW (n := 57) Tryz.func49 rfl rfl (Nat.le_of_ble_eq_true rfl) (CW_seq (CW_region (V (R_assign rfl) (V (R_assign rfl) (LW_nil (sq_n (CW_seq (CW_region (VE (E_makeMapD (P := Tryz.prog) Value.string (Row 5 (encIk .u8) 1) hST (fun W1 v4 R2 hST d3 => ?_)))))))))))
  obtain ⟨m5, rfl⟩ := d3.form
  refine V (R_build (qs := #[(0, (.map (some m5)))]) (v := (.agg #[(.map (some m5))])) (parts1 rfl) (run_build Tryz.zeroValue212 Tryz.underlying212 (pl212 _ Tryz.underlying212) (by kernel_rfl))) (VE (E_box (v := (.agg #[(.map (some m5))])) hST rfl (fun W7 b6 hST => V (R_assign rfl) (LW_nil (sq_n (CW_seq (CW_seq (CW_region (V (R_move rfl) (V (R_len Tryz.underlying49 rfl a7) (V (R_move rfl) (LW_nil (sq_n (CW_range (fun i E W => ∃ (x : List (ByteArray × (List Int))) (G : List (Nat × Obj)) (y : Mem) (a5 : List (Nat × Obj)), (E 14 = .int .i64 (i : Nat) ∧ E 13 = .int .i64 (a0.length : Nat)) ∧ Sub μ0 y ∧ Lo (keys []) w μ0 y ∧ ST true (keys []) w W y ((b6, Obj.cells (#[(.map (some m5))] : Array Value) 212 (0, 0)) :: (G ++ a5)) ∧ E 4 = (.pointer (some ⟨b6, 0, none⟩)) ∧ E 12 = Z ∧ DeepE Value.string (Row 5 (encIk .u8) 1) (.map (some m5)) x G ∧ m_keys_New_L1 (a0.drop i) x = some r) a0.length a7.len ⟨([]), R2, μ0, _, ⟨rfl, rfl⟩, (Sub.refl _), Lo.refl, (hST.sel St), rfl, rfl, d3, hm⟩ (by decide) (by decide) (by decide) (fun _ _ _ h => by obtain ⟨_, _, _, _, eIN, _⟩ := h; exact eIN) ?_ ?_))))))))))))))
  · rintro b9 E W c2 ⟨x, G, y, a5, ⟨eI, eN⟩, t, hl495, hST, I, M, Y, c⟩
    obtain ⟨f, d2, d0, c9, d1⟩ := drop_cons c2
    rw [d0] at c
    rw [m_keys_New_L1] at c
    refine CW_block (CW_seq (CW_region (VQ (R_indexD (i := (b9 : Int)) (x0 := f) relKey.out Tryz.underlying49 Tryz.sizeOf196 M eI (a7.mono dKey.mono t) (Int.natCast_nonneg _) c9) (fun f6 ⟨_, ⟨f8, rfl, B⟩, c3⟩ => V (R_load rfl (load_atA hST.has c3 Tryz.isAgg196 Tryz.sizeOf196)) (VE (E_alloc hST Tryz.zeroValue196 (fun f0 b4 hST => ?_)))))))
    obtain ⟨D, H, rfl⟩ := B.form
    refine VO (F_store (.agg #[(.string f.Who), (.slice D f.Key.length H)]) (#[(.string f.Who), (.slice D f.Key.length H)]) hST rfl rfl Tryz.sizeOf196 (by simp [Value.cells, Value.oneCell']) (Nat.le_of_ble_eq_true rfl) rfl (fun f1 hST => LW_nil (sq_n (CW_seq ?_))))
    replace hST := hST.drew
    have hS0 := hST.has.sel (Kb (Kb (Kr Sn)))
    refine PX_start1 hS0 Tryz_mixed (X 0 rfl hS0 (R_move I) (X 1 rfl hS0 (R_nilCheck rfl) (X 2 rfl hS0 (R_field fa212_0 rfl) (XH 3 rfl hS0 (fun _ hS => R_load rfl (load_box1 hS (Mt Mh) rfl Tryz.isAgg210)) (X 4 rfl hS0 (R_field fa196_0 rfl) (XH 5 rfl hS0 (fun _ hS => R_load rfl (load_box1 hS Mh rfl Tryz.isAgg9)) ?_))))))
    obtain ⟨e5, U⟩ := Y
    obtain ⟨e8, e3, e4⟩ := DeepV.rowAt beqS_iff.1 U f.Who
    refine XH 6 rfl hS0 (fun _ hS => R_lookupOkDeep (k := f.Who) (z := (.slice none 0 0)) kl9 Tryz.underlying210 Tryz.zeroValue54 rfl rfl U (fun b o hq => hS.2 b o (Mt (Mt (Ml hq))))) (X 7 rfl hS0 (R_move rfl) (X 8 rfl hS0 (R_extract rfl rfl) (X 9 rfl hS0 (R_extract rfl rfl) (X 10 rfl hS0 (R_assign rfl) (X 11 rfl hS0 (R_assign rfl) (PX_done (by kernel_rfl) (sq_n (CW_seq (CW_block (CW_seq (CW_region (V (R_field fa196_0 rfl) (V (R_load rfl (load_box1 hST.has Mh rfl Tryz.isAgg9)) ?_)))))))))))))
    obtain ⟨e0, c6, c⟩ := bind_some c
    refine VE (E_gives (args := [(.string f.Who)]) hST rfl Tryz.call152 (by exact args1 rfl) ((w_name_Right f.Who _ _  c6)) (fun f2 hST => V (R_not rfl) (V (R_assign rfl) (LW_nil (sq_n (CW_if (b := (!e0)) rfl (fun N => ?_) (fun N => ?_)))))))
    · replace c := if_t N c
      refine CW_seq (CW_region (V (R_assign rfl) (V (R_assign rfl) (LW_nil (sq_n ?_)))))
      replace hST := hST.sel (Db (Db (Dr St)))
      refine CW_ret (bq_r (sq_r (bq_r (sq_r (bq_r (sq_r ?_))))))
      replace c := Option.some.inj c; subst c
      exact retQ_2 (v := (.pointer none)) (u := (.int .i64 30)) rfl rfl rfl ⟨_, _, _, rfl, (hST.bkM Sn), t, hl495, (ST.sub_hpx hST (Sel.mem Sn)), (.pointer none), rfl, rfl, OptR.nil⟩
    replace c := if_f N c
    refine CW_seq (CW_region (V (R_field fa196_1 rfl) (V (R_load rfl (load_box1 hST.has Mh rfl Tryz.isAgg54)) (V (R_len Tryz.underlying54 rfl B) (V (R_int rfl rfl rfl) (V (R_move rfl) ?_))))))
    obtain ⟨f7, j, b0⟩ := bind_some c
    refine LW_join (J := fun E W => ∃ (a1 : Bool) (b3 : List (Nat × Obj)), ST true (keys []) w W y ((b4, Obj.cells (#[(.string f.Who), (.slice D f.Key.length H)] : Array Value) 196 (0, 0)) :: ((b6, Obj.cells (#[(.map (some m5))] : Array Value) 212 (0, 0)) :: (G ++ b3))) ∧ E 4 = (.pointer (some ⟨b6, 0, none⟩)) ∧ E 6 = (.pointer (some ⟨b4, 0, none⟩)) ∧ E 8 = (.bool ((mget beqS x f.Who).isSome)) ∧ E 12 = Z ∧ E 13 = (.int .i64 ((a0.length : Int))) ∧ E 14 = (.int .i64 ((b9 : Int))) ∧ E 43 = (.bool a1) ∧ (if a1 then some (none, 21) else (if (mget beqS x f.Who).isSome then some (none, 41) else (((m_bytes_Clone f.Key)).bind fun a9 => (((mnew beqS x f.Who a9)).bind fun a8 => (m_keys_New_L1 d2 a8))))) = some r) 5 ?_ (fun a3 => ?_)
    · rintro E W ⟨a1, b3, hST, b5, b7, d5, d6, d7, d8, d9, a⟩
      refine V (R_assign d9) (LW_nil (sq_n (CW_if (b := a1) rfl (fun Q => ?_) (fun Q => ?_))))
      · replace a := if_t Q a
        refine CW_seq (CW_region (V (R_assign rfl) (V (R_assign rfl) (LW_nil (sq_n ?_)))))
        replace hST := hST.sel (Db (Db (Dr St)))
        refine CW_ret (bq_r (sq_r (bq_r (sq_r (bq_r (sq_r ?_))))))
        replace a := Option.some.inj a; subst a
        exact retQ_2 (v := (.pointer none)) (u := (.int .i64 21)) rfl rfl rfl ⟨_, _, _, rfl, (hST.bkM Sn), t, hl495, (ST.sub_hpx hST (Sel.mem Sn)), (.pointer none), rfl, rfl, OptR.nil⟩
      replace a := if_f Q a
      refine CW_seq (CW_region (V (R_move d5) (V (R_assign rfl) (LW_nil (sq_n (CW_if (b := (mget beqS x f.Who).isSome) rfl (fun T => ?_) (fun T => ?_)))))))
      · replace a := if_t T a
        refine CW_seq (CW_region (V (R_assign rfl) (V (R_assign rfl) (LW_nil (sq_n ?_)))))
        replace hST := hST.sel (Db (Db (Dr St)))
        refine CW_ret (bq_r (sq_r (bq_r (sq_r (bq_r (sq_r ?_))))))
        replace a := Option.some.inj a; subst a
        exact retQ_2 (v := (.pointer none)) (u := (.int .i64 41)) rfl rfl rfl ⟨_, _, _, rfl, (hST.bkM Sn), t, hl495, (ST.sub_hpx hST (Sel.mem Sn)), (.pointer none), rfl, rfl, OptR.nil⟩
      replace a := if_f T a
      refine CW_skip (bq_n (sq_n ?_))
      replace hST := hST.drew
      have hS0 := hST.has.sel (Kb (Kb Sn))
      refine PX_start1 hS0 Tryz_mixed (X 0 rfl hS0 (R_move b5) (X 1 rfl hS0 (R_nilCheck rfl) (X 2 rfl hS0 (R_field fa212_0 rfl) (XH 3 rfl hS0 (fun _ hS => R_load rfl (load_box1 hS (Mt Mh) rfl Tryz.isAgg210)) (X 4 rfl hS0 (R_field fa196_0 b7) (XH 5 rfl hS0 (fun _ hS => R_load rfl (load_box1 hS Mh rfl Tryz.isAgg9)) (X 6 rfl hS0 (R_field fa196_1 b7) (XH 7 rfl hS0 (fun _ hS => R_load rfl (load_box1 hS Mh rfl Tryz.isAgg54)) ?_))))))))
      obtain ⟨a9, c7, a⟩ := bind_some a
      refine XE 8 rfl (F_givesRow (args := [(.slice D f.Key.length H)]) _ hST rfl Tryz.call153 (by exact args1 rfl) ((w_bytes_Clone (.slice D f.Key.length H) f.Key _ _ (B.mono (Pl.mono _) hST.sub_hp) c7)) (fun f3 f9 e1 e9 hST K hl573 c0 => ?_))
      have hS0 := hST.has.selS K (Dr (Kb (Kb Sn)))
      refine ⟨hS0, ?_⟩
      replace hST := hST.perm (Nr (Qr (Qb (Qb Qz))) Nz)
      obtain ⟨a8, c8, a⟩ := bind_some a
      refine XO 9 rfl (F_newDeep (k := f.Who) (z := a9)  kl9 Tryz.underlying210 hST U rfl rfl rfl c0 c8 (fun f4 d4 hST c1 => ?_))
      have hS0 := hST.has.selS K (Dr (Kb (Kb Sn)))
      refine ⟨hS0, (PX_done (by kernel_rfl) (bq_n (sq_n ?_)))⟩
      replace hST := hST.sel (Kr (Db St))
      exact ⟨d8, a8, d4, e1, _, ⟨rfl, d7⟩, (t.trans K), (hl495.trans hl573), (hST.sel (Sb (Pr Pz) St)), b5, d6, c1.e, (by rw [d1]; exact a)⟩
    rcases bool_cases ((decide (((f.Key.length : Int)) < 1))) with g | g
    · replace j := if_t g j
      refine Vn rfl (congrArg Value.bool g) (Vn rfl (congrArg Value.bool g) (Vn rfl (congrArg Value.bool g) (Vn rfl (congrArg Value.bool g) (V (R_pickT (congrArg Value.bool g) rfl) ?_))))
      replace j := Option.some.inj j; subst j
      exact a3 _ _ ⟨true, _, (hST.sel St), I, rfl, rfl, M, eN, eI, rfl, b0⟩
    replace j := if_f g j
    refine Vg rfl (congrArg Value.bool g) (R_field fa196_1 rfl) (Vg rfl (congrArg Value.bool g) (R_load rfl (load_box1 hST.has Mh rfl Tryz.isAgg54)) (Vg rfl (congrArg Value.bool g) (R_len Tryz.underlying54 rfl B) (Vg rfl (congrArg Value.bool g) (R_int rfl rfl rfl) (V (R_pickF (congrArg Value.bool g) rfl) ?_))))
    replace j := Option.some.inj j; subst j
    exact a3 _ _ ⟨((decide (((f.Key.length : Int)) > 32))), _, (hST.sel St), I, rfl, rfl, M, eN, eI, rfl, b0⟩
  rintro E W ⟨x, G, y, a5, ⟨eI, eN⟩, t, hl495, hST, I, M, Y, c⟩
  rw [List.drop_length] at c
  rw [m_keys_New_L1] at c
  refine sq_n (CW_seq (CW_region (V (R_move I) (V (R_assign rfl) (V (R_assign rfl) (LW_nil (sq_n (CW_ret ?_))))))))
  replace c := Option.some.inj c; subst c
  refine retQ_2 (v := (.pointer (some ⟨b6, 0, none⟩))) (u := (.int .i64 0)) rfl rfl rfl ?_
  replace hST := hST.perm (Nr (Qb Qz) Nz)
  obtain ⟨g1, hST, b8, hl588, c4⟩ := ST.pubAll hST
  obtain ⟨g2, hST, a2, hl592, c5⟩ := ST.pubAll (R := [(b6, Obj.cells (#[(.map (some m5))] : Array Value) 212 (0, 0))]) hST
  exact ⟨_, _, _, rfl, (hST.bkM Sn), ((t.trans b8).trans a2), ((hl495.trans hl588).trans hl592), (ST.sub_hpx hST (Sel.mem Sn)), (.pointer (some ⟨b6, 0, none⟩)), rfl, rfl, (OptR.some (At.of (c5 _ _ (.head _)) _ rfl) (relKeysRegistry.mk ⟨(.map (some m5)), rfl, ((Y.at c4).mono a2)⟩))⟩
theorem w_role_Right (f : Role) (r : Bool) (w : World)  (hm : m_role_Right f = some r) :
    Gives true Tryz.prog 254 [(.agg (encRole f).toArray)] w (.bool r) := by
  have hST := ST.start (dd := true) w
  unfold m_role_Right at hm
  refine calls_of_CW (n := 11) Tryz.func254 rfl rfl (Nat.le_of_ble_eq_true rfl) (CW_seq (CW_region (VE (E_box (v := (.agg (encRole f).toArray)) hST rfl (fun I M hST => V (R_assign rfl) (LW_nil (sq_n (CW_seq (CW_region (V (R_field fa28_0 rfl) (V (R_load rfl (load_box1 hST.has Mh rfl Tryz.isAgg9)) ?_)))))))))))
  obtain ⟨B, y, hm⟩ := bind_some hm
  refine VE (E_gives (args := [(.string f.Owner)]) hST rfl Tryz.call152 (by exact args1 rfl) ((w_name_Right f.Owner _ _  y)) (fun K hST => V (R_move rfl) ?_))
  obtain ⟨H, a, k⟩ := bind_some hm
  refine LW_join (J := fun E W => ∃ (j : Bool) (t : List (Nat × Obj)), ST true NoF w W (hp w) t ∧ E 2 = (.bool false) ∧ E 10 = (.bool j) ∧ some j = some r) 4 ?_ (fun i => ?_)
  · rintro E W ⟨j, t, hST, G, x, g⟩
    refine V (R_assign x) (LW_nil (sq_n (CW_ret ?_)))
    replace g := Option.some.inj g; subst g
    exact retQ_1 (v := (.bool j)) rfl rfl ⟨rfl, hST.ex⟩
  rcases bool_cases B with c | c
  · replace a := if_t c a
    refine Vg rfl (congrArg Value.bool c) (R_field fa28_1 rfl) (Vg rfl (congrArg Value.bool c) (R_load rfl (load_box1 hST.has Mh rfl Tryz.isAgg9)) ?_)
    obtain ⟨z, u, a⟩ := bind_some a
    refine VgE rfl (congrArg Value.bool c) (E_gives (args := [(.string f.Word)]) hST rfl Tryz.call152 (by exact args1 rfl) ((w_name_Right f.Word _ _  u)) (fun D hST => V (R_pickT (congrArg Value.bool c) rfl) ?_))
    replace a := Option.some.inj a; subst a
    exact i _ _ ⟨z, _, (hST.sel (Db St)), rfl, rfl, k⟩
  replace a := if_f c a
  refine Vn rfl (congrArg Value.bool c) (Vn rfl (congrArg Value.bool c) (Vn rfl (congrArg Value.bool c) (V (R_pickF (congrArg Value.bool c) rfl) ?_)))
  replace a := Option.some.inj a; subst a
  exact i _ _ ⟨false, _, (hST.sel (Db St)), rfl, rfl, k⟩
theorem ext380 (w : World) (a b : ByteArray) : (callFunc 380 [Value.string a, .string b].toArray).run Tryz.prog w = .ok (.value (.int .i64 (xCompareS a b))) w := run_cmpS Tryz.func380 (by kernel_rfl) (by kernel_rfl) (by kernel_rfl) (by kernel_rfl) a b w
theorem w_internal_bytealg_CompareString (a : ByteArray) (c : ByteArray) (r : Int) (w : World)  (hm : m_internal_bytealg_CompareString a c = some r) :
    Gives true Tryz.prog 330 [(.string a), (.string c)] w (.int .i64 r) := by
  have hST := ST.start (dd := true) w
  unfold m_internal_bytealg_CompareString at hm
  refine calls_of_CW (n := 8) Tryz.func330 rfl rfl (Nat.le_of_ble_eq_true rfl) (CW_seq (CW_region (V (R_assign rfl) (LW_nil (sq_n (CW_seq (CW_region (V (R_move rfl) (V (R_move rfl) (VE (E_ext (args := [(.string a), (.string c)]) (v := .int .i64 (xCompareS a c)) rfl (by exact args2 rfl rfl) (ext380 _ a c) (V (R_assign rfl) (LW_nil (sq_n (CW_ret ?_)))))))))))))))
  replace hm := Option.some.inj hm; subst hm
  exact retQ_1 (v := (.int .i64 ((xCompareS a c)))) rfl rfl ⟨rfl, hST.ex⟩
theorem w_strings_Compare (a : ByteArray) (c : ByteArray) (r : Int) (w : World)  (hm : m_strings_Compare a c = some r) :
    Gives true Tryz.prog 239 [(.string a), (.string c)] w (.int .i64 r) := by
  have hST := ST.start (dd := true) w
  unfold m_strings_Compare at hm
  refine calls_of_CW (n := 8) Tryz.func239 rfl rfl (Nat.le_of_ble_eq_true rfl) (CW_seq (CW_region (V (R_assign rfl) (LW_nil (sq_n (CW_seq (CW_region (V (R_move rfl) (V (R_move rfl) ?_)))))))))
  obtain ⟨g, f, hm⟩ := bind_some hm
  refine VE (E_gives (args := [(.string a), (.string c)]) hST rfl Tryz.call330 (by exact args2 rfl rfl) ((w_internal_bytealg_CompareString a c _ _  f)) (fun i hST => V (R_assign rfl) (LW_nil (sq_n (CW_ret ?_)))))
  replace hm := Option.some.inj hm; subst hm
  exact retQ_1 (v := (.int .i64 g)) rfl rfl ⟨rfl, hST.ex⟩
theorem w_cmp_Or_int (g : Value) (u : List Int) (r : Int) (w : World) (c : Sl (Pl (encIk .i64)) 1 (hp w) g u) (hm : m_cmp_Or_int u = some r) :
    Gives true Tryz.prog 238 [g] w (.int .i64 r) := by
  have hST := ST.start (dd := true) w
  unfold m_cmp_Or_int at hm
  refine calls_of_CW (n := 18) Tryz.func238 rfl rfl (Nat.le_of_ble_eq_true rfl) (CW_seq (CW_region (V (R_assign rfl) (LW_nil (sq_n (CW_seq (CW_region (V (R_assign rfl) (LW_nil (sq_n (CW_seq (CW_seq (CW_region (V (R_move rfl) ?_))))))))))))))
  refine V (R_len Tryz.underlying256 rfl c) (V (R_move rfl) (LW_nil (sq_n (CW_range (fun i E W => ∃  (t : List (Nat × Obj)), (E 8 = .int .i64 (i : Nat) ∧ E 7 = .int .i64 (u.length : Nat)) ∧ ST true NoF w W (hp w) t ∧ E 3 = (.int .i64 0) ∧ E 6 = g ∧ m_cmp_Or_int_L1 (u.drop i) = some r) u.length c.len ⟨_, ⟨rfl, rfl⟩, (hST.sel St), rfl, rfl, hm⟩ (by decide) (by decide) (by decide) (fun _ _ _ h => by obtain ⟨_, eIN, _⟩ := h; exact eIN) ?_ ?_))))
  · rintro I E W z ⟨t, ⟨eI, eN⟩, hST, j, x, a⟩
    obtain ⟨k, J, G, D, H⟩ := drop_cons z
    rw [G] at a
    rw [m_cmp_Or_int_L1] at a
    refine CW_block (CW_seq (CW_region (VQ (R_indexP (enc := (encIk .i64)) (i := (I : Int)) (x0 := k) Tryz.underlying256 Tryz.sizeOf3 x eI c (Int.natCast_nonneg _) D) (fun K B => V (R_load rfl (load_at1 hST.has (y := (.int .i64 k)) B Tryz.isAgg3)) (V (R_assign rfl) (LW_nil (sq_n (CW_seq (CW_region (V (R_move rfl) (V (R_move j) (V (R_int rfl rfl rfl) (LW_nil (sq_n ?_))))))))))))))
    refine CW_if (b := (k != 0)) rfl (fun f => ?_) (fun f => ?_)
    · replace a := if_t f a
      refine CW_seq (CW_region (V (R_move rfl) (V (R_assign rfl) (LW_nil (sq_n (CW_ret (bq_r (sq_r (bq_r (sq_r ?_))))))))))
      replace a := Option.some.inj a; subst a
      exact retQ_1 (v := (.int .i64 k)) rfl rfl ⟨rfl, hST.ex⟩
    replace a := if_f f a
    exact CW_skip (bq_n (sq_n ⟨eI, _, ⟨rfl, eN⟩, (hST.sel St), j, x, (by rw [H]; exact a)⟩))
  rintro E W ⟨t, ⟨eI, eN⟩, hST, j, x, a⟩
  rw [List.drop_length] at a
  rw [m_cmp_Or_int_L1] at a
  refine sq_n (CW_seq (CW_region (V (R_move j) (V (R_assign rfl) (LW_nil (sq_n (CW_ret ?_)))))))
  replace a := Option.some.inj a; subst a
  exact retQ_1 (v := (.int .i64 0)) rfl rfl ⟨rfl, hST.ex⟩
theorem w_role_Compare (f : Role) (g : Role) (r : Int) (w : World)  (hm : m_role_Compare f g = some r) :
    Gives true Tryz.prog 123 [(.agg (encRole f).toArray), (.agg (encRole g).toArray)] w (.int .i64 r) := by
  have hST := ST.start (dd := true) w
  unfold m_role_Compare at hm
  refine calls_of_CW (n := 17) Tryz.func123 rfl rfl (Nat.le_of_ble_eq_true rfl) (CW_seq (CW_region (VE (E_box (v := (.agg (encRole f).toArray)) hST rfl (fun D H hST => VE (E_box (v := (.agg (encRole g).toArray)) hST rfl (fun G I hST => V (R_assign rfl) (LW_nil (sq_n (CW_seq ?_))))))))))
  replace hST := hST.drew
  have hS0 := hST.has.sel (Kb (Kb Sn))
  refine PX_start1 hS0 Tryz_mixed (X 0 rfl hS0 (R_field fa28_0 rfl) (XH 1 rfl hS0 (fun _ hS => R_load rfl (load_box1 hS (Mt Mh) rfl Tryz.isAgg9)) (X 2 rfl hS0 (R_field fa28_0 rfl) (XH 3 rfl hS0 (fun _ hS => R_load rfl (load_box1 hS Mh rfl Tryz.isAgg9)) (X 5 rfl hS0 (R_field fa28_1 rfl) (XH 6 rfl hS0 (fun _ hS => R_load rfl (load_box1 hS (Mt Mh) rfl Tryz.isAgg9)) (X 7 rfl hS0 (R_field fa28_1 rfl) (XH 8 rfl hS0 (fun _ hS => R_load rfl (load_box1 hS Mh rfl Tryz.isAgg9)) ?_))))))))
  obtain ⟨a, j, hm⟩ := bind_some hm
  refine XE 4 rfl (E_gives (args := [(.string f.Owner), (.string g.Owner)]) hST rfl Tryz.call239 (by exact args2 rfl rfl) ((w_strings_Compare f.Owner g.Owner _ _  j)) (fun x hST => ?_))
  have hS0 := hST.has.sel (Kb (Kb Sn))
  refine ⟨hS0, ?_⟩
  obtain ⟨c, k, hm⟩ := bind_some hm
  refine XE 9 rfl (E_gives (args := [(.string f.Word), (.string g.Word)]) hST rfl Tryz.call239 (by exact args2 rfl rfl) ((w_strings_Compare f.Word g.Word _ _  k)) (fun y hST => ?_))
  have hS0 := hST.has.sel (Kb (Kb Sn))
  refine ⟨hS0, (XE 10 rfl (E_buildSlice (qs := #[(0, (.int .i64 a)), (1, (.int .i64 c))]) (cs := #[(.int .i64 a), (.int .i64 c)]) hST (parts2 rfl rfl) (run_lit [(.int .i64 a), (.int .i64 c)] Tryz.underlying256 Tryz.sizeOf3 Tryz.zeroValue3 (by decide) rfl (by intro v hv; simp only [List.mem_cons, List.not_mem_nil, or_false] at hv; rcases hv with rfl | rfl <;> rfl) rfl rfl) (fun z i hST => ?_)))⟩
  have hS0 := hST.has.sel (Db (Kb (Kb Sn)))
  refine ⟨hS0, ?_⟩
  obtain ⟨u, t, hm⟩ := bind_some hm
  refine XE 11 rfl (E_gives (args := [(.slice (some ⟨i, 0, none⟩) 2 2)]) hST rfl Tryz.call238 (by exact args1 rfl) ((w_cmp_Or_int (.slice (some ⟨i, 0, none⟩) 2 2) ([a, c]) _ _ (Sl.lit (enc := (encIk .i64)) (l := [a, c]) (fun _ => rfl) rfl (Nat.le_of_ble_eq_true rfl) rfl (hST.at_ Mh)) t)) (fun B hST => ?_))
  have hS0 := hST.has.sel (Db (Kb (Kb Sn)))
  refine ⟨hS0, (X 12 rfl hS0 (R_assign rfl) (PX_done (by kernel_rfl) (sq_n ?_)))⟩
  replace hST := hST.sel (Db (Db (Db St)))
  refine CW_ret ?_
  replace hm := Option.some.inj hm; subst hm
  exact retQ_1 (v := (.int .i64 u)) rfl rfl ⟨rfl, hST.ex⟩
theorem w_cred_Right (a : Cred) (r : Bool) (w : World)  (hm : m_cred_Right a = some r) :
    Gives true Tryz.prog 137 [(.agg (encCred a).toArray)] w (.bool r) := by
  have hST := ST.start (dd := true) w
  unfold m_cred_Right at hm
  refine calls_of_CW (n := 98) Tryz.func137 rfl rfl (Nat.le_of_ble_eq_true rfl) (CW_seq (CW_region (VE (E_box (v := (.agg (encCred a).toArray)) hST rfl (fun W2 U hST => V (R_assign rfl) (LW_nil (sq_n (CW_seq (CW_region (V (R_field fa53_0 rfl) (V (R_load rfl (load_box1 hST.has Mh rfl Tryz.isAgg3)) (V (R_field fa53_1 rfl) (V (R_load rfl (load_boxA hST.has Mh (encRole a.Head) rfl Tryz.isAgg28 Tryz.sizeOf28)) (V (R_build (qs := #[(0, (.int .i64 a.Kind)), (1, (.agg (encRole a.Head).toArray))]) (v := (.agg (encCred ((⟨a.Kind, a.Head, zS, (⟨zS, zS⟩ : Role), (⟨zS, zS⟩ : Role), zS⟩ : Cred))).toArray)) (parts2 rfl rfl) (run_build Tryz.zeroValue53 Tryz.underlying53 (pl53 _ Tryz.underlying53) (by kernel_rfl))) (VE (E_alloc hST Tryz.zeroValue53 (fun W4 T hST => ?_)))))))))))))))))
  refine VO (F_store (.agg (encCred ((⟨a.Kind, a.Head, zS, (⟨zS, zS⟩ : Role), (⟨zS, zS⟩ : Role), zS⟩ : Cred))).toArray) ((encCred ((⟨a.Kind, a.Head, zS, (⟨zS, zS⟩ : Role), (⟨zS, zS⟩ : Role), zS⟩ : Cred))).toArray) hST rfl rfl Tryz.sizeOf53 (oneCred ((⟨a.Kind, a.Head, zS, (⟨zS, zS⟩ : Role), (⟨zS, zS⟩ : Role), zS⟩ : Cred))) (Nat.le_of_ble_eq_true rfl) rfl (fun W5 hST => LW_nil (sq_n (CW_seq (CW_region (V (R_field fa53_1 rfl) (V (R_load rfl (load_boxA hST.has (Mt Mh) (encRole a.Head) rfl Tryz.isAgg28 Tryz.sizeOf28)) ?_)))))))
  obtain ⟨r6, k6, hm⟩ := bind_some hm
  refine VE (E_gives (args := [(.agg (encRole a.Head).toArray)]) hST rfl Tryz.call254 (by exact args1 rfl) ((w_role_Right a.Head _ _  k6)) (fun W8 hST => V (R_assign rfl) (LW_nil (sq_n (CW_seq ?_)))))
  obtain ⟨Y, c, Q⟩ := bind_some hm
  refine CW_cut (fun E W => ∃ (c2 : Bool) (a2 : Cred) (e8 : List (Nat × Obj)), ST true NoF w W (hp w) ((T, Obj.cells ((encCred a2).toArray : Array Value) 53 (0, 0)) :: ((U, Obj.cells ((encCred a).toArray : Array Value) 53 (0, 0)) :: e8)) ∧ E 1 = (.pointer (some ⟨U, 0, none⟩)) ∧ E 3 = (.pointer (some ⟨T, 0, none⟩)) ∧ E 4 = (.bool c2) ∧ (((if c2 then some ((beqCred a2 a)) else some false) : Option Bool).bind fun a3 => some a3) = some r) ?_ ?_
  · refine CW_seq (CW_region (V (R_field fa53_0 rfl) (V (R_load rfl (load_box1 hST.has (Mt Mh) rfl Tryz.isAgg3)) (LW_nil (sq_n (CW_block (CW_seq (CW_region (V (R_int rfl rfl rfl) (V (R_assign rfl) (LW_nil (sq_n (CW_if (b := (a.Kind == 1)) rfl (fun b2 => ?_) (fun b2 => ?_))))))))))))))
    · replace c := if_t b2 c
      replace hST := hST.drew
      have hS0 := hST.has.sel (Db (Kb Sn))
      refine PX_start1 hS0 Tryz_mixed (X 0 rfl hS0 (R_field fa53_2 rfl) (XH 1 rfl hS0 (fun _ hS => R_load rfl (load_box1 hS Mh rfl Tryz.isAgg9)) (X 2 rfl hS0 (R_move rfl) (X 3 rfl hS0 (R_move rfl) (X 8 rfl hS0 (R_field fa53_2 rfl) ?_)))))
      obtain ⟨m5, i, e0⟩ := bind_some c
      refine PX_join (J := fun E W => ∃ (c3 : Bool) (f0 : List (Nat × Obj)), ST true NoF w W (hp w) ((T, Obj.cells ((encCred ((⟨a.Kind, a.Head, zS, (⟨zS, zS⟩ : Role), (⟨zS, zS⟩ : Role), zS⟩ : Cred))).toArray : Array Value) 53 (0, 0)) :: ((U, Obj.cells ((encCred a).toArray : Array Value) 53 (0, 0)) :: f0)) ∧ E 1 = (.pointer (some ⟨U, 0, none⟩)) ∧ E 3 = (.pointer (some ⟨T, 0, none⟩)) ∧ E 4 = (.bool r6) ∧ E 18 = (.string a.Who) ∧ E 24 = (.bool c3) ∧ E 25 = (.pointer (some ⟨T, 3, none⟩)) ∧ some (Sum.inr (c3, ((⟨a.Kind, a.Head, a.Who, (⟨zS, zS⟩ : Role), (⟨zS, zS⟩ : Role), zS⟩ : Cred)))) = some Y) #[true, true, true, true, true, true, true, true, true, false, false] 2 ?_ (fun c8 => ?_)
      · rintro E W ⟨c3, f0, hST, i2, i3, m0, i4, i5, i6, b8⟩
        have hS0 := hST.has.sel (Db (Kb Sn))
        refine XO 9 rfl (F_store (.string a.Who) ((encCred ((⟨a.Kind, a.Head, a.Who, (⟨zS, zS⟩ : Role), (⟨zS, zS⟩ : Role), zS⟩ : Cred))).toArray) hST i6 i4 Tryz.sizeOf9 (oneS a.Who) (Nat.le_of_ble_eq_true rfl) rfl (fun k7 hST => ?_))
        have hS0 := hST.has.sel (Db (Kb Sn))
        refine ⟨hS0, (X 10 rfl hS0 (R_assign i5) (PX_done (by kernel_rfl) (bq_n (sq_n ?_))))⟩
        replace b8 := Option.some.inj b8; subst b8
        exact ⟨c3, ((⟨a.Kind, a.Head, a.Who, (⟨zS, zS⟩ : Role), (⟨zS, zS⟩ : Role), zS⟩ : Cred)), _, (hST.sel St), i2, i3, rfl, Q⟩
      rcases bool_cases r6 with B | B
      · replace i := if_t B i
        refine Xg 4 rfl rfl (congrArg Value.bool B) hS0 (R_field fa53_2 rfl) (XgH 5 rfl rfl (congrArg Value.bool B) hS0 (fun _ hS => R_load rfl (load_box1 hS Mh rfl Tryz.isAgg9)) ?_)
        obtain ⟨k2, h1, i⟩ := bind_some i
        refine XgE 6 rfl rfl (congrArg Value.bool B) (E_gives (args := [(.string a.Who)]) hST rfl Tryz.call152 (by exact args1 rfl) ((w_name_Right a.Who _ _  h1)) (fun k8 hST => ?_))
        have hS0 := hST.has.sel (Db (Kb Sn))
        refine ⟨hS0, (X 7 rfl hS0 (R_pickT (congrArg Value.bool B) rfl) ?_)⟩
        replace i := Option.some.inj i; subst i
        refine PX_at (by kernel_rfl) (c8 _ _ ⟨k2, _, (hST.sel St), rfl, rfl, rfl, rfl, rfl, rfl, e0⟩)
      replace i := if_f B i
      refine Xn 4 rfl rfl (congrArg Value.bool B) hS0 (Xn 5 rfl rfl (congrArg Value.bool B) hS0 (Xn 6 rfl rfl (congrArg Value.bool B) hS0 (X 7 rfl hS0 (R_pickF (congrArg Value.bool B) rfl) ?_)))
      replace i := Option.some.inj i; subst i
      refine PX_at (by kernel_rfl) (c8 _ _ ⟨false, _, (hST.sel St), rfl, rfl, rfl, rfl, rfl, rfl, e0⟩)
    replace c := if_f b2 c
    refine CW_seq (CW_region (V (R_int rfl rfl rfl) (V (R_assign rfl) (LW_nil (sq_n (CW_if (b := (a.Kind == 2)) rfl (fun b4 => ?_) (fun b4 => ?_)))))))
    · replace c := if_t b4 c
      replace hST := hST.drew
      have hS0 := hST.has.sel (Db (Kb Sn))
      refine PX_start1 hS0 Tryz_mixed (X 0 rfl hS0 (R_field fa53_3 rfl) (XH 1 rfl hS0 (fun _ hS => R_load rfl (load_boxA hS Mh (encRole a.B) rfl Tryz.isAgg28 Tryz.sizeOf28)) (X 2 rfl hS0 (R_move rfl) (X 3 rfl hS0 (R_move rfl) (X 8 rfl hS0 (R_field fa53_3 rfl) ?_)))))
      obtain ⟨m6, j, e1⟩ := bind_some c
      refine PX_join (J := fun E W => ∃ (c4 : Bool) (f1 : List (Nat × Obj)), ST true NoF w W (hp w) ((T, Obj.cells ((encCred ((⟨a.Kind, a.Head, zS, (⟨zS, zS⟩ : Role), (⟨zS, zS⟩ : Role), zS⟩ : Cred))).toArray : Array Value) 53 (0, 0)) :: ((U, Obj.cells ((encCred a).toArray : Array Value) 53 (0, 0)) :: f1)) ∧ E 1 = (.pointer (some ⟨U, 0, none⟩)) ∧ E 3 = (.pointer (some ⟨T, 0, none⟩)) ∧ E 4 = (.bool r6) ∧ E 29 = (.agg (encRole a.B).toArray) ∧ E 35 = (.bool c4) ∧ E 36 = (.pointer (some ⟨T, 4, none⟩)) ∧ some (Sum.inr (c4, ((⟨a.Kind, a.Head, zS, a.B, (⟨zS, zS⟩ : Role), zS⟩ : Cred)))) = some Y) #[true, true, true, true, true, true, true, true, true, false, false] 2 ?_ (fun c9 => ?_)
      · rintro E W ⟨c4, f1, hST, i7, i8, m1, i9, j0, j1, b9⟩
        have hS0 := hST.has.sel (Db (Kb Sn))
        refine XO 9 rfl (F_store (.agg (encRole a.B).toArray) ((encCred ((⟨a.Kind, a.Head, zS, a.B, (⟨zS, zS⟩ : Role), zS⟩ : Cred))).toArray) hST j1 i9 Tryz.sizeOf28 (oneRole a.B) (Nat.le_of_ble_eq_true rfl) rfl (fun k9 hST => ?_))
        have hS0 := hST.has.sel (Db (Kb Sn))
        refine ⟨hS0, (X 10 rfl hS0 (R_assign j0) (PX_done (by kernel_rfl) (bq_n (sq_n ?_))))⟩
        replace b9 := Option.some.inj b9; subst b9
        exact ⟨c4, ((⟨a.Kind, a.Head, zS, a.B, (⟨zS, zS⟩ : Role), zS⟩ : Cred)), _, (hST.sel St), i7, i8, rfl, Q⟩
      rcases bool_cases r6 with D | D
      · replace j := if_t D j
        refine Xg 4 rfl rfl (congrArg Value.bool D) hS0 (R_field fa53_3 rfl) (XgH 5 rfl rfl (congrArg Value.bool D) hS0 (fun _ hS => R_load rfl (load_boxA hS Mh (encRole a.B) rfl Tryz.isAgg28 Tryz.sizeOf28)) ?_)
        obtain ⟨k3, h2, j⟩ := bind_some j
        refine XgE 6 rfl rfl (congrArg Value.bool D) (E_gives (args := [(.agg (encRole a.B).toArray)]) hST rfl Tryz.call254 (by exact args1 rfl) ((w_role_Right a.B _ _  h2)) (fun l0 hST => ?_))
        have hS0 := hST.has.sel (Db (Kb Sn))
        refine ⟨hS0, (X 7 rfl hS0 (R_pickT (congrArg Value.bool D) rfl) ?_)⟩
        replace j := Option.some.inj j; subst j
        refine PX_at (by kernel_rfl) (c9 _ _ ⟨k3, _, (hST.sel St), rfl, rfl, rfl, rfl, rfl, rfl, e1⟩)
      replace j := if_f D j
      refine Xn 4 rfl rfl (congrArg Value.bool D) hS0 (Xn 5 rfl rfl (congrArg Value.bool D) hS0 (Xn 6 rfl rfl (congrArg Value.bool D) hS0 (X 7 rfl hS0 (R_pickF (congrArg Value.bool D) rfl) ?_)))
      replace j := Option.some.inj j; subst j
      refine PX_at (by kernel_rfl) (c9 _ _ ⟨false, _, (hST.sel St), rfl, rfl, rfl, rfl, rfl, rfl, e1⟩)
    replace c := if_f b4 c
    refine CW_seq (CW_region (V (R_int rfl rfl rfl) (V (R_assign rfl) (LW_nil (sq_n (CW_if (b := (a.Kind == 3)) rfl (fun b5 => ?_) (fun b5 => ?_)))))))
    · replace c := if_t b5 c
      refine CW_seq ?_
      replace hST := hST.drew
      have hS0 := hST.has.sel (Db (Kb Sn))
      refine PX_start1 hS0 Tryz_mixed (X 0 rfl hS0 (R_field fa53_3 rfl) (XH 1 rfl hS0 (fun _ hS => R_load rfl (load_boxA hS Mh (encRole a.B) rfl Tryz.isAgg28 Tryz.sizeOf28)) (X 2 rfl hS0 (R_field fa53_5 rfl) (XH 3 rfl hS0 (fun _ hS => R_load rfl (load_box1 hS Mh rfl Tryz.isAgg9)) (X 4 rfl hS0 (R_field fa53_3 rfl) (XO 5 rfl (F_store (.agg (encRole a.B).toArray) ((encCred ((⟨a.Kind, a.Head, zS, a.B, (⟨zS, zS⟩ : Role), zS⟩ : Cred))).toArray) hST rfl rfl Tryz.sizeOf28 (oneRole a.B) (Nat.le_of_ble_eq_true rfl) rfl (fun l1 hST => ?_))))))))
      have hS0 := hST.has.sel (Db (Kb Sn))
      refine ⟨hS0, (X 6 rfl hS0 (R_field fa53_5 rfl) (XO 7 rfl (F_store (.string a.Word2) ((encCred ((⟨a.Kind, a.Head, zS, a.B, (⟨zS, zS⟩ : Role), a.Word2⟩ : Cred))).toArray) hST rfl rfl Tryz.sizeOf9 (oneS a.Word2) (Nat.le_of_ble_eq_true rfl) rfl (fun l2 hST => ?_))))⟩
      have hS0 := hST.has.sel (Db (Kb Sn))
      refine ⟨hS0, (PX_done (by kernel_rfl) (sq_n (CW_region (V (R_move rfl) (V (R_move rfl) ?_)))))⟩
      obtain ⟨m9, t, e4⟩ := bind_some c
      refine LW_join (J := fun E W => ∃ (c5 : Bool) (f2 : List (Nat × Obj)), ST true NoF w W (hp w) ((T, Obj.cells ((encCred ((⟨a.Kind, a.Head, zS, a.B, (⟨zS, zS⟩ : Role), a.Word2⟩ : Cred))).toArray : Array Value) 53 (0, 0)) :: ((U, Obj.cells ((encCred a).toArray : Array Value) 53 (0, 0)) :: f2)) ∧ E 1 = (.pointer (some ⟨U, 0, none⟩)) ∧ E 3 = (.pointer (some ⟨T, 0, none⟩)) ∧ E 4 = (.bool r6) ∧ E 50 = (.bool c5) ∧ (((if c5 then some ((beqS a.B.Owner a.Head.Owner)) else some false) : Option Bool).bind fun a4 => (((if a4 then (((m_name_Right a.Word2)).bind fun a7 => some a7) else some false) : Option Bool).bind fun Z => some (Sum.inr (Z, ((⟨a.Kind, a.Head, zS, a.B, (⟨zS, zS⟩ : Role), a.Word2⟩ : Cred)))))) = some Y) 4 ?_ (fun d2 => ?_)
      · rintro E W ⟨c5, f2, hST, a9, f8, f9, j2, g7⟩
        refine V (R_move j2) ?_
        obtain ⟨m8, N, e3⟩ := bind_some g7
        refine LW_join (J := fun E W => ∃ (a4 : Bool) (f3 : List (Nat × Obj)), ST true NoF w W (hp w) ((T, Obj.cells ((encCred ((⟨a.Kind, a.Head, zS, a.B, (⟨zS, zS⟩ : Role), a.Word2⟩ : Cred))).toArray : Array Value) 53 (0, 0)) :: ((U, Obj.cells ((encCred a).toArray : Array Value) 53 (0, 0)) :: f3)) ∧ E 1 = (.pointer (some ⟨U, 0, none⟩)) ∧ E 3 = (.pointer (some ⟨T, 0, none⟩)) ∧ E 4 = (.bool r6) ∧ E 59 = (.bool a4) ∧ (((if a4 then (((m_name_Right a.Word2)).bind fun a7 => some a7) else some false) : Option Bool).bind fun Z => some (Sum.inr (Z, ((⟨a.Kind, a.Head, zS, a.B, (⟨zS, zS⟩ : Role), a.Word2⟩ : Cred))))) = some Y) 8 ?_ (fun d1 => ?_)
        · rintro E W ⟨a4, f3, hST, d6, g0, g1, j3, g8⟩
          refine V (R_move j3) ?_
          obtain ⟨m7, k, e2⟩ := bind_some g8
          refine LW_join (J := fun E W => ∃ (Z : Bool) (f4 : List (Nat × Obj)), ST true NoF w W (hp w) ((T, Obj.cells ((encCred ((⟨a.Kind, a.Head, zS, a.B, (⟨zS, zS⟩ : Role), a.Word2⟩ : Cred))).toArray : Array Value) 53 (0, 0)) :: ((U, Obj.cells ((encCred a).toArray : Array Value) 53 (0, 0)) :: f4)) ∧ E 1 = (.pointer (some ⟨U, 0, none⟩)) ∧ E 3 = (.pointer (some ⟨T, 0, none⟩)) ∧ E 4 = (.bool r6) ∧ E 64 = (.bool Z) ∧ some (Sum.inr (Z, ((⟨a.Kind, a.Head, zS, a.B, (⟨zS, zS⟩ : Role), a.Word2⟩ : Cred)))) = some Y) 4 ?_ (fun d0 => ?_)
          · rintro E W ⟨Z, f4, hST, j4, j5, m2, j6, c0⟩
            refine V (R_assign j6) (LW_nil (bq_n (sq_n ?_)))
            replace c0 := Option.some.inj c0; subst c0
            exact ⟨Z, ((⟨a.Kind, a.Head, zS, a.B, (⟨zS, zS⟩ : Role), a.Word2⟩ : Cred)), _, (hST.sel St), j4, j5, rfl, Q⟩
          rcases bool_cases a4 with H | H
          · replace k := if_t H k
            refine Vg rfl (congrArg Value.bool H) (R_field fa53_5 d6) (Vg rfl (congrArg Value.bool H) (R_load rfl (load_box1 hST.has (Mt Mh) rfl Tryz.isAgg9)) ?_)
            obtain ⟨a7, h3, k⟩ := bind_some k
            refine VgE rfl (congrArg Value.bool H) (E_gives (args := [(.string a.Word2)]) hST rfl Tryz.call152 (by exact args1 rfl) ((w_name_Right a.Word2 _ _  h3)) (fun l3 hST => V (R_pickT (congrArg Value.bool H) rfl) ?_))
            replace k := Option.some.inj k; subst k
            exact d0 _ _ ⟨a7, _, (hST.sel St), d6, g0, g1, rfl, e2⟩
          replace k := if_f H k
          refine Vn rfl (congrArg Value.bool H) (Vn rfl (congrArg Value.bool H) (Vn rfl (congrArg Value.bool H) (V (R_pickF (congrArg Value.bool H) rfl) ?_)))
          replace k := Option.some.inj k; subst k
          exact d0 _ _ ⟨false, _, (hST.sel St), d6, g0, g1, rfl, e2⟩
        rcases bool_cases c5 with f | f
        · replace N := if_t f N
          refine Vg rfl (congrArg Value.bool f) (R_field fa53_3 a9) (Vg rfl (congrArg Value.bool f) (R_field fa28_0 rfl) (Vg rfl (congrArg Value.bool f) (R_load rfl (load_box1 hST.has (Mt Mh) rfl Tryz.isAgg9)) (Vg rfl (congrArg Value.bool f) (R_field fa53_1 a9) (Vg rfl (congrArg Value.bool f) (R_field fa28_0 rfl) (Vg rfl (congrArg Value.bool f) (R_load rfl (load_box1 hST.has (Mt Mh) rfl Tryz.isAgg9)) (Vg rfl (congrArg Value.bool f) (R_str rfl rfl rfl) (V (R_pickT (congrArg Value.bool f) rfl) ?_)))))))
          replace N := Option.some.inj N; subst N
          exact d1 _ _ ⟨((beqS a.B.Owner a.Head.Owner)), _, (hST.sel St), a9, f8, f9, rfl, e3⟩
        replace N := if_f f N
        refine Vn rfl (congrArg Value.bool f) (Vn rfl (congrArg Value.bool f) (Vn rfl (congrArg Value.bool f) (Vn rfl (congrArg Value.bool f) (Vn rfl (congrArg Value.bool f) (Vn rfl (congrArg Value.bool f) (Vn rfl (congrArg Value.bool f) (V (R_pickF (congrArg Value.bool f) rfl) ?_)))))))
        replace N := Option.some.inj N; subst N
        exact d1 _ _ ⟨false, _, (hST.sel St), a9, f8, f9, rfl, e3⟩
      rcases bool_cases r6 with G | G
      · replace t := if_t G t
        refine Vg rfl (congrArg Value.bool G) (R_field fa53_3 rfl) (Vg rfl (congrArg Value.bool G) (R_load rfl (load_boxA hST.has (Mt Mh) (encRole a.B) rfl Tryz.isAgg28 Tryz.sizeOf28)) ?_)
        obtain ⟨k4, h4, t⟩ := bind_some t
        refine VgE rfl (congrArg Value.bool G) (E_gives (args := [(.agg (encRole a.B).toArray)]) hST rfl Tryz.call254 (by exact args1 rfl) ((w_role_Right a.B _ _  h4)) (fun l4 hST => V (R_pickT (congrArg Value.bool G) rfl) ?_))
        replace t := Option.some.inj t; subst t
        exact d2 _ _ ⟨k4, _, (hST.sel St), rfl, rfl, rfl, rfl, e4⟩
      replace t := if_f G t
      refine Vn rfl (congrArg Value.bool G) (Vn rfl (congrArg Value.bool G) (Vn rfl (congrArg Value.bool G) (V (R_pickF (congrArg Value.bool G) rfl) ?_)))
      replace t := Option.some.inj t; subst t
      exact d2 _ _ ⟨false, _, (hST.sel St), rfl, rfl, rfl, rfl, e4⟩
    replace c := if_f b5 c
    refine CW_seq (CW_region (V (R_int rfl rfl rfl) (V (R_assign rfl) (LW_nil (sq_n (CW_if (b := (a.Kind == 4)) rfl (fun b6 => ?_) (fun b6 => ?_)))))))
    · replace c := if_t b6 c
      refine CW_seq ?_
      replace hST := hST.drew
      have hS0 := hST.has.sel (Db (Kb Sn))
      refine PX_start1 hS0 Tryz_mixed (X 0 rfl hS0 (R_field fa53_3 rfl) (XH 1 rfl hS0 (fun _ hS => R_load rfl (load_boxA hS Mh (encRole a.B) rfl Tryz.isAgg28 Tryz.sizeOf28)) (X 2 rfl hS0 (R_field fa53_4 rfl) (XH 3 rfl hS0 (fun _ hS => R_load rfl (load_boxA hS Mh (encRole a.C) rfl Tryz.isAgg28 Tryz.sizeOf28)) (X 4 rfl hS0 (R_field fa53_3 rfl) (XO 5 rfl (F_store (.agg (encRole a.B).toArray) ((encCred ((⟨a.Kind, a.Head, zS, a.B, (⟨zS, zS⟩ : Role), zS⟩ : Cred))).toArray) hST rfl rfl Tryz.sizeOf28 (oneRole a.B) (Nat.le_of_ble_eq_true rfl) rfl (fun l5 hST => ?_))))))))
      have hS0 := hST.has.sel (Db (Kb Sn))
      refine ⟨hS0, (X 6 rfl hS0 (R_field fa53_4 rfl) (XO 7 rfl (F_store (.agg (encRole a.C).toArray) ((encCred ((⟨a.Kind, a.Head, zS, a.B, a.C, zS⟩ : Cred))).toArray) hST rfl rfl Tryz.sizeOf28 (oneRole a.C) (Nat.le_of_ble_eq_true rfl) rfl (fun l6 hST => ?_))))⟩
      have hS0 := hST.has.sel (Db (Kb Sn))
      refine ⟨hS0, (PX_done (by kernel_rfl) (sq_n (CW_region (V (R_move rfl) (V (R_move rfl) ?_)))))⟩
      obtain ⟨n2, y, e7⟩ := bind_some c
      refine LW_join (J := fun E W => ∃ (c6 : Bool) (f5 : List (Nat × Obj)), ST true NoF w W (hp w) ((T, Obj.cells ((encCred ((⟨a.Kind, a.Head, zS, a.B, a.C, zS⟩ : Cred))).toArray : Array Value) 53 (0, 0)) :: ((U, Obj.cells ((encCred a).toArray : Array Value) 53 (0, 0)) :: f5)) ∧ E 1 = (.pointer (some ⟨U, 0, none⟩)) ∧ E 3 = (.pointer (some ⟨T, 0, none⟩)) ∧ E 4 = (.bool r6) ∧ E 78 = (.bool c6) ∧ (((if c6 then (((m_role_Right a.C)).bind fun d8 => some d8) else some false) : Option Bool).bind fun a5 => (((if a5 then (((m_role_Compare a.B a.C)).bind fun a8 => some ((decide (a8 < 0)))) else some false) : Option Bool).bind fun a1 => some (Sum.inr (a1, ((⟨a.Kind, a.Head, zS, a.B, a.C, zS⟩ : Cred)))))) = some Y) 4 ?_ (fun d5 => ?_)
      · rintro E W ⟨c6, f5, hST, d7, g2, g3, j7, g9⟩
        refine V (R_move j7) ?_
        obtain ⟨n1, x, e6⟩ := bind_some g9
        refine LW_join (J := fun E W => ∃ (a5 : Bool) (f6 : List (Nat × Obj)), ST true NoF w W (hp w) ((T, Obj.cells ((encCred ((⟨a.Kind, a.Head, zS, a.B, a.C, zS⟩ : Cred))).toArray : Array Value) 53 (0, 0)) :: ((U, Obj.cells ((encCred a).toArray : Array Value) 53 (0, 0)) :: f6)) ∧ E 1 = (.pointer (some ⟨U, 0, none⟩)) ∧ E 3 = (.pointer (some ⟨T, 0, none⟩)) ∧ E 4 = (.bool r6) ∧ E 83 = (.bool a5) ∧ (((if a5 then (((m_role_Compare a.B a.C)).bind fun a8 => some ((decide (a8 < 0)))) else some false) : Option Bool).bind fun a1 => some (Sum.inr (a1, ((⟨a.Kind, a.Head, zS, a.B, a.C, zS⟩ : Cred))))) = some Y) 4 ?_ (fun d4 => ?_)
        · rintro E W ⟨a5, f6, hST, b0, g4, g5, j8, h0⟩
          refine V (R_move j8) ?_
          obtain ⟨n0, u, e5⟩ := bind_some h0
          refine LW_join (J := fun E W => ∃ (a1 : Bool) (f7 : List (Nat × Obj)), ST true NoF w W (hp w) ((T, Obj.cells ((encCred ((⟨a.Kind, a.Head, zS, a.B, a.C, zS⟩ : Cred))).toArray : Array Value) 53 (0, 0)) :: ((U, Obj.cells ((encCred a).toArray : Array Value) 53 (0, 0)) :: f7)) ∧ E 1 = (.pointer (some ⟨U, 0, none⟩)) ∧ E 3 = (.pointer (some ⟨T, 0, none⟩)) ∧ E 4 = (.bool r6) ∧ E 91 = (.bool a1) ∧ some (Sum.inr (a1, ((⟨a.Kind, a.Head, zS, a.B, a.C, zS⟩ : Cred)))) = some Y) 7 ?_ (fun d3 => ?_)
          · rintro E W ⟨a1, f7, hST, j9, k0, m3, k1, c1⟩
            refine V (R_assign k1) (LW_nil (bq_n (sq_n ?_)))
            replace c1 := Option.some.inj c1; subst c1
            exact ⟨a1, ((⟨a.Kind, a.Head, zS, a.B, a.C, zS⟩ : Cred)), _, (hST.sel St), j9, k0, rfl, Q⟩
          rcases bool_cases a5 with g | g
          · replace u := if_t g u
            refine Vg rfl (congrArg Value.bool g) (R_field fa53_3 b0) (Vg rfl (congrArg Value.bool g) (R_load rfl (load_boxA hST.has (Mt Mh) (encRole a.B) rfl Tryz.isAgg28 Tryz.sizeOf28)) (Vg rfl (congrArg Value.bool g) (R_field fa53_4 b0) (Vg rfl (congrArg Value.bool g) (R_load rfl (load_boxA hST.has (Mt Mh) (encRole a.C) rfl Tryz.isAgg28 Tryz.sizeOf28)) ?_)))
            obtain ⟨a8, h5, u⟩ := bind_some u
            refine VgE rfl (congrArg Value.bool g) (E_gives (args := [(.agg (encRole a.B).toArray), (.agg (encRole a.C).toArray)]) hST rfl Tryz.call123 (by exact args2 rfl rfl) ((w_role_Compare a.B a.C _ _  h5)) (fun l7 hST => Vg rfl (congrArg Value.bool g) (R_int rfl rfl rfl) (V (R_pickT (congrArg Value.bool g) rfl) ?_)))
            replace u := Option.some.inj u; subst u
            exact d3 _ _ ⟨((decide (a8 < 0))), _, (hST.sel St), b0, g4, g5, rfl, e5⟩
          replace u := if_f g u
          refine Vn rfl (congrArg Value.bool g) (Vn rfl (congrArg Value.bool g) (Vn rfl (congrArg Value.bool g) (Vn rfl (congrArg Value.bool g) (Vn rfl (congrArg Value.bool g) (Vn rfl (congrArg Value.bool g) (V (R_pickF (congrArg Value.bool g) rfl) ?_))))))
          replace u := Option.some.inj u; subst u
          exact d3 _ _ ⟨false, _, (hST.sel St), b0, g4, g5, rfl, e5⟩
        rcases bool_cases c6 with K | K
        · replace x := if_t K x
          refine Vg rfl (congrArg Value.bool K) (R_field fa53_4 d7) (Vg rfl (congrArg Value.bool K) (R_load rfl (load_boxA hST.has (Mt Mh) (encRole a.C) rfl Tryz.isAgg28 Tryz.sizeOf28)) ?_)
          obtain ⟨d8, h6, x⟩ := bind_some x
          refine VgE rfl (congrArg Value.bool K) (E_gives (args := [(.agg (encRole a.C).toArray)]) hST rfl Tryz.call254 (by exact args1 rfl) ((w_role_Right a.C _ _  h6)) (fun l8 hST => V (R_pickT (congrArg Value.bool K) rfl) ?_))
          replace x := Option.some.inj x; subst x
          exact d4 _ _ ⟨d8, _, (hST.sel St), d7, g2, g3, rfl, e6⟩
        replace x := if_f K x
        refine Vn rfl (congrArg Value.bool K) (Vn rfl (congrArg Value.bool K) (Vn rfl (congrArg Value.bool K) (V (R_pickF (congrArg Value.bool K) rfl) ?_)))
        replace x := Option.some.inj x; subst x
        exact d4 _ _ ⟨false, _, (hST.sel St), d7, g2, g3, rfl, e6⟩
      rcases bool_cases r6 with I | I
      · replace y := if_t I y
        refine Vg rfl (congrArg Value.bool I) (R_field fa53_3 rfl) (Vg rfl (congrArg Value.bool I) (R_load rfl (load_boxA hST.has (Mt Mh) (encRole a.B) rfl Tryz.isAgg28 Tryz.sizeOf28)) ?_)
        obtain ⟨k5, h7, y⟩ := bind_some y
        refine VgE rfl (congrArg Value.bool I) (E_gives (args := [(.agg (encRole a.B).toArray)]) hST rfl Tryz.call254 (by exact args1 rfl) ((w_role_Right a.B _ _  h7)) (fun l9 hST => V (R_pickT (congrArg Value.bool I) rfl) ?_))
        replace y := Option.some.inj y; subst y
        exact d5 _ _ ⟨k5, _, (hST.sel St), rfl, rfl, rfl, rfl, e7⟩
      replace y := if_f I y
      refine Vn rfl (congrArg Value.bool I) (Vn rfl (congrArg Value.bool I) (Vn rfl (congrArg Value.bool I) (V (R_pickF (congrArg Value.bool I) rfl) ?_)))
      replace y := Option.some.inj y; subst y
      exact d5 _ _ ⟨false, _, (hST.sel St), rfl, rfl, rfl, rfl, e7⟩
    replace c := if_f b6 c
    refine CW_seq (CW_region (V (R_assign rfl) (LW_nil (sq_n ?_))))
    replace hST := hST.sel (Db (Db St))
    refine CW_ret (bq_r (sq_r ?_))
    replace c := Option.some.inj c; subst c
    replace Q : some false = some r := Q
    replace Q := Option.some.inj Q; subst Q
    exact retQ_1 (v := (.bool false)) rfl rfl ⟨rfl, hST.ex⟩
  rintro E W ⟨c2, a2, e8, hST, h8, h9, i0, g6⟩
  refine CW_seq (CW_region (V (R_move i0) (V (R_move rfl) ?_)))
  obtain ⟨m4, M, d9⟩ := bind_some g6
  refine LW_join (J := fun E W => ∃ (a3 : Bool) (e9 : List (Nat × Obj)), ST true NoF w W (hp w) e9 ∧ E 97 = (.bool a3) ∧ some a3 = some r) 4 ?_ (fun c7 => ?_)
  · rintro E W ⟨a3, e9, hST, i1, b7⟩
    refine V (R_assign i1) (LW_nil (sq_n (CW_ret ?_)))
    replace b7 := Option.some.inj b7; subst b7
    exact retQ_1 (v := (.bool a3)) rfl rfl ⟨rfl, hST.ex⟩
  rcases bool_cases c2 with z | z
  · replace M := if_t z M
    refine Vg rfl (congrArg Value.bool z) (R_load h9 (load_boxA hST.has Mh (encCred a2) rfl Tryz.isAgg53 Tryz.sizeOf53)) (Vg rfl (congrArg Value.bool z) (R_load h8 (load_boxA hST.has (Mt Mh) (encCred a) rfl Tryz.isAgg53 Tryz.sizeOf53)) (Vg rfl (congrArg Value.bool z) (R_eql rfl rfl (guard_agg Tryz.eqGuardType53) (bin_eql (eqInCred _ a2 a))) (V (R_pickT (congrArg Value.bool z) rfl) ?_)))
    replace M := Option.some.inj M; subst M
    exact c7 _ _ ⟨((beqCred a2 a)), _, (hST.sel (Db (Db St))), rfl, d9⟩
  replace M := if_f z M
  refine Vn rfl (congrArg Value.bool z) (Vn rfl (congrArg Value.bool z) (Vn rfl (congrArg Value.bool z) (V (R_pickF (congrArg Value.bool z) rfl) ?_)))
  replace M := Option.some.inj M; subst M
  exact c7 _ _ ⟨false, _, (hST.sel (Db (Db St))), rfl, d9⟩
theorem w_keys_Registry_of (B : Value) (G : Option KeysRegistry) (a : Cred) (r : ((List Int) × Int)) (w : World) {M : Mem} (Y : Ent M [] w) (f : OptR relKeysRegistry M B G) (hm : m_keys_Registry_of G a = some r) :
    GivesD true Tryz.prog 154 [B, (.agg (encCred a).toArray)] w M [] (fun v U μ1 => ∃ (T : Value), v = (.tuple #[T, (.int .i64 (r.2))]) ∧ U = [] ∧ Sl (Pl (encIk .u8)) 1 μ1 T (r.1)) := by
  have hST := ST.startE (dd := true) Y
  unfold m_keys_Registry_of at hm
  refine calls_of_CW (n := 29) Tryz.func154 rfl rfl (Nat.le_of_ble_eq_true rfl) (CW_seq (CW_region (VE (E_box (v := (.agg (encCred a).toArray)) hST rfl (fun W2 b1 hST => V (R_assign rfl) (V (R_assign rfl) (LW_nil (sq_n (CW_seq (CW_block (CW_seq (CW_region (V (R_move rfl) (V (R_optEqNil Tryz.underlying73 f rfl rfl) (V (R_assign rfl) ?_)))))))))))))))
  refine LW_nil (sq_n (CW_if (b := G.isNone) rfl (fun g => ?_) (fun g => ?_)))
  · replace hm := if_t g hm
    refine CW_seq (CW_region (V (R_assign rfl) (V (R_assign rfl) (LW_nil (sq_n ?_)))))
    replace hST := hST.sel (Db St)
    refine CW_ret (bq_r (sq_r ?_))
    replace hm := Option.some.inj hm; subst hm
    exact retQ_2 (v := (.slice none 0 0)) (u := (.int .i64 1)) rfl rfl rfl ⟨_, _, _, rfl, (hST.bkM Sn), (Sub.refl _), Lo.refl, (ST.sub_hpx hST (Sel.mem Sn)), (.slice none 0 0), rfl, rfl, (Sl.nil _ _ _)⟩
  replace hm := if_f g hm
  refine CW_seq (CW_region (V (R_load rfl (load_boxA hST.has Mh (encCred a) rfl Tryz.isAgg53 Tryz.sizeOf53)) ?_))
  obtain ⟨Z, N, hm⟩ := bind_some hm
  refine VE (E_gives (args := [(.agg (encCred a).toArray)]) hST rfl Tryz.call137 (by exact args1 rfl) ((w_cred_Right a _ _  N)) (fun W6 hST => V (R_not rfl) (V (R_assign rfl) (LW_nil (sq_n (CW_if (b := (!Z)) rfl (fun i => ?_) (fun i => ?_)))))))
  · replace hm := if_t i hm
    refine CW_seq (CW_region (V (R_assign rfl) (V (R_assign rfl) (LW_nil (sq_n ?_)))))
    replace hST := hST.sel (Db St)
    refine CW_ret (bq_r (sq_r ?_))
    replace hm := Option.some.inj hm; subst hm
    exact retQ_2 (v := (.slice none 0 0)) (u := (.int .i64 11)) rfl rfl rfl ⟨_, _, _, rfl, (hST.bkM Sn), (Sub.refl _), Lo.refl, (ST.sub_hpx hST (Sel.mem Sn)), (.slice none 0 0), rfl, rfl, (Sl.nil _ _ _)⟩
  replace hm := if_f i hm
  refine CW_skip (bq_n (sq_n (CW_seq ?_)))
  replace hST := hST.drew
  have hS0 := hST.has.sel (Kb Sn)
  refine PX_start1 hS0 Tryz_mixed (X 0 rfl hS0 (R_move rfl) ?_)
  obtain ⟨Q, K, hm⟩ := bind_some hm
  refine XQ 1 rfl hS0 (R_nilCheckOpt relKeysRegistry.out f K rfl) (fun a4 ⟨_, ⟨D, rfl, J⟩, H⟩ => XQ 2 rfl hS0 (R_fieldAt [D] fa212_0 rfl H rfl) (fun a5 I => XH 3 rfl hS0 (fun _ hS => R_load rfl (load_at1 hS (y := D) I Tryz.isAgg210)) (X 4 rfl hS0 (R_field fa53_1 rfl) (X 5 rfl hS0 (R_field fa28_0 rfl) (XH 6 rfl hS0 (fun _ hS => R_load rfl (load_box1 hS Mh rfl Tryz.isAgg9)) ?_)))))
  obtain ⟨x, a3, j, t⟩ := J
  refine XH 7 rfl hS0 (fun _ hS => R_lookupOkDeep (k := a.Head.Owner) (z := (.slice none 0 0)) kl9 Tryz.underlying210 Tryz.zeroValue54 rfl rfl j (fun b o hq => hS.1 b o (t b o hq))) (X 8 rfl hS0 (R_move rfl) (X 9 rfl hS0 (R_extract rfl rfl) (X 10 rfl hS0 (R_extract rfl rfl) (X 11 rfl hS0 (R_assign rfl) (X 12 rfl hS0 (R_assign rfl) (PX_done (by kernel_rfl) (sq_n ?_)))))))
  replace hST := hST.sel (Db St)
  refine CW_seq (CW_seq (CW_region (V (R_move rfl) (V (R_not rfl) (LW_nil (sq_n (CW_if (b := (!((mget beqS Q.m a.Head.Owner).isSome))) rfl (fun c => ?_) (fun c => ?_))))))))
  · replace hm := if_t c hm
    refine CW_seq (CW_region (V (R_assign rfl) (V (R_assign rfl) (LW_nil (sq_n (CW_ret (sq_r ?_)))))))
    replace hm := Option.some.inj hm; subst hm
    exact retQ_2 (v := (.slice none 0 0)) (u := (.int .i64 21)) rfl rfl rfl ⟨_, _, _, rfl, (hST.bkM Sn), (Sub.refl _), Lo.refl, (ST.sub_hpx hST (Sel.mem Sn)), (.slice none 0 0), rfl, rfl, (Sl.nil _ _ _)⟩
  replace hm := if_f c hm
  refine CW_skip (sq_n (CW_seq (CW_region (V (R_move rfl) (V (R_assign rfl) (V (R_assign rfl) (LW_nil (sq_n (CW_ret ?_)))))))))
  replace hm := Option.some.inj hm; subst hm
  exact retQ_2 (v := (valAt beqS x a.Head.Owner (.slice none 0 0))) (u := (.int .i64 0)) rfl rfl rfl ⟨_, _, _, rfl, (hST.bkM Sn), (Sub.refl _), Lo.refl, (ST.sub_hpx hST (Sel.mem Sn)), (valAt beqS x a.Head.Owner (.slice none 0 0)), rfl, rfl, (DeepV.slAt (enc := (encIk .u8)) (n := 1) (fun _ => rfl) beqS_iff.1 j a.Head.Owner t)⟩
theorem w_tape_Pen_Number_w (j : Nat) (i : Value) (D : List Int) (g : List (Nat × Obj)) (Z : Int) (r : (Bool × (List Int))) (w : World) {μ0 : Mem} (h0 : Ent μ0 ((j, Obj.cells (#[i] : Array Value) 92 (0, 0)) :: (g ++ [])) w) (x : Row 5 (encIk .u8) 1 i D g) (hm : m_tape_Pen_Number_w D Z = some r) :
    GivesM true Tryz.prog 268 [(.pointer (some ⟨j, 0, none⟩)), (.int .i64 Z)] w ((j, Obj.cells (#[i] : Array Value) 92 (0, 0)) :: (g ++ [])) (fun v L1 W' => ∃ (y1 : Value) (S2 : List (Nat × Obj)), v = (.bool (r.1)) ∧ L1 = ((j, Obj.cells (#[y1] : Array Value) 92 (0, 0)) :: (S2 ++ [])) ∧ Row 5 (encIk .u8) 1 y1 r.2 S2) := by
  have hST := ST.startE (dd := true) h0
  unfold m_tape_Pen_Number_w at hm
  refine calls_of_CW (n := 38) Tryz.func268 rfl rfl (Nat.le_of_ble_eq_true rfl) (CW_seq (CW_region (V (R_assign rfl) (LW_nil (sq_n (CW_seq (CW_seq (CW_region (V (R_move rfl) (V (R_ptrEqNil Tryz.underlying90 rfl rfl) (V (R_move rfl) (Vg rfl rfl (R_move rfl) (Vg rfl rfl (R_int rfl rfl rfl) (V (R_pickF rfl rfl) ?_))))))))))))))
  refine LW_nil (sq_n (CW_if (b := (decide (Z < 0))) rfl (fun T => ?_) (fun T => ?_)))
  · replace hm := if_t T hm
    refine CW_seq (CW_region (V (R_assign rfl) (LW_nil (sq_n (CW_ret (sq_r ?_))))))
    replace hm := Option.some.inj hm; subst hm
    exact retQ_1 (v := (.bool false)) rfl rfl ⟨_, _, rfl, (hST.bkM (Kb (Kr Sn))), i, g, rfl, rfl, x⟩
  replace hm := if_f T hm
  refine CW_skip (sq_n (CW_seq (CW_block (CW_loop (fun m E W => ∃ (f : Int) (y : Value) (Y : List Int) (t : List (Nat × Obj)) (a3 : List (Nat × Obj)), ST true (keys ((j, Obj.cells (#[i] : Array Value) 92 (0, 0)) :: (g ++ []))) w W μ0 ((j, Obj.cells (#[y] : Array Value) 92 (0, 0)) :: (t ++ a3)) ∧ E 0 = (.pointer (some ⟨j, 0, none⟩)) ∧ E 1 = (.int .i64 f) ∧ Row 5 (encIk .u8) 1 y Y t ∧ m_tape_Pen_Number_w_L1 m f Y = some r) FUEL ⟨Z, i, D, g, _, (hST.sel St), rfl, rfl, x, hm⟩ ?_))))
  rintro m E W ⟨f, y, Y, t, a3, hST, u, K, U, c⟩
  cases m with
  | zero => rw [m_tape_Pen_Number_w_L1] at c; cases c
  | succ a9 =>
    rw [m_tape_Pen_Number_w_L1] at c
    refine CW_seq (CW_seq (CW_region (V (R_move K) (V (R_int rfl rfl rfl) (LW_nil (sq_n (CW_if (b := (decide (f ≥ 128))) rfl (fun I => ?_) (fun I => ?_))))))))
    · replace c := if_t I c
      refine CW_skip (sq_n (CW_seq (CW_block (CW_region (V (R_move u) (V (R_move u) (V (R_nilCheck rfl) (V (R_field fa92_0 rfl) (V (R_load rfl (load_box1 hST.has Mh rfl Tryz.isAgg54)) (V (R_move K) (V (R_convInt (k' := .i64) (a := f) Tryz.underlying3 Tryz.underlying5 rfl) (V (R_div (k := .u8) (a := ((IntKind.u8.wrap f))) (b := 128) (v := (.int .u8 ((IntKind.u8.wrap (BitVec.ofInt (IntKind.bits .u8) ((IntKind.u8.wrap f)) ||| BitVec.ofInt (IntKind.bits .u8) 128).toNat)))) rfl rfl (by decide) rfl) (VE (E_buildSlice (qs := #[(0, (.int .u8 ((IntKind.u8.wrap (BitVec.ofInt (IntKind.bits .u8) ((IntKind.u8.wrap f)) ||| BitVec.ofInt (IntKind.bits .u8) 128).toNat))))]) (cs := [(.int .u8 ((IntKind.u8.wrap (BitVec.ofInt (IntKind.bits .u8) ((IntKind.u8.wrap f)) ||| BitVec.ofInt (IntKind.bits .u8) 128).toNat)))].toArray) hST (parts1 rfl) (run_lit [(.int .u8 ((IntKind.u8.wrap (BitVec.ofInt (IntKind.bits .u8) ((IntKind.u8.wrap f)) ||| BitVec.ofInt (IntKind.bits .u8) 128).toNat)))] Tryz.underlying54 Tryz.sizeOf5 Tryz.zeroValue5 (by decide) rfl (by intro v hv; simp only [List.mem_cons, List.not_mem_nil, or_false] at hv; rcases hv with rfl <;> rfl) rfl rfl) (fun c1 a8 hST => ?_)))))))))))))))
      replace hST := hST.perm (Nr (Qb (Qb Qz)) Nz)
      obtain ⟨Q, a0, c⟩ := bind_some c
      refine VE (F_append (enc := (encIk .u8)) (v := y) (vs := (.slice (some ⟨a8, 0, none⟩) 1 1)) (R := t) hST (fun _ => rfl) (by decide) (oneI _) Tryz.underlying54 info5.1 info5.2.1 rfl info5.2.2.1 info5.2.2.2 rfl rfl U (Sl.lit (enc := (encIk .u8)) (l := [(IntKind.u8.wrap (BitVec.ofInt (IntKind.bits .u8) ((IntKind.u8.wrap f)) ||| BitVec.ofInt (IntKind.bits .u8) 128).toNat)]) (fun _ => rfl) rfl (Nat.le_of_ble_eq_true rfl) rfl (hST.at_ (Ma Mh))) a0 (fun b3 b9 a4 hST M => V (R_nilCheck rfl) (V (R_field fa92_0 rfl) ?_)))
      obtain ⟨z, G, rfl⟩ := M.form
      replace hST := hST.perm (Nb (Pr (Pb Pz)) Nz)
      refine VO (F_store (.slice z Q.length G) (#[(.slice z Q.length G)]) hST rfl rfl Tryz.sizeOf54 (by simp [Value.cells, Value.oneCell']) (Nat.le_of_ble_eq_true rfl) rfl (fun b4 hST => LW_nil (bq_n (sq_n ?_))))
      replace hST := hST.sel (Kb (Kr (Db St)))
      exact CW_region (V (R_move K) (V (R_shr (a := f) (b := 7) rfl rfl (by decide)) (V (R_assign rfl) (LW_nil (sq_n ⟨a9, Nat.lt_succ_self _, ((Int.fdiv f (2 ^ min (Int.toNat 7) (IntKind.bits .i64)))), (.slice z Q.length G), Q, a4, _, (hST.sel St), u, rfl, M, c⟩)))))
    replace c := if_f I c
    refine CW_exit (sq_e (sq_e (bq_e (sq_n (CW_seq (CW_region (V (R_move u) (V (R_move u) (V (R_nilCheck rfl) (V (R_field fa92_0 rfl) (V (R_load rfl (load_box1 hST.has Mh rfl Tryz.isAgg54)) (V (R_move K) (V (R_convInt (k' := .i64) (a := f) Tryz.underlying3 Tryz.underlying5 rfl) (VE (E_buildSlice (qs := #[(0, (.int .u8 ((IntKind.u8.wrap f))))]) (cs := [(.int .u8 ((IntKind.u8.wrap f)))].toArray) hST (parts1 rfl) (run_lit [(.int .u8 ((IntKind.u8.wrap f)))] Tryz.underlying54 Tryz.sizeOf5 Tryz.zeroValue5 (by decide) rfl (by intro v hv; simp only [List.mem_cons, List.not_mem_nil, or_false] at hv; rcases hv with rfl <;> rfl) rfl rfl) (fun b5 a6 hST => ?_))))))))))))))))
    replace hST := hST.perm (Nr (Qb (Qb Qz)) Nz)
    obtain ⟨J, a2, c⟩ := bind_some c
    refine VE (F_append (enc := (encIk .u8)) (v := y) (vs := (.slice (some ⟨a6, 0, none⟩) 1 1)) (R := t) hST (fun _ => rfl) (by decide) (oneI _) Tryz.underlying54 info5.1 info5.2.1 rfl info5.2.2.1 info5.2.2.2 rfl rfl U (Sl.lit (enc := (encIk .u8)) (l := [(IntKind.u8.wrap f)]) (fun _ => rfl) rfl (Nat.le_of_ble_eq_true rfl) rfl (hST.at_ (Ma Mh))) a2 (fun b6 c0 a5 hST N => V (R_nilCheck rfl) (V (R_field fa92_0 rfl) ?_)))
    obtain ⟨B, H, rfl⟩ := N.form
    replace hST := hST.perm (Nb (Pr (Pb Pz)) Nz)
    refine VO (F_store (.slice B J.length H) (#[(.slice B J.length H)]) hST rfl rfl Tryz.sizeOf54 (by simp [Value.cells, Value.oneCell']) (Nat.le_of_ble_eq_true rfl) rfl (fun b7 hST => LW_nil (sq_n ?_)))
    replace hST := hST.sel (Kb (Kr (Db St)))
    refine CW_seq (CW_region (V (R_assign rfl) (LW_nil (sq_n (CW_ret ?_)))))
    replace c := Option.some.inj c; subst c
    exact retQ_1 (v := (.bool true)) rfl rfl ⟨_, _, rfl, (hST.bkM (Kb (Kr Sn))), (.slice B J.length H), a5, rfl, rfl, N⟩
theorem w_tape_Pen_Text_w (f : Nat) (c : Value) (i : List Int) (a : List (Nat × Obj)) (t : Value) (x : List Int) (r : (Bool × (List Int))) (w : World) {Y : Mem} (h0 : Ent Y ((f, Obj.cells (#[c] : Array Value) 92 (0, 0)) :: (a ++ [])) w) (g : Row 5 (encIk .u8) 1 c i a) (j : Sl (Pl (encIk .u8)) 1 Y t x) (hm : m_tape_Pen_Text_w i x = some r) :
    GivesM true Tryz.prog 165 [(.pointer (some ⟨f, 0, none⟩)), t] w ((f, Obj.cells (#[c] : Array Value) 92 (0, 0)) :: (a ++ [])) (fun v Z W' => ∃ (T : Value) (M : List (Nat × Obj)), v = (.bool (r.1)) ∧ Z = ((f, Obj.cells (#[T] : Array Value) 92 (0, 0)) :: (M ++ [])) ∧ Row 5 (encIk .u8) 1 T r.2 M) := by
  have hST := ST.startE (dd := true) h0
  unfold m_tape_Pen_Text_w at hm
  refine calls_of_CW (n := 25) Tryz.func165 rfl rfl (Nat.le_of_ble_eq_true rfl) (CW_seq (CW_region (V (R_assign rfl) (LW_nil (sq_n (CW_seq (CW_seq (CW_region (V (R_move rfl) (V (R_ptrEqNil Tryz.underlying90 rfl rfl) (V (R_move rfl) (Vg rfl rfl (R_move rfl) (Vg rfl rfl (R_len Tryz.underlying54 rfl j) (Vg rfl rfl (R_int rfl rfl rfl) ?_))))))))))))))
  refine V (R_pickF rfl rfl) (LW_nil (sq_n (CW_if (b := (decide (((x.length : Int)) > 2048))) rfl (fun B => ?_) (fun B => ?_))))
  · replace hm := if_t B hm
    refine CW_seq (CW_region (V (R_assign rfl) (LW_nil (sq_n (CW_ret (sq_r ?_))))))
    replace hm := Option.some.inj hm; subst hm
    exact retQ_1 (v := (.bool false)) rfl rfl ⟨_, _, rfl, (hST.bkM (Kb (Kr Sn))), c, a, rfl, rfl, g⟩
  replace hm := if_f B hm
  refine CW_skip (sq_n (CW_seq (CW_region (V (R_move rfl) (V (R_move rfl) (V (R_len Tryz.underlying54 rfl j) ?_))))))
  obtain ⟨r2, Q, hm⟩ := bind_some hm
  have hsz := hST.size
  refine VE (E_callM (args := [(.pointer (some ⟨f, 0, none⟩)), (.int .i64 ((x.length : Int)))]) (caps := #[]) _ _ hST (Cb Pz (Cr Qz Cn)) rfl Tryz.call268 (by exact args2 rfl rfl) (fun hH hN hsb hmm => (w_tape_Pen_Number_w f c i a ((x.length : Int)) _ _ ⟨hH, hN, Sub.refl _⟩ g Q)) (fun W4 v8 μ5 a2 hST H hl7 hlift N => ?_))
  obtain ⟨U, K, k, rfl, I⟩ := N
  replace k := k.symm; subst k
  replace hST := hST.perm (Tb (Tr Tn))
  refine LW_nil (sq_n (CW_seq (CW_region (V (R_move rfl) (V (R_move rfl) (V (R_nilCheck rfl) (V (R_field fa92_0 rfl) (V (R_load rfl (load_box1 hST.has Mh rfl Tryz.isAgg54)) (V (R_move rfl) ?_)))))))))
  replace hST := hST.perm (Nr (Qb Qz) Nz)
  obtain ⟨D, G, hm⟩ := bind_some hm
  refine VE (F_append (enc := (encIk .u8)) (v := U) (vs := t) (R := K) hST (fun _ => rfl) (by decide) (oneI _) Tryz.underlying54 info5.1 info5.2.1 rfl info5.2.2.1 info5.2.2.2 rfl rfl I (j.mono (Pl.mono _) (H.trans hST.sub_hp)) G (fun a3 a5 J hST z => V (R_nilCheck rfl) (V (R_field fa92_0 rfl) ?_)))
  obtain ⟨u, y, rfl⟩ := z.form
  replace hST := hST.perm (Nb (Pr Pz) Nz)
  refine VO (F_store (.slice u D.length y) (#[(.slice u D.length y)]) hST rfl rfl Tryz.sizeOf54 (by simp [Value.cells, Value.oneCell']) (Nat.le_of_ble_eq_true rfl) rfl (fun a4 hST => LW_nil (sq_n (CW_seq (CW_region (V (R_assign rfl) (LW_nil (sq_n (CW_ret ?_)))))))))
  replace hm := Option.some.inj hm; subst hm
  exact retQ_1 (v := (.bool true)) rfl rfl ⟨_, _, rfl, (hST.bkM (Kb (Kr Sn))), (.slice u D.length y), J, rfl, rfl, z⟩
theorem w_name_Put_w (i : Nat) (g : Value) (j : List Int) (c : List (Nat × Obj)) (I : ByteArray) (r : (Bool × (List Int))) (w : World) {μ0 : Mem} (h0 : Ent μ0 ((i, Obj.cells (#[g] : Array Value) 92 (0, 0)) :: (c ++ [])) w) (k : Row 5 (encIk .u8) 1 g j c) (hm : m_name_Put_w j I = some r) :
    GivesM true Tryz.prog 270 [(.pointer (some ⟨i, 0, none⟩)), (.string I)] w ((i, Obj.cells (#[g] : Array Value) 92 (0, 0)) :: (c ++ [])) (fun v L1 W' => ∃ (y1 : Value) (S2 : List (Nat × Obj)), v = (.bool (r.1)) ∧ L1 = ((i, Obj.cells (#[y1] : Array Value) 92 (0, 0)) :: (S2 ++ [])) ∧ Row 5 (encIk .u8) 1 y1 r.2 S2) := by
  have hST := ST.startE (dd := true) h0
  unfold m_name_Put_w at hm
  refine calls_of_CW (n := 17) Tryz.func270 rfl rfl (Nat.le_of_ble_eq_true rfl) (CW_seq (CW_region (V (R_assign rfl) (LW_nil (sq_n (CW_seq (CW_region (V (R_move rfl) (V (R_ptrNeNil Tryz.underlying90 rfl rfl) (V (R_move rfl) (Vg rfl rfl (R_move rfl) ?_)))))))))))
  obtain ⟨r1, a8, hm⟩ := bind_some hm
  refine VgE rfl rfl (E_gives (args := [(.string I)]) hST rfl Tryz.call152 (by exact args1 rfl) ((w_name_Right I _ _  a8)) (fun W3 hST => V (R_pickT rfl rfl) (V (R_move rfl) ?_)))
  obtain ⟨c2, a, D⟩ := bind_some hm
  refine LW_join (J := fun E W => ∃ (B : Bool) (z : Value) (G : List Int) (x : List (Nat × Obj)) (H : Mem) (N : List (Nat × Obj)), Sub μ0 H ∧ ST true (keys ((i, Obj.cells (#[g] : Array Value) 92 (0, 0)) :: (c ++ []))) w W H ((i, Obj.cells (#[z] : Array Value) 92 (0, 0)) :: (x ++ N)) ∧ E 4 = (.bool false) ∧ E 16 = (.bool B) ∧ Row 5 (encIk .u8) 1 z G x ∧ some (B, G) = some r) 5 ?_ (fun y => ?_)
  · rintro E W ⟨B, z, G, x, H, N, b3, hST, c1, a7, a0, t⟩
    refine V (R_assign a7) (LW_nil (sq_n (CW_ret ?_)))
    replace t := Option.some.inj t; subst t
    exact retQ_1 (v := (.bool B)) rfl rfl ⟨_, _, rfl, (hST.bkM (Kb (Kr Sn))), z, x, rfl, rfl, a0⟩
  rcases bool_cases r1 with f | f
  · replace a := if_t f a
    refine Vg rfl (congrArg Value.bool f) (R_move rfl) (Vg rfl (congrArg Value.bool f) (R_move rfl) ?_)
    obtain ⟨a9, Y, a⟩ := bind_some a
    refine VgE rfl (congrArg Value.bool f) (E_bytesOf hST Tryz.underlying9 Tryz.underlying54 Tryz.underlying5 rfl Y (fun b9 T c4 hST K hl48 a2 b6 => ?_))
    obtain ⟨Q, Z, a⟩ := bind_some a
    have hsz := hST.size
    refine VgE rfl (congrArg Value.bool f) (E_callM (args := [(.pointer (some ⟨i, 0, none⟩)), T]) (caps := #[]) _ _ hST (Cb Pz (Cr Qz Cn)) rfl Tryz.call165 (by exact args2 rfl rfl) (fun hH hN hsb hmm => (w_tape_Pen_Text_w i g j c T a9 _ _ ⟨hH, hN, Sub.refl _⟩ k (a2.mono (Pl.mono _) hsb) Z)) (fun c0 c3 b2 b8 hST M hl56 hlift U => ?_))
    obtain ⟨b1, a6, u, rfl, a3⟩ := U
    replace u := u.symm; subst u
    replace hST := hST.perm (Tb (Tr Tn))
    refine V (R_pickT (congrArg Value.bool f) rfl) ?_
    replace a := Option.some.inj a; subst a
    exact y _ _ ⟨Q.1, b1, Q.2, a6, b2, _, (K.trans M), (hST.sel St), rfl, rfl, a3, D⟩
  replace a := if_f f a
  refine Vn rfl (congrArg Value.bool f) (Vn rfl (congrArg Value.bool f) (Vn rfl (congrArg Value.bool f) (Vn rfl (congrArg Value.bool f) (V (R_pickF (congrArg Value.bool f) rfl) ?_))))
  replace a := Option.some.inj a; subst a
  exact y _ _ ⟨false, g, j, c, μ0, _, (Sub.refl _), (hST.sel St), rfl, rfl, k, D⟩
theorem w_role_Put_w (a : Nat) (j : Value) (y : List Int) (i : List (Nat × Obj)) (t : Role) (r : (Bool × (List Int))) (w : World) {μ0 : Mem} (h0 : Ent μ0 ((a, Obj.cells (#[j] : Array Value) 92 (0, 0)) :: (i ++ [])) w) (B : Row 5 (encIk .u8) 1 j y i) (hm : m_role_Put_w y t = some r) :
    GivesM true Tryz.prog 269 [(.pointer (some ⟨a, 0, none⟩)), (.agg (encRole t).toArray)] w ((a, Obj.cells (#[j] : Array Value) 92 (0, 0)) :: (i ++ [])) (fun v L1 W' => ∃ (y1 : Value) (S2 : List (Nat × Obj)), v = (.bool (r.1)) ∧ L1 = ((a, Obj.cells (#[y1] : Array Value) 92 (0, 0)) :: (S2 ++ [])) ∧ Row 5 (encIk .u8) 1 y1 r.2 S2) := by
  have hST := ST.startE (dd := true) h0
  unfold m_role_Put_w at hm
  refine calls_of_CW (n := 23) Tryz.func269 rfl rfl (Nat.le_of_ble_eq_true rfl) (CW_seq (CW_region (VE (E_box (v := (.agg (encRole t).toArray)) hST rfl (fun W2 b1 hST => V (R_assign rfl) (LW_nil (sq_n (CW_seq (CW_region (V (R_move rfl) (V (R_ptrNeNil Tryz.underlying90 rfl rfl) (V (R_move rfl) (Vg rfl rfl (R_load rfl (load_boxA hST.has Mh (encRole t) rfl Tryz.isAgg28 Tryz.sizeOf28)) ?_)))))))))))))
  obtain ⟨r3, c9, hm⟩ := bind_some hm
  refine VgE rfl rfl (E_gives (args := [(.agg (encRole t).toArray)]) hST rfl Tryz.call254 (by exact args1 rfl) ((w_role_Right t _ _  c9)) (fun W5 hST => V (R_pickT rfl rfl) (V (R_move rfl) ?_)))
  obtain ⟨e6, g, a2⟩ := bind_some hm
  refine LW_join (J := fun E W => ∃ (Z : Bool) (H : Value) (u : List Int) (z : List (Nat × Obj)) (I : Mem) (a7 : List (Nat × Obj)), Sub μ0 I ∧ ST true (keys ((a, Obj.cells (#[j] : Array Value) 92 (0, 0)) :: (i ++ []))) w W I ((b1, Obj.cells ((encRole t).toArray : Array Value) 28 (0, 0)) :: ((a, Obj.cells (#[H] : Array Value) 92 (0, 0)) :: (z ++ a7))) ∧ E 0 = (.pointer (some ⟨a, 0, none⟩)) ∧ E 3 = (.pointer (some ⟨b1, 0, none⟩)) ∧ E 4 = (.bool false) ∧ E 16 = (.bool Z) ∧ Row 5 (encIk .u8) 1 H u z ∧ (((if Z then (((m_name_Put_w u t.Word)).bind fun G => some (G.1, G.2)) else some (false, u)) : Option ((Bool × (List Int)))).bind fun (x, D) => some (x, D)) = some r) 5 ?_ (fun U => ?_)
  · rintro E W ⟨Z, H, u, z, I, a7, d5, hST, c5, c6, a9, c7, a3, b4⟩
    refine V (R_move c7) ?_
    obtain ⟨e5, f, a0⟩ := bind_some b4
    refine LW_join (J := fun E W => ∃ (x : Bool) (Y : Value) (D : List Int) (Q : List (Nat × Obj)) (a4 : Mem) (a8 : List (Nat × Obj)), Sub I a4 ∧ ST true (keys ((a, Obj.cells (#[j] : Array Value) 92 (0, 0)) :: (i ++ []))) w W a4 ((a, Obj.cells (#[Y] : Array Value) 92 (0, 0)) :: (Q ++ a8)) ∧ E 4 = (.bool false) ∧ E 22 = (.bool x) ∧ Row 5 (encIk .u8) 1 Y D Q ∧ some (x, D) = some r) 5 ?_ (fun T => ?_)
    · rintro E W ⟨x, Y, D, Q, a4, a8, d6, hST, e4, c8, b7, K⟩
      refine V (R_assign c8) (LW_nil (sq_n (CW_ret ?_)))
      replace K := Option.some.inj K; subst K
      exact retQ_1 (v := (.bool x)) rfl rfl ⟨_, _, rfl, (hST.bkM (Kb (Kr Sn))), Y, Q, rfl, rfl, b7⟩
    rcases bool_cases Z with c | c
    · replace f := if_t c f
      refine Vg rfl (congrArg Value.bool c) (R_move c5) (Vg rfl (congrArg Value.bool c) (R_field fa28_1 c6) (Vg rfl (congrArg Value.bool c) (R_load rfl (load_box1 hST.has Mh rfl Tryz.isAgg9)) ?_))
      obtain ⟨G, b5, f⟩ := bind_some f
      have hsz := hST.size
      refine VgE rfl (congrArg Value.bool c) (E_callM (args := [(.pointer (some ⟨a, 0, none⟩)), (.string t.Word)]) (caps := #[]) _ _ hST (Cb (Pb Pz) (Cr (Qb Qz) Cn)) rfl Tryz.call270 (by exact args2 rfl rfl) (fun hH hN hsb hmm => (w_name_Put_w a H u z t.Word _ _ ⟨hH, hN, Sub.refl _⟩ a3 b5)) (fun e2 e7 d3 e0 hST a5 hl67 hlift b2 => ?_))
      obtain ⟨d1, c2, M, rfl, b8⟩ := b2
      replace M := M.symm; subst M
      replace hST := hST.perm (Tb (Tr Tn))
      refine V (R_pickT (congrArg Value.bool c) rfl) ?_
      replace f := Option.some.inj f; subst f
      exact T _ _ ⟨G.1, d1, G.2, c2, d3, _, a5, (hST.sel (Kb (Kr (Db St)))), a9, rfl, b8, a0⟩
    replace f := if_f c f
    refine Vn rfl (congrArg Value.bool c) (Vn rfl (congrArg Value.bool c) (Vn rfl (congrArg Value.bool c) (Vn rfl (congrArg Value.bool c) (V (R_pickF (congrArg Value.bool c) rfl) ?_))))
    replace f := Option.some.inj f; subst f
    exact T _ _ ⟨false, H, u, z, I, _, (Sub.refl _), (hST.sel (Db St)), a9, rfl, a3, a0⟩
  rcases bool_cases r3 with k | k
  · replace g := if_t k g
    refine Vg rfl (congrArg Value.bool k) (R_move rfl) (Vg rfl (congrArg Value.bool k) (R_field fa28_0 rfl) (Vg rfl (congrArg Value.bool k) (R_load rfl (load_box1 hST.has Mh rfl Tryz.isAgg9)) ?_))
    obtain ⟨b0, b6, g⟩ := bind_some g
    have hsz := hST.size
    refine VgE rfl (congrArg Value.bool k) (E_callM (args := [(.pointer (some ⟨a, 0, none⟩)), (.string t.Owner)]) (caps := #[]) _ _ hST (Cb (Pb Pz) (Cr (Qb Qz) Cn)) rfl Tryz.call270 (by exact args2 rfl rfl) (fun hH hN hsb hmm => (w_name_Put_w a j y i t.Owner _ _ ⟨hH, hN, Sub.refl _⟩ B b6)) (fun e3 e8 d4 e1 hST a6 hl84 hlift b3 => ?_))
    obtain ⟨d2, c3, N, rfl, b9⟩ := b3
    replace N := N.symm; subst N
    replace hST := hST.perm (Tb (Tr Tn))
    refine V (R_pickT (congrArg Value.bool k) rfl) ?_
    replace g := Option.some.inj g; subst g
    exact U _ _ ⟨b0.1, d2, b0.2, c3, d4, _, a6, (hST.sel (Sb (Pb (Pr Pz)) St)), rfl, rfl, rfl, rfl, b9, a2⟩
  replace g := if_f k g
  refine Vn rfl (congrArg Value.bool k) (Vn rfl (congrArg Value.bool k) (Vn rfl (congrArg Value.bool k) (Vn rfl (congrArg Value.bool k) (V (R_pickF (congrArg Value.bool k) rfl) ?_))))
  replace g := Option.some.inj g; subst g
  exact U _ _ ⟨false, j, y, i, μ0, _, (Sub.refl _), (hST.sel St), rfl, rfl, rfl, rfl, B, a2⟩
theorem w_tape_Pen_Bytes (f : Nat) (a : Value) (c : List Int) (r : List Int) (w : World) (i : Sl (Pl (encIk .u8)) 1 (hp w) a c) (j : At (hp w) (.pointer (some ⟨f, 0, none⟩)) [a]) (hm : m_tape_Pen_Bytes c = some r) :
    GivesRow true Tryz.prog 66 [(.pointer (some ⟨f, 0, none⟩))] w 5 (encIk .u8) 1 r := by
  have hST := ST.start (dd := true) w
  unfold m_tape_Pen_Bytes at hm
  refine calls_of_CW (n := 10) Tryz.func66 rfl rfl (Nat.le_of_ble_eq_true rfl) (CW_seq (CW_region (V (R_assign rfl) (LW_nil (sq_n (CW_seq (CW_seq (CW_region (V (R_move rfl) (V (R_ptrEqNil Tryz.underlying90 rfl rfl) (LW_nil (sq_n (CW_if_false rfl (CW_skip ?_))))))))))))))
  refine sq_n (CW_seq (CW_region (V (R_move rfl) (V (R_nilCheck rfl) (VQ (R_fieldAt [a] fa92_0 rfl j rfl) (fun D t => V (R_load rfl (load_at1 hST.has (y := a) t Tryz.isAgg54)) ?_))))))
  obtain ⟨G, u, hm⟩ := bind_some hm
  refine VE (F_givesRow (args := [a]) _ hST rfl Tryz.call153 (by exact args1 rfl) ((w_bytes_Clone a c _ _ (i.mono (Pl.mono _) hST.sub_hp) u)) (fun B x H k hST z hl9 g => V (R_assign rfl) (LW_nil (sq_n (CW_ret ?_)))))
  replace hm := Option.some.inj hm; subst hm
  exact retQ_1 (v := x) rfl rfl ⟨_, k, rfl, hST.backRow (fun p hq => (Ml hq)) g.nd, g⟩
theorem w_cred_Bytes (c : Cred) (r : List Int) (w : World)  (hm : m_cred_Bytes c = some r) :
    GivesRow true Tryz.prog 155 [(.agg (encCred c).toArray)] w 5 (encIk .u8) 1 r := by
  have hST := ST.start (dd := true) w
  unfold m_cred_Bytes at hm
  refine calls_of_CW (n := 53) Tryz.func155 rfl rfl (Nat.le_of_ble_eq_true rfl) (CW_seq (CW_region (VE (E_box (v := (.agg (encCred c).toArray)) hST rfl (fun W2 b1 hST => V (R_assign rfl) (LW_nil (sq_n (CW_seq (CW_seq (CW_region (V (R_load rfl (load_boxA hST.has Mh (encCred c) rfl Tryz.isAgg53 Tryz.sizeOf53)) ?_)))))))))))
  obtain ⟨r3, g6, hm⟩ := bind_some hm
  refine VE (E_gives (args := [(.agg (encCred c).toArray)]) hST rfl Tryz.call137 (by exact args1 rfl) ((w_cred_Right c _ _  g6)) (fun W5 hST => V (R_not rfl) (LW_nil (sq_n (CW_if (b := (!r3)) rfl (fun a2 => ?_) (fun a2 => ?_))))))
  · replace hm := if_t a2 hm
    refine CW_seq (CW_region (V (R_assign rfl) (LW_nil (sq_n ?_))))
    replace hST := hST.sel (Db St)
    refine CW_ret (sq_r ?_)
    replace hm := Option.some.inj hm; subst hm
    exact retQ_1 (v := (.slice none 0 0)) rfl rfl ⟨_, [], rfl, hST.backRow (fun p hq => by cases hq) (by simp), Row.nil _ _ _⟩
  replace hm := if_f a2 hm
  refine CW_skip (sq_n (CW_seq (CW_region (V (R_build (qs := #[]) (v := (.agg #[(.slice none 0 0)])) parts0 (run_build Tryz.zeroValue92 Tryz.underlying92 (pl92 _ Tryz.underlying92) (by kernel_rfl))) (VE (E_box (v := (.agg #[(.slice none 0 0)])) hST rfl (fun W8 f hST => V (R_assign rfl) (LW_nil (sq_n (CW_seq (CW_region (V (R_move rfl) (V (R_field fa53_0 rfl) (V (R_load rfl (load_box1 hST.has (Mt Mh) rfl Tryz.isAgg3)) ?_))))))))))))))
  obtain ⟨r9, e3, hm⟩ := bind_some hm
  have hsz := hST.size
  refine VE (E_callM (args := [(.pointer (some ⟨f, 0, none⟩)), (.int .i64 c.Kind)]) (caps := #[]) _ _ hST (Cb Pz (C0 Cn)) rfl Tryz.call268 (by exact args2 rfl rfl) (fun hH hN hsb hmm => (w_tape_Pen_Number_w f (.slice none 0 0) ([]) [] c.Kind _ _ ⟨hH, hN, Sub.refl _⟩ (Row.nil _ _ _) e3)) (fun j7 j9 k1 j5 hST g8 hl14 hlift e1 => ?_))
  obtain ⟨g7, g3, T, rfl, e5⟩ := e1
  replace T := T.symm; subst T
  replace hST := hST.perm (Tb (Tr Tn))
  refine LW_nil (sq_n (CW_seq (CW_region (V (R_move rfl) (V (R_field fa53_1 rfl) (V (R_load rfl (load_boxA hST.has (Mt (Ma Mh)) (encRole c.Head) rfl Tryz.isAgg28 Tryz.sizeOf28)) ?_))))))
  obtain ⟨M, e4, hm⟩ := bind_some hm
  have hsz := hST.size
  refine VE (E_callM (args := [(.pointer (some ⟨f, 0, none⟩)), (.agg (encRole c.Head).toArray)]) (caps := #[]) _ _ hST (Cb Pz (Cr Qz Cn)) rfl Tryz.call269 (by exact args2 rfl rfl) (fun hH hN hsb hmm => (w_role_Put_w f g7 r9.2 g3 c.Head _ _ ⟨hH, hN, Sub.refl _⟩ e5 e4)) (fun j8 k0 d2 j6 hST g9 hl27 hlift e2 => ?_))
  obtain ⟨N, K, U, rfl, j⟩ := e2
  replace U := U.symm; subst U
  replace hST := hST.perm (Tb (Tr Tn))
  refine LW_nil (sq_n (CW_seq ?_))
  obtain ⟨i5, a, i⟩ := bind_some hm
  refine CW_cut (fun E W => ∃ (J : Value) (I : List Int) (Q : List (Nat × Obj)) (Y : Mem) (a1 : List (Nat × Obj)), Sub d2 Y ∧ ST true NoF w W Y ((f, Obj.cells (#[J] : Array Value) 92 (0, 0)) :: (Q ++ a1)) ∧ E 3 = (.pointer (some ⟨f, 0, none⟩)) ∧ Row 5 (encIk .u8) 1 J I Q ∧ (((m_tape_Pen_Bytes I)).bind fun a9 => some a9) = some r) ?_ ?_
  · refine CW_seq (CW_region (V (R_field fa53_0 rfl) (V (R_load rfl (load_box1 hST.has (Mt (Ma Mh)) rfl Tryz.isAgg3)) (LW_nil (sq_n (CW_block (CW_seq (CW_region (V (R_int rfl rfl rfl) (V (R_assign rfl) (LW_nil (sq_n (CW_if (b := (c.Kind == 1)) rfl (fun k => ?_) (fun k => ?_))))))))))))))
    · replace a := if_t k a
      refine CW_region (V (R_move rfl) (V (R_field fa53_2 rfl) (V (R_load rfl (load_box1 hST.has (Mt (Ma Mh)) rfl Tryz.isAgg9)) ?_)))
      obtain ⟨e6, b9, a⟩ := bind_some a
      have hsz := hST.size
      refine VE (E_callM (args := [(.pointer (some ⟨f, 0, none⟩)), (.string c.Who)]) (caps := #[]) _ _ hST (Cb Pz (Cr Qz Cn)) rfl Tryz.call270 (by exact args2 rfl rfl) (fun hH hN hsb hmm => (w_name_Put_w f N M.2 K c.Who _ _ ⟨hH, hN, Sub.refl _⟩ j b9)) (fun h7 i6 f9 h0 hST a3 hl144 hlift b0 => ?_))
      obtain ⟨f3, d4, y, rfl, c6⟩ := b0
      replace y := y.symm; subst y
      replace hST := hST.perm (Tb (Tr Tn))
      refine LW_nil (bq_n (sq_n ?_))
      replace a := Option.some.inj a; subst a
      exact ⟨f3, e6.2, d4, f9, _, a3, (hST.sel (Kb (Kr (Db St)))), rfl, c6, i⟩
    replace a := if_f k a
    refine CW_seq (CW_region (V (R_int rfl rfl rfl) (V (R_assign rfl) (LW_nil (sq_n (CW_if (b := (c.Kind == 2)) rfl (fun t => ?_) (fun t => ?_)))))))
    · replace a := if_t t a
      refine CW_region (V (R_move rfl) (V (R_field fa53_3 rfl) (V (R_load rfl (load_boxA hST.has (Mt (Ma Mh)) (encRole c.B) rfl Tryz.isAgg28 Tryz.sizeOf28)) ?_)))
      obtain ⟨e7, c0, a⟩ := bind_some a
      have hsz := hST.size
      refine VE (E_callM (args := [(.pointer (some ⟨f, 0, none⟩)), (.agg (encRole c.B).toArray)]) (caps := #[]) _ _ hST (Cb Pz (Cr Qz Cn)) rfl Tryz.call269 (by exact args2 rfl rfl) (fun hH hN hsb hmm => (w_role_Put_w f N M.2 K c.B _ _ ⟨hH, hN, Sub.refl _⟩ j c0)) (fun h8 i7 g0 h1 hST a4 hl158 hlift b2 => ?_))
      obtain ⟨f4, d5, z, rfl, c7⟩ := b2
      replace z := z.symm; subst z
      replace hST := hST.perm (Tb (Tr Tn))
      refine LW_nil (bq_n (sq_n ?_))
      replace a := Option.some.inj a; subst a
      exact ⟨f4, e7.2, d5, g0, _, a4, (hST.sel (Kb (Kr (Db St)))), rfl, c7, i⟩
    replace a := if_f t a
    refine CW_seq (CW_region (V (R_int rfl rfl rfl) (V (R_assign rfl) (LW_nil (sq_n (CW_if (b := (c.Kind == 3)) rfl (fun u => ?_) (fun u => ?_)))))))
    · replace a := if_t u a
      refine CW_seq (CW_region (V (R_move rfl) (V (R_field fa53_3 rfl) (V (R_load rfl (load_boxA hST.has (Mt (Ma Mh)) (encRole c.B) rfl Tryz.isAgg28 Tryz.sizeOf28)) ?_))))
      obtain ⟨e8, c1, a⟩ := bind_some a
      have hsz := hST.size
      refine VE (E_callM (args := [(.pointer (some ⟨f, 0, none⟩)), (.agg (encRole c.B).toArray)]) (caps := #[]) _ _ hST (Cb Pz (Cr Qz Cn)) rfl Tryz.call269 (by exact args2 rfl rfl) (fun hH hN hsb hmm => (w_role_Put_w f N M.2 K c.B _ _ ⟨hH, hN, Sub.refl _⟩ j c1)) (fun h9 i8 j3 h2 hST a5 hl172 hlift b3 => ?_))
      obtain ⟨f5, d6, B, rfl, c8⟩ := b3
      replace B := B.symm; subst B
      replace hST := hST.perm (Tb (Tr Tn))
      refine LW_nil (sq_n (CW_region (V (R_move rfl) (V (R_field fa53_5 rfl) (V (R_load rfl (load_box1 hST.has (Mt (Ma Mh)) rfl Tryz.isAgg9)) ?_)))))
      obtain ⟨e9, c2, a⟩ := bind_some a
      have hsz := hST.size
      refine VE (E_callM (args := [(.pointer (some ⟨f, 0, none⟩)), (.string c.Word2)]) (caps := #[]) _ _ hST (Cb Pz (Cr Qz Cn)) rfl Tryz.call270 (by exact args2 rfl rfl) (fun hH hN hsb hmm => (w_name_Put_w f f5 e8.2 d6 c.Word2 _ _ ⟨hH, hN, Sub.refl _⟩ c8 c2)) (fun i0 i9 g1 h3 hST a6 hl185 hlift b4 => ?_))
      obtain ⟨f6, d7, D, rfl, c9⟩ := b4
      replace D := D.symm; subst D
      replace hST := hST.perm (Tb (Tr Tn))
      refine LW_nil (bq_n (sq_n ?_))
      replace a := Option.some.inj a; subst a
      exact ⟨f6, e9.2, d7, g1, _, (a5.trans a6), (hST.sel (Kb (Kr (Db St)))), rfl, c9, i⟩
    replace a := if_f u a
    refine CW_seq (CW_region (V (R_int rfl rfl rfl) (V (R_assign rfl) (LW_nil (sq_n (CW_if (b := (c.Kind == 4)) rfl (fun x => ?_) (fun x => ?_)))))))
    · replace a := if_t x a
      refine CW_seq (CW_region (V (R_move rfl) (V (R_field fa53_3 rfl) (V (R_load rfl (load_boxA hST.has (Mt (Ma Mh)) (encRole c.B) rfl Tryz.isAgg28 Tryz.sizeOf28)) ?_))))
      obtain ⟨f0, c3, a⟩ := bind_some a
      have hsz := hST.size
      refine VE (E_callM (args := [(.pointer (some ⟨f, 0, none⟩)), (.agg (encRole c.B).toArray)]) (caps := #[]) _ _ hST (Cb Pz (Cr Qz Cn)) rfl Tryz.call269 (by exact args2 rfl rfl) (fun hH hN hsb hmm => (w_role_Put_w f N M.2 K c.B _ _ ⟨hH, hN, Sub.refl _⟩ j c3)) (fun i1 j0 j4 h4 hST a7 hl199 hlift b5 => ?_))
      obtain ⟨f7, d8, G, rfl, d0⟩ := b5
      replace G := G.symm; subst G
      replace hST := hST.perm (Tb (Tr Tn))
      refine LW_nil (sq_n (CW_region (V (R_move rfl) (V (R_field fa53_4 rfl) (V (R_load rfl (load_boxA hST.has (Mt (Ma Mh)) (encRole c.C) rfl Tryz.isAgg28 Tryz.sizeOf28)) ?_)))))
      obtain ⟨f1, c4, a⟩ := bind_some a
      have hsz := hST.size
      refine VE (E_callM (args := [(.pointer (some ⟨f, 0, none⟩)), (.agg (encRole c.C).toArray)]) (caps := #[]) _ _ hST (Cb Pz (Cr Qz Cn)) rfl Tryz.call269 (by exact args2 rfl rfl) (fun hH hN hsb hmm => (w_role_Put_w f f7 f0.2 d8 c.C _ _ ⟨hH, hN, Sub.refl _⟩ d0 c4)) (fun i2 j1 g2 h5 hST a8 hl212 hlift b6 => ?_))
      obtain ⟨f8, d9, H, rfl, d1⟩ := b6
      replace H := H.symm; subst H
      replace hST := hST.perm (Tb (Tr Tn))
      refine LW_nil (bq_n (sq_n ?_))
      replace a := Option.some.inj a; subst a
      exact ⟨f8, f1.2, d9, g2, _, (a7.trans a8), (hST.sel (Kb (Kr (Db St)))), rfl, d1, i⟩
    replace a := if_f x a
    refine CW_skip (bq_n (sq_n ?_))
    replace a := Option.some.inj a; subst a
    exact ⟨N, M.2, K, d2, _, (Sub.refl _), (hST.sel (Kb (Kr (Db St)))), rfl, j, i⟩
  rintro E W ⟨J, I, Q, Y, a1, g4, hST, e0, c5, g⟩
  refine CW_seq (CW_region (V (R_move e0) ?_))
  obtain ⟨a9, b8, g⟩ := bind_some g
  refine VE (F_givesRow (args := [(.pointer (some ⟨f, 0, none⟩))]) _ hST rfl Tryz.call66 (by exact args1 rfl) ((w_tape_Pen_Bytes f J I _ _ (c5.sl (fun _ => rfl) (fun b o hq => hST.at_ (Mt (Ml hq)))) (At.of (hST.at_ Mh) _ rfl) b8)) (fun h6 f2 j2 d3 hST g5 hl131 Z => V (R_assign rfl) (LW_nil (sq_n ?_))))
  replace hST := hST.sel (Kr (Db (Dr St)))
  refine CW_ret ?_
  replace g := Option.some.inj g; subst g
  exact retQ_1 (v := f2) rfl rfl ⟨_, d3, rfl, hST.backRow (fun p hq => (Ml hq)) Z.nd, Z⟩
theorem w_tag_right (j : Value) (k : List Int) (r : Bool) (w : World) (g : Sl (Pl (encIk .u8)) 1 (hp w) j k) (hm : m_tag_right k = some r) :
    Gives true Tryz.prog 255 [j] w (.bool r) := by
  have hST := ST.start (dd := true) w
  unfold m_tag_right at hm
  refine calls_of_CW (n := 11) Tryz.func255 rfl rfl (Nat.le_of_ble_eq_true rfl) (CW_seq (CW_region (V (R_assign rfl) (LW_nil (sq_n (CW_seq (CW_region (V (R_move rfl) (V (R_len Tryz.underlying54 rfl g) (V (R_int rfl rfl rfl) (V (R_move rfl) ?_)))))))))))
  obtain ⟨B, c, u⟩ := bind_some hm
  refine LW_join (J := fun E W => ∃ (t : Bool) (x : List (Nat × Obj)), ST true NoF w W (hp w) x ∧ E 2 = (.bool false) ∧ E 10 = (.bool t) ∧ some t = some r) 4 ?_ (fun f => ?_)
  · rintro E W ⟨t, x, hST, z, y, i⟩
    refine V (R_assign y) (LW_nil (sq_n (CW_ret ?_)))
    replace i := Option.some.inj i; subst i
    exact retQ_1 (v := (.bool t)) rfl rfl ⟨rfl, hST.ex⟩
  rcases bool_cases ((decide (((k.length : Int)) ≥ 1))) with a | a
  · replace c := if_t a c
    refine Vg rfl (congrArg Value.bool a) (R_move rfl) (Vg rfl (congrArg Value.bool a) (R_len Tryz.underlying54 rfl g) (Vg rfl (congrArg Value.bool a) (R_int rfl rfl rfl) (V (R_pickT (congrArg Value.bool a) rfl) ?_)))
    replace c := Option.some.inj c; subst c
    exact f _ _ ⟨((decide (((k.length : Int)) ≤ 32))), _, (hST.sel St), rfl, rfl, u⟩
  replace c := if_f a c
  refine Vn rfl (congrArg Value.bool a) (Vn rfl (congrArg Value.bool a) (Vn rfl (congrArg Value.bool a) (V (R_pickF (congrArg Value.bool a) rfl) ?_)))
  replace c := Option.some.inj c; subst c
  exact f _ _ ⟨false, _, (hST.sel St), rfl, rfl, u⟩
theorem w_tag_Sum (u : Value) (H : List (List Int)) (r : Int) (w : World) (U : Sl (SlR (encIk .u8) 1) 1 (hp w) u H) (hm : m_tag_Sum H = some r) :
    Gives true Tryz.prog 256 [u] w (.int .u64 r) := by
  have hST := ST.start (dd := true) w
  unfold m_tag_Sum at hm
  refine calls_of_CW (n := 28) Tryz.func256 rfl rfl (Nat.le_of_ble_eq_true rfl) (CW_seq (CW_region (V (R_assign rfl) (LW_nil (sq_n (CW_seq (CW_region (V (R_assign rfl) (LW_nil (sq_n (CW_seq (CW_seq (CW_region (V (R_move rfl) ?_))))))))))))))
  refine V (R_len Tryz.underlying365 rfl U) (V (R_move rfl) (LW_nil (sq_n (CW_range (fun i E W => ∃ (j : Int) (D : List (Nat × Obj)), (E 10 = .int .i64 (i : Nat) ∧ E 9 = .int .i64 (H.length : Nat)) ∧ ST true NoF w W (hp w) D ∧ E 3 = (.int .u64 j) ∧ E 8 = u ∧ m_tag_Sum_L1 (H.drop i) j = some r) H.length U.len ⟨14695981039346656037, _, ⟨rfl, rfl⟩, (hST.sel St), rfl, rfl, hm⟩ (by decide) (by decide) (by decide) (fun _ _ _ h => by obtain ⟨_, _, eIN, _⟩ := h; exact eIN) ?_ ?_))))
  · rintro Y E W a2 ⟨j, D, ⟨eI, eN⟩, hST, I, J, c⟩
    obtain ⟨z, b5, b0, a9, b1⟩ := drop_cons a2
    rw [b0] at c
    rw [m_tag_Sum_L1] at c
    refine CW_block (CW_seq (CW_region (VQ (R_indexN (enc := (encIk .u8)) (k2 := 1) (i := (Y : Int)) (x0 := z) Tryz.underlying365 Tryz.sizeOf54 J eI U (Int.natCast_nonneg _) a9) (fun c3 ⟨a1, a7, x⟩ => V (R_load rfl (load_at1 hST.has (y := a1) a7 Tryz.isAgg54)) (V (R_assign rfl) (LW_nil (sq_n (CW_seq (CW_region (V (R_move rfl) (V (R_len Tryz.underlying54 rfl x) (V (R_move rfl) (LW_nil (sq_n ?_))))))))))))))
    refine CW_tail ?_
    obtain ⟨c1, a5, a6⟩ := bind_some c
    refine CW_cut (fun E W => ∃ (B : Int) (Z : List (Nat × Obj)), ST true NoF w W (hp w) Z ∧ E 3 = (.int .u64 B) ∧ E 8 = u ∧ E 9 = (.int .i64 ((H.length : Int))) ∧ E 10 = (.int .i64 ((Y : Int))) ∧ (m_tag_Sum_L1 b5 B) = some r) ?_ ?_
    · refine CW_range (fun i E W => ∃ (g : Int) (G : List (Nat × Obj)), (E 16 = .int .i64 (i : Nat) ∧ E 15 = .int .i64 (z.length : Nat)) ∧ ST true NoF w W (hp w) G ∧ E 3 = (.int .u64 g) ∧ E 8 = u ∧ E 9 = (.int .i64 ((H.length : Int))) ∧ E 10 = (.int .i64 ((Y : Int))) ∧ E 14 = a1 ∧ m_tag_Sum_L2 (z.drop i) g = some c1) z.length x.len ⟨j, _, ⟨rfl, rfl⟩, (hST.sel St), I, J, eN, eI, rfl, a5⟩ (by decide) (by decide) (by decide) (fun _ _ _ h => by obtain ⟨_, _, eIN, _⟩ := h; exact eIN) ?_ ?_
      · rintro c0 E W a3 ⟨g, G, ⟨eI, eN⟩, hST, K, M, N, Q, T, f⟩
        obtain ⟨t, c2, b3, b2, b4⟩ := drop_cons a3
        rw [b3] at f
        rw [m_tag_Sum_L2] at f
        refine CW_block (CW_seq (CW_region (VQ (R_indexP (enc := (encIk .u8)) (i := (c0 : Int)) (x0 := t) Tryz.underlying54 Tryz.sizeOf5 T eI x (Int.natCast_nonneg _) b2) (fun c4 a8 => V (R_load rfl (load_at1 hST.has (y := (.int .u8 t)) a8 Tryz.isAgg5)) (V (R_assign rfl) (LW_nil (sq_n (CW_region (V (R_move K) (V (R_move rfl) (V (R_convInt (k' := .u8) (a := t) Tryz.underlying5 Tryz.underlying309 rfl) (V (R_bits (k := .u64) (a := g) (b := ((IntKind.u64.wrap t))) (v := (.int .u64 ((IntKind.u64.wrap (BitVec.ofInt (IntKind.bits .u64) g ^^^ BitVec.ofInt (IntKind.bits .u64) ((IntKind.u64.wrap t))).toNat)))) rfl rfl rfl) (V (R_int rfl rfl rfl) (V (R_assign rfl) ?_))))))))))))))
        exact LW_nil (bq_n (sq_n ⟨eI, ((IntKind.u64.wrap (((IntKind.u64.wrap (BitVec.ofInt (IntKind.bits .u64) g ^^^ BitVec.ofInt (IntKind.bits .u64) ((IntKind.u64.wrap t))).toNat)) * 1099511628211))), _, ⟨rfl, eN⟩, (hST.sel St), rfl, M, N, Q, T, (by rw [b4]; exact f)⟩))
      rintro E W ⟨g, G, ⟨eI, eN⟩, hST, K, M, N, Q, T, f⟩
      rw [List.drop_length] at f
      rw [m_tag_Sum_L2] at f
      refine sq_n ?_
      replace f := Option.some.inj f; subst f
      exact ⟨g, _, (hST.sel St), K, M, N, Q, a6⟩
    rintro E W ⟨B, Z, hST, b6, b7, b8, b9, a4⟩
    exact bq_n (sq_n ⟨b9, B, _, ⟨rfl, b8⟩, (hST.sel St), b6, b7, (by rw [b1]; exact a4)⟩)
  rintro E W ⟨j, D, ⟨eI, eN⟩, hST, I, J, c⟩
  rw [List.drop_length] at c
  rw [m_tag_Sum_L1] at c
  refine sq_n (CW_seq (CW_region (V (R_move I) (V (R_assign rfl) (LW_nil (sq_n (CW_ret ?_)))))))
  replace c := Option.some.inj c; subst c
  exact retQ_1 (v := (.int .u64 j)) rfl rfl ⟨rfl, hST.ex⟩
theorem w_tag_Make (B : Value) (f : List Int) (a2 : Value) (H : List Int) (r : List Int) (w : World) (g : Sl (Pl (encIk .u8)) 1 (hp w) B f) (U : Sl (Pl (encIk .u8)) 1 (hp w) a2 H) (hm : m_tag_Make f H = some r) :
    GivesRow true Tryz.prog 138 [B, a2] w 5 (encIk .u8) 1 r := by
  have hST := ST.start (dd := true) w
  unfold m_tag_Make at hm
  refine calls_of_CW (n := 37) Tryz.func138 rfl rfl (Nat.le_of_ble_eq_true rfl) (CW_seq (CW_region (V (R_assign rfl) (LW_nil (sq_n (CW_seq (CW_seq (CW_region (V (R_move rfl) ?_)))))))))
  obtain ⟨r1, b8, hm⟩ := bind_some hm
  refine VE (E_gives (args := [B]) hST rfl Tryz.call255 (by exact args1 rfl) ((w_tag_right B f _ _ (g.mono (Pl.mono _) hST.sub_hp) b8)) (fun W3 hST => V (R_not rfl) (LW_nil (sq_n (CW_if (b := (!r1)) rfl (fun Y => ?_) (fun Y => ?_))))))
  · replace hm := if_t Y hm
    refine CW_seq (CW_region (V (R_assign rfl) (LW_nil (sq_n (CW_ret (sq_r ?_))))))
    replace hm := Option.some.inj hm; subst hm
    exact retQ_1 (v := (.slice none 0 0)) rfl rfl ⟨_, [], rfl, hST.backRow (fun p hq => by cases hq) (by simp), Row.nil _ _ _⟩
  replace hm := if_f Y hm
  refine CW_skip (sq_n (CW_seq (CW_region (V (R_move rfl) (V (R_len Tryz.underlying54 rfl g) (V (R_convInt (k' := .i64) (a := (f.length : Int)) Tryz.underlying3 Tryz.underlying5 rfl) (VE (E_buildSlice (qs := #[(0, (.int .u8 ((IntKind.u8.wrap ((f.length : Int))))))]) (cs := [(.int .u8 ((IntKind.u8.wrap ((f.length : Int)))))].toArray) hST (parts1 rfl) (run_lit [(.int .u8 ((IntKind.u8.wrap ((f.length : Int)))))] Tryz.underlying54 Tryz.sizeOf5 Tryz.zeroValue5 (by decide) rfl (by intro v hv; simp only [List.mem_cons, List.not_mem_nil, or_false] at hv; rcases hv with rfl <;> rfl) rfl rfl) (fun W6 b5 hST => V (R_move rfl) (V (R_move rfl) (V (R_move rfl) ?_)))))))))))
  obtain ⟨D, I, rfl⟩ := g.form
  obtain ⟨A9, Q, rfl⟩ := U.form
  refine VE (E_buildSlice (qs := #[(0, (.slice (some ⟨b5, 0, none⟩) 1 1)), (1, (.slice D f.length I)), (2, (.slice A9 H.length Q)), (3, (.slice D f.length I))]) (cs := #[(.slice (some ⟨b5, 0, none⟩) 1 1), (.slice D f.length I), (.slice A9 H.length Q), (.slice D f.length I)]) hST (parts4 rfl rfl rfl rfl) (run_lit [(.slice (some ⟨b5, 0, none⟩) 1 1), (.slice D f.length I), (.slice A9 H.length Q), (.slice D f.length I)] Tryz.underlying365 Tryz.sizeOf54 Tryz.zeroValue54 (by decide) rfl (by intro v hv; simp only [List.mem_cons, List.not_mem_nil, or_false] at hv; rcases hv with rfl | rfl | rfl | rfl <;> rfl) rfl rfl) (fun c4 a8 hST => ?_))
  obtain ⟨t, b2, hm⟩ := bind_some hm
  refine VE (E_gives (args := [(.slice (some ⟨a8, 0, none⟩) 4 4)]) hST rfl Tryz.call256 (by exact args1 rfl) ((w_tag_Sum (.slice (some ⟨a8, 0, none⟩) 4 4) ([[(IntKind.u8.wrap ((f.length : Int)))], f, H, f]) _ _ (SlR.lit (l := [[(IntKind.u8.wrap ((f.length : Int)))], f, H, f]) (vs := [(.slice (some ⟨b5, 0, none⟩) 1 1), (.slice D f.length I), (.slice A9 H.length Q), (.slice D f.length I)]) rfl (Nat.le_of_ble_eq_true rfl) (hST.at_ Mh) (.cons (Sl.lit (enc := (encIk .u8)) (l := [(IntKind.u8.wrap ((f.length : Int)))]) (fun _ => rfl) rfl (Nat.le_of_ble_eq_true rfl) rfl (hST.at_ (Mt Mh))) (.cons (g.mono (Pl.mono _) hST.sub_hp) (.cons (U.mono (Pl.mono _) hST.sub_hp) (.cons (g.mono (Pl.mono _) hST.sub_hp) .nil))))) b2)) (fun c5 hST => V (R_assign rfl) (LW_nil (sq_n ?_))))
  replace hST := hST.sel (Db (Db St))
  refine CW_seq (CW_region ?_)
  obtain ⟨T, b0, hm⟩ := bind_some hm
  refine VE (E_makeSlice (enc := (encIk .u8)) (z := 0) hST (fun _ => rfl) (by decide) Tryz.underlying54 info5.1 info5.2.1 info5.2.2.1 info5.2.2.2 rfl rfl rfl b0 (fun c6 Z b7 hST N => V (R_assign rfl) (LW_nil (sq_n (CW_seq (CW_seq (CW_region (V (R_move rfl) (V (R_lenRow Tryz.underlying54 rfl N) (V (R_move rfl) (LW_nil (sq_n (CW_range (fun i E W => ∃ (J : List Int) (G : List (Nat × Obj)) (K : List (Nat × Obj)), (E 23 = .int .i64 (i : Nat) ∧ E 22 = .int .i64 (T.length : Nat)) ∧ ST true NoF w W (hp w) (G ++ K) ∧ E 5 = (.int .u64 t) ∧ E 6 = Z ∧ Row 5 (encIk .u8) 1 Z J G ∧ m_tag_Make_L1 t (T.drop i) i J = some r) T.length N.len ⟨T, b7, _, ⟨rfl, rfl⟩, (hST.sel St), rfl, rfl, N, hm⟩ (by decide) (by decide) (by decide) (fun _ _ _ h => by obtain ⟨_, _, _, eIN, _⟩ := h; exact eIN) ?_ ?_)))))))))))))
  · rintro k E W b1 ⟨J, G, K, ⟨eI, eN⟩, hST, M, x, j, c⟩
    obtain ⟨c7, c3, b3, c0, b4⟩ := drop_cons b1
    rw [b3] at c
    rw [m_tag_Make_L1] at c
    refine CW_block (CW_seq (CW_region (V (R_move eI) (V (R_assign rfl) (LW_nil (sq_n (CW_region (V (R_move x) (V (R_move rfl) (V (R_move M) (V (R_move rfl) (V (R_int rfl rfl rfl) (V (R_int rfl rfl rfl) ?_)))))))))))))
    obtain ⟨_, a6, c⟩ := bind_some c
    refine V (R_shr (a := t) (b := ((IntKind.i64.wrap (8 * ((IntKind.i64.wrap (7 - ((k : Int))))))))) rfl rfl (chkP a6)) (V (R_convInt (k' := .u64) (a := (Int.fdiv t (2 ^ min (Int.toNat ((IntKind.i64.wrap (8 * ((IntKind.i64.wrap (7 - ((k : Int))))))))) (IntKind.bits .u64)))) Tryz.underlying309 Tryz.underlying5 rfl) ?_)
    obtain ⟨b6, y, c⟩ := bind_some c
    exact VQ (R_indexRow (i := (k : Int)) (x0 := b6) Tryz.underlying54 Tryz.sizeOf5 rfl rfl j (idx_nonneg y) (idx_get y)) (fun c1 a7 => VO (F_storeRow (u := (.int .u8 ((IntKind.u8.wrap ((Int.fdiv t (2 ^ min (Int.toNat ((IntKind.i64.wrap (8 * ((IntKind.i64.wrap (7 - ((k : Int))))))))) (IntKind.bits .u64)))))))) (x1 := ((IntKind.u8.wrap ((Int.fdiv t (2 ^ min (Int.toNat ((IntKind.i64.wrap (8 * ((IntKind.i64.wrap (7 - ((k : Int))))))))) (IntKind.bits .u64)))))))  hST j (fun _ => rfl) (oneI _) rfl rfl rfl a7 (idx_get y) Tryz.sizeOf5 (fun b9 a9 hST a5 => LW_nil (bq_n (sq_n ⟨eI, ((J.set (Int.toNat ((k : Int))) ((IntKind.u8.wrap ((Int.fdiv t (2 ^ min (Int.toNat ((IntKind.i64.wrap (8 * ((IntKind.i64.wrap (7 - ((k : Int))))))))) (IntKind.bits .u64)))))))), a9, _, ⟨rfl, eN⟩, (hST.sel St), M, x, a5, (by rw [b4]; exact c)⟩)))))
  rintro E W ⟨J, G, K, ⟨eI, eN⟩, hST, M, x, j, c⟩
  rw [List.drop_length] at c
  rw [m_tag_Make_L1] at c
  refine sq_n (CW_seq (CW_region (V (R_move x) (V (R_assign rfl) (LW_nil (sq_n (CW_ret ?_)))))))
  replace c := Option.some.inj c; subst c
  exact retQ_1 (v := Z) rfl rfl ⟨_, G, rfl, hST.backRow (fun p hq => (Ml hq)) j.nd, j⟩
theorem w_keys_Registry_Sign (k : Value) (G : Option KeysRegistry) (a : Cred) (r : (Signed × Int)) (w : World) {U : Mem} (h0 : Ent U [] w) (J : OptR relKeysRegistry U k G) (hm : m_keys_Registry_Sign G a = some r) :
    GivesD true Tryz.prog 50 [k, (.agg (encCred a).toArray)] w U [] (fun v L1 μ1 => ∃ (y1 : Value), v = (.tuple #[(.agg #[(.int .i64 (((r.1).Cred).Kind)), (.string ((((r.1).Cred).Head).Owner)), (.string ((((r.1).Cred).Head).Word)), (.string (((r.1).Cred).Who)), (.string ((((r.1).Cred).B).Owner)), (.string ((((r.1).Cred).B).Word)), (.string ((((r.1).Cred).C).Owner)), (.string ((((r.1).Cred).C).Word)), (.string (((r.1).Cred).Word2)), y1]), (.int .i64 (r.2))]) ∧ L1 = [] ∧ Sl (Pl (encIk .u8)) 1 μ1 y1 ((r.1).Tag)) := by
  have hST := ST.startE (dd := true) h0
  unfold m_keys_Registry_Sign at hm
  refine calls_of_CW (n := 24) Tryz.func50 rfl rfl (Nat.le_of_ble_eq_true rfl) (CW_seq (CW_region (VE (E_box (v := (.agg (encCred a).toArray)) hST rfl (fun W2 b1 hST => VE (E_alloc hST Tryz.zeroValue56 (fun W4 b3 hST => V (R_assign rfl) (LW_nil (sq_n (CW_seq (CW_region (V (R_move rfl) (V (R_load rfl (load_boxA hST.has (Mt Mh) (encCred a) rfl Tryz.isAgg53 Tryz.sizeOf53)) ?_)))))))))))))
  obtain ⟨T, Y, hm⟩ := bind_some hm
  have hsz := hST.size
  refine VE (E_givesD (args := [k, (.agg (encCred a).toArray)]) (caps := #[]) [] _ hST (List.Perm.refl _) rfl Tryz.call154 (by exact args2 rfl rfl) (fun hH hN hsb hmm => (w_keys_Registry_of k G a _ _ ⟨hH, hN, hsb⟩ (J.mono dKeysRegistry (Sub.refl _)) Y)) (fun W7 b7 μ8 a8 hST y hl10 H => ?_))
  obtain ⟨D, u, rfl, Q⟩ := H
  replace u := u.symm; subst u
  replace hST := hST.perm Tn
  refine V (R_move rfl) (V (R_extract rfl rfl) (V (R_extract rfl rfl) (V (R_assign rfl) (V (R_assign rfl) (LW_nil (sq_n (CW_seq (CW_seq (CW_region (V (R_move rfl) (V (R_int rfl rfl rfl) (LW_nil (sq_n (CW_if (b := (T.2 != 0)) rfl (fun t => ?_) (fun t => ?_)))))))))))))))
  · replace hm := if_t t hm
    refine CW_seq (CW_region (V (R_build (qs := #[]) (v := (.agg #[(.int .i64 0), (.string (((⟨zS, zS⟩ : Role)).Owner)), (.string (((⟨zS, zS⟩ : Role)).Word)), (.string zS), (.string (((⟨zS, zS⟩ : Role)).Owner)), (.string (((⟨zS, zS⟩ : Role)).Word)), (.string (((⟨zS, zS⟩ : Role)).Owner)), (.string (((⟨zS, zS⟩ : Role)).Word)), (.string zS), (.slice none 0 0)])) parts0 (run_build Tryz.zeroValue56 Tryz.underlying56 (pl56 _ Tryz.underlying56) (by kernel_rfl))) (V (R_move rfl) (VO (F_store (.agg #[(.int .i64 0), (.string (((⟨zS, zS⟩ : Role)).Owner)), (.string (((⟨zS, zS⟩ : Role)).Word)), (.string zS), (.string (((⟨zS, zS⟩ : Role)).Owner)), (.string (((⟨zS, zS⟩ : Role)).Word)), (.string (((⟨zS, zS⟩ : Role)).Owner)), (.string (((⟨zS, zS⟩ : Role)).Word)), (.string zS), (.slice none 0 0)]) (#[(.int .i64 0), (.string (((⟨zS, zS⟩ : Role)).Owner)), (.string (((⟨zS, zS⟩ : Role)).Word)), (.string zS), (.string (((⟨zS, zS⟩ : Role)).Owner)), (.string (((⟨zS, zS⟩ : Role)).Word)), (.string (((⟨zS, zS⟩ : Role)).Owner)), (.string (((⟨zS, zS⟩ : Role)).Word)), (.string zS), (.slice none 0 0)]) hST rfl rfl Tryz.sizeOf56 (by simp [Value.cells, Value.oneCell']) (Nat.le_of_ble_eq_true rfl) rfl (fun b2 hST => V (R_assign rfl) (LW_nil (sq_n ?_))))))))
    replace hST := hST.sel (Kb (Db St))
    refine CW_ret (sq_r ?_)
    replace hm := Option.some.inj hm; subst hm
    exact retQ_ct (v0 := (.agg #[(.int .i64 0), (.string (((⟨zS, zS⟩ : Role)).Owner)), (.string (((⟨zS, zS⟩ : Role)).Word)), (.string zS), (.string (((⟨zS, zS⟩ : Role)).Owner)), (.string (((⟨zS, zS⟩ : Role)).Word)), (.string (((⟨zS, zS⟩ : Role)).Owner)), (.string (((⟨zS, zS⟩ : Role)).Word)), (.string zS), (.slice none 0 0)])) (v1 := (.int .i64 T.2)) rfl rfl (load_boxA hST.has Mh [(.int .i64 0), (.string (((⟨zS, zS⟩ : Role)).Owner)), (.string (((⟨zS, zS⟩ : Role)).Word)), (.string zS), (.string (((⟨zS, zS⟩ : Role)).Owner)), (.string (((⟨zS, zS⟩ : Role)).Word)), (.string (((⟨zS, zS⟩ : Role)).Owner)), (.string (((⟨zS, zS⟩ : Role)).Word)), (.string zS), (.slice none 0 0)] rfl Tryz.isAgg56 Tryz.sizeOf56) rfl ⟨_, _, _, rfl, (hST.bkM Sn), y, hl10, (ST.sub_hpx hST (Sel.mem Sn)), (.slice none 0 0), rfl, rfl, (Sl.nil _ _ _)⟩
  replace hm := if_f t hm
  refine CW_skip (sq_n (CW_seq ?_))
  replace hST := hST.drew
  have hS0 := hST.has.sel (Db (Kb Sn))
  refine PX_start1 hS0 Tryz_mixed (XH 0 rfl hS0 (fun _ hS => R_load rfl (load_boxA hS Mh (encCred a) rfl Tryz.isAgg53 Tryz.sizeOf53)) (X 1 rfl hS0 (R_move rfl) (XH 2 rfl hS0 (fun _ hS => R_load rfl (load_boxA hS Mh (encCred a) rfl Tryz.isAgg53 Tryz.sizeOf53)) ?_)))
  obtain ⟨Z, K, hm⟩ := bind_some hm
  refine XE 3 rfl (F_givesRow (args := [(.agg (encCred a).toArray)]) _ hST rfl Tryz.call155 (by exact args1 rfl) ((w_cred_Bytes a _ _  K)) (fun b4 B b9 a9 hST c hl67 I => ?_))
  have hS0 := hST.has.selS c (Dr (Db (Kb Sn)))
  refine ⟨hS0, ?_⟩
  obtain ⟨i, M, hm⟩ := bind_some hm
  refine XE 4 rfl (F_givesRow (args := [D, B]) _ hST rfl Tryz.call138 (by exact args2 rfl rfl) ((w_tag_Make D T.1 B Z _ _ (Q.mono (Pl.mono _) (c.trans hST.sub_hp)) (I.sl (fun _ => rfl) (fun b o hq => hST.at_ (Ml hq))) M)) (fun b5 b8 c0 b0 hST j hl76 x => ?_))
  have hS0 := hST.has.selS (c.trans j) (Dr (Dr (Db (Kb Sn))))
  refine ⟨hS0, ?_⟩
  obtain ⟨f, g, rfl⟩ := x.form
  refine X 5 rfl hS0 (R_build (qs := #[(0, (.agg (encCred a).toArray)), (1, (.slice f i.length g))]) (v := (.agg #[(.int .i64 a.Kind), (.string a.Head.Owner), (.string a.Head.Word), (.string a.Who), (.string a.B.Owner), (.string a.B.Word), (.string a.C.Owner), (.string a.C.Word), (.string a.Word2), (.slice f i.length g)])) (parts2 rfl rfl) (run_build Tryz.zeroValue56 Tryz.underlying56 (pl56 _ Tryz.underlying56) (by kernel_rfl))) ?_
  replace hST := hST.perm (Nb (Pr (Pr Pz)) Nz)
  refine XO 6 rfl (F_store (.agg #[(.int .i64 a.Kind), (.string a.Head.Owner), (.string a.Head.Word), (.string a.Who), (.string a.B.Owner), (.string a.B.Word), (.string a.C.Owner), (.string a.C.Word), (.string a.Word2), (.slice f i.length g)]) (#[(.int .i64 a.Kind), (.string a.Head.Owner), (.string a.Head.Word), (.string a.Who), (.string a.B.Owner), (.string a.B.Word), (.string a.C.Owner), (.string a.C.Word), (.string a.Word2), (.slice f i.length g)]) hST rfl rfl Tryz.sizeOf56 (by simp [Value.cells, Value.oneCell']) (Nat.le_of_ble_eq_true rfl) rfl (fun b6 hST => ?_))
  have hS0 := hST.has.selS (c.trans j) (Db (Dr (Dr (Kb Sn))))
  refine ⟨hS0, (X 7 rfl hS0 (R_assign rfl) (PX_done (by kernel_rfl) (sq_n ?_)))⟩
  replace hST := hST.sel (Kb (Kr (Dr (Db St))))
  refine CW_ret ?_
  replace hm := Option.some.inj hm; subst hm
  refine retQ_ct (v0 := (.agg #[(.int .i64 a.Kind), (.string a.Head.Owner), (.string a.Head.Word), (.string a.Who), (.string a.B.Owner), (.string a.B.Word), (.string a.C.Owner), (.string a.C.Word), (.string a.Word2), (.slice f i.length g)])) (v1 := (.int .i64 0)) rfl rfl (load_boxA hST.has Mh [(.int .i64 a.Kind), (.string a.Head.Owner), (.string a.Head.Word), (.string a.Who), (.string a.B.Owner), (.string a.B.Word), (.string a.C.Owner), (.string a.C.Word), (.string a.Word2), (.slice f i.length g)] rfl Tryz.isAgg56 Tryz.sizeOf56) rfl ?_
  replace hST := hST.perm (Nr (Qb Qz) Nz)
  obtain ⟨c1, hST, z, hl86, N⟩ := ST.pub1 hST x (fun _ => rfl)
  exact ⟨_, _, _, rfl, (hST.bkM Sn), (((y.trans c).trans j).trans z), (((hl10.trans hl67).trans hl76).trans hl86), (ST.sub_hpx hST (Sel.mem Sn)), (.slice f i.length g), rfl, rfl, N⟩
theorem w_revoke_key (k : Value) (z : List Key) (x : Cred) (r : ((List Int) × ((Option Bool)))) (w : World) {G : Mem} (Y : Ent G [] w) (f : Sl relKey 2 G k z) (hm : m_revoke_key z x = some r) :
    GivesD true Tryz.prog 136 [k, (.agg (encCred x).toArray)] w G [] (fun v U μ1 => ∃ (N : Value), v = N ∧ U = [] ∧ Sl (Pl (encIk .u8)) 1 μ1 N (r.1) ∧ NilF N r.2) := by
  have hST := ST.startE (dd := true) Y
  unfold m_revoke_key at hm
  refine calls_of_CW (n := 22) Tryz.func136 rfl rfl (Nat.le_of_ble_eq_true rfl) (CW_seq (CW_region (VE (E_box (v := (.agg (encCred x).toArray)) hST rfl (fun W2 Q hST => V (R_assign rfl) (LW_nil (sq_n (CW_seq (CW_seq (CW_region (V (R_move rfl) (V (R_len Tryz.underlying49 rfl f) (V (R_move rfl) (LW_nil (sq_n ?_)))))))))))))))
  refine CW_range (fun i E W => ∃  (y : List (Nat × Obj)), (E 9 = .int .i64 (i : Nat) ∧ E 8 = .int .i64 (z.length : Nat)) ∧ ST true (keys []) w W G ((Q, Obj.cells ((encCred x).toArray : Array Value) 53 (0, 0)) :: y) ∧ E 3 = (.pointer (some ⟨Q, 0, none⟩)) ∧ E 7 = k ∧ m_revoke_key_L1 x (z.drop i) = some r) z.length f.len ⟨_, ⟨rfl, rfl⟩, (hST.sel St), rfl, rfl, hm⟩ (by decide) (by decide) (by decide) (fun _ _ _ h => by obtain ⟨_, eIN, _⟩ := h; exact eIN) ?_ ?_
  · rintro T E W H ⟨y, ⟨eI, eN⟩, hST, B, D, a⟩
    obtain ⟨c, Z, K, J, M⟩ := drop_cons H
    rw [K] at a
    rw [m_revoke_key_L1] at a
    refine CW_block (CW_seq (CW_region (VQ (R_indexD (i := (T : Int)) (x0 := c) relKey.out Tryz.underlying49 Tryz.sizeOf196 D eI f (Int.natCast_nonneg _) J) (fun a6 ⟨_, ⟨a7, rfl, j⟩, I⟩ => V (R_load rfl (load_atA hST.has I Tryz.isAgg196 Tryz.sizeOf196)) (VE (E_alloc hST Tryz.zeroValue196 (fun a3 a5 hST => ?_)))))))
    obtain ⟨t, u, rfl⟩ := j.form
    refine VO (F_store (.agg #[(.string c.Who), (.slice t c.Key.length u)]) (#[(.string c.Who), (.slice t c.Key.length u)]) hST rfl rfl Tryz.sizeOf196 (by simp [Value.cells, Value.oneCell']) (Nat.le_of_ble_eq_true rfl) rfl (fun a4 hST => LW_nil (sq_n (CW_seq (CW_region (V (R_field fa196_0 rfl) (V (R_load rfl (load_box1 hST.has Mh rfl Tryz.isAgg9)) (V (R_field fa53_1 B) (V (R_field fa28_0 rfl) (V (R_load rfl (load_box1 hST.has (Mt Mh) rfl Tryz.isAgg9)) (V (R_str rfl rfl rfl) (LW_nil (sq_n (CW_if (b := (beqS c.Who x.Head.Owner)) rfl (fun g => ?_) (fun g => ?_)))))))))))))))
    · replace a := if_t g a
      refine CW_seq (CW_region (V (R_field fa196_1 rfl) (V (R_load rfl (load_box1 hST.has Mh rfl Tryz.isAgg54)) (V (R_assign rfl) (LW_nil (sq_n ?_))))))
      replace hST := hST.sel (Db (Db St))
      refine CW_ret (bq_r (sq_r (bq_r (sq_r ?_))))
      replace a := Option.some.inj a; subst a
      exact retQ_1 (v := (.slice t c.Key.length u)) rfl rfl ⟨_, _, _, rfl, (hST.bkM Sn), (Sub.refl _), Lo.refl, (ST.sub_hpx hST (Sel.mem Sn)), (.slice t c.Key.length u), rfl, rfl, j, (NilF.of j)⟩
    replace a := if_f g a
    refine CW_skip (bq_n (sq_n ?_))
    replace hST := hST.sel (Db St)
    exact ⟨eI, _, ⟨rfl, eN⟩, (hST.sel St), B, D, (by rw [M]; exact a)⟩
  rintro E W ⟨y, ⟨eI, eN⟩, hST, B, D, a⟩
  rw [List.drop_length] at a
  rw [m_revoke_key_L1] at a
  refine sq_n ?_
  replace hST := hST.sel (Db St)
  refine CW_seq (CW_region (V (R_assign rfl) (LW_nil (sq_n (CW_ret ?_)))))
  replace a := Option.some.inj a; subst a
  exact retQ_1 (v := (.slice none 0 0)) rfl rfl ⟨_, _, _, rfl, (hST.bkM Sn), (Sub.refl _), Lo.refl, (ST.sub_hpx hST (Sel.mem Sn)), (.slice none 0 0), rfl, rfl, (Sl.nil _ _ _), NilF.nil⟩
theorem w_revoke_body (a : Cred) (r : List Int) (w : World)  (hm : m_revoke_body a = some r) :
    GivesRow true Tryz.prog 139 [(.agg (encCred a).toArray)] w 5 (encIk .u8) 1 r := by
  have hST := ST.start (dd := true) w
  unfold m_revoke_body at hm
  refine calls_of_CW (n := 7) Tryz.func139 rfl rfl (Nat.le_of_ble_eq_true rfl) (CW_seq (CW_region (VE (E_box (v := (.agg (encCred a).toArray)) hST rfl (fun D I hST => V (R_assign rfl) (LW_nil (sq_n (CW_seq (CW_region (VE (E_buildSlice (qs := #[(0, (.int .u8 255))]) (cs := [(.int .u8 255)].toArray) hST (parts1 rfl) (run_lit [(.int .u8 255)] Tryz.underlying54 Tryz.sizeOf5 Tryz.zeroValue5 (by decide) rfl (by intro v hv; simp only [List.mem_cons, List.not_mem_nil, or_false] at hv; rcases hv with rfl <;> rfl) rfl rfl) (fun G j hST => V (R_load rfl (load_boxA hST.has (Mt Mh) (encCred a) rfl Tryz.isAgg53 Tryz.sizeOf53)) ?_))))))))))))
  obtain ⟨J, k, hm⟩ := bind_some hm
  refine VE (F_givesRow (args := [(.agg (encCred a).toArray)]) _ hST rfl Tryz.call155 (by exact args1 rfl) ((w_cred_Bytes a _ _  k)) (fun H t K y hST x hl10 f => ?_))
  replace hST := hST.perm (Nb (Pr Pz) Nz)
  obtain ⟨B, g, hm⟩ := bind_some hm
  refine VE (F_append (enc := (encIk .u8)) (v := (.slice (some ⟨j, 0, none⟩) 1 1)) (vs := t) (R := [(j, Obj.cells ([(.int .u8 255)].toArray : Array Value) 5 (0, 0))]) hST (fun _ => rfl) (by decide) (oneI _) Tryz.underlying54 info5.1 info5.2.1 rfl info5.2.2.1 info5.2.2.2 rfl rfl (Row.lit (l := [255]) (enc := (encIk .u8)) rfl (by decide) rfl rfl) (f.slM (fun _ => rfl) hST (fun p hq => (Mt (Ml hq)))) g (fun z u i hST c => V (R_assign rfl) (LW_nil (sq_n ?_))))
  replace hST := hST.sel (Kr (Dr (Db St)))
  refine CW_ret ?_
  replace hm := Option.some.inj hm; subst hm
  exact retQ_1 (v := u) rfl rfl ⟨_, i, rfl, hST.backRow (fun p hq => (Ml hq)) c.nd, c⟩
theorem w_revoke_Make (i : Value) (K : List Key) (a : Cred) (r : (Signed × Int)) (w : World) {μ0 : Mem} (h0 : Ent μ0 [] w) (H : Sl relKey 2 μ0 i K) (hm : m_revoke_Make K a = some r) :
    GivesD true Tryz.prog 36 [i, (.agg (encCred a).toArray)] w μ0 [] (fun v L1 μ1 => ∃ (y1 : Value), v = (.tuple #[(.agg #[(.int .i64 (((r.1).Cred).Kind)), (.string ((((r.1).Cred).Head).Owner)), (.string ((((r.1).Cred).Head).Word)), (.string (((r.1).Cred).Who)), (.string ((((r.1).Cred).B).Owner)), (.string ((((r.1).Cred).B).Word)), (.string ((((r.1).Cred).C).Owner)), (.string ((((r.1).Cred).C).Word)), (.string (((r.1).Cred).Word2)), y1]), (.int .i64 (r.2))]) ∧ L1 = [] ∧ Sl (Pl (encIk .u8)) 1 μ1 y1 ((r.1).Tag)) := by
  have hST := ST.startE (dd := true) h0
  unfold m_revoke_Make at hm
  refine calls_of_CW (n := 37) Tryz.func36 rfl rfl (Nat.le_of_ble_eq_true rfl) (CW_seq (CW_region (VE (E_box (v := (.agg (encCred a).toArray)) hST rfl (fun W2 b1 hST => VE (E_alloc hST Tryz.zeroValue56 (fun W4 b3 hST => V (R_assign rfl) (LW_nil (sq_n (CW_seq (CW_region (V (R_move rfl) ?_))))))))))))
  obtain ⟨r5, b2, hm⟩ := bind_some hm
  have hsz := hST.size
  refine VE (E_givesD (args := [i]) (caps := #[]) [] _ hST (List.Perm.refl _) rfl Tryz.call49 (by exact args1 rfl) (fun hH hN hsb hmm => (w_keys_New i K _ _ ⟨hH, hN, hsb⟩ (H.mono dKey.mono (Sub.refl _)) b2)) (fun W7 d7 μ8 c7 hST k hl10 T => ?_))
  obtain ⟨d9, B, rfl, c3⟩ := T
  replace B := B.symm; subst B
  replace hST := hST.perm Tn
  refine V (R_move rfl) (V (R_extract rfl rfl) (V (R_extract rfl rfl) (V (R_assign rfl) (V (R_assign rfl) (LW_nil (sq_n (CW_seq (CW_region (V (R_move rfl) (V (R_load rfl (load_boxA hST.has (Mt Mh) (encCred a) rfl Tryz.isAgg53 Tryz.sizeOf53)) ?_))))))))))
  obtain ⟨b4, a3, hm⟩ := bind_some hm
  have hsz := hST.size
  refine VE (E_givesD (args := [i, (.agg (encCred a).toArray)]) (caps := #[]) [] _ hST (List.Perm.refl _) rfl Tryz.call136 (by exact args2 rfl rfl) (fun hH hN hsb hmm => (w_revoke_key i K a _ _ ⟨hH, hN, hsb⟩ (H.mono dKey.mono k) a3)) (fun d0 d8 e0 c8 hST j hl22 U => ?_))
  obtain ⟨Q, D, rfl, J, a2⟩ := U
  replace D := D.symm; subst D
  replace hST := hST.perm Tn
  refine V (R_assign rfl) (LW_nil (sq_n (CW_seq (CW_block (CW_seq (CW_region (V (R_move rfl) (V (R_int rfl rfl rfl) (V (R_assign rfl) (LW_nil (sq_n (CW_if (b := (r5.2 != 0)) rfl (fun x => ?_) (fun x => ?_)))))))))))))
  · replace hm := if_t x hm
    refine CW_seq (CW_region (V (R_build (qs := #[]) (v := (.agg #[(.int .i64 0), (.string (((⟨zS, zS⟩ : Role)).Owner)), (.string (((⟨zS, zS⟩ : Role)).Word)), (.string zS), (.string (((⟨zS, zS⟩ : Role)).Owner)), (.string (((⟨zS, zS⟩ : Role)).Word)), (.string (((⟨zS, zS⟩ : Role)).Owner)), (.string (((⟨zS, zS⟩ : Role)).Word)), (.string zS), (.slice none 0 0)])) parts0 (run_build Tryz.zeroValue56 Tryz.underlying56 (pl56 _ Tryz.underlying56) (by kernel_rfl))) (V (R_move rfl) (VO (F_store (.agg #[(.int .i64 0), (.string (((⟨zS, zS⟩ : Role)).Owner)), (.string (((⟨zS, zS⟩ : Role)).Word)), (.string zS), (.string (((⟨zS, zS⟩ : Role)).Owner)), (.string (((⟨zS, zS⟩ : Role)).Word)), (.string (((⟨zS, zS⟩ : Role)).Owner)), (.string (((⟨zS, zS⟩ : Role)).Word)), (.string zS), (.slice none 0 0)]) (#[(.int .i64 0), (.string (((⟨zS, zS⟩ : Role)).Owner)), (.string (((⟨zS, zS⟩ : Role)).Word)), (.string zS), (.string (((⟨zS, zS⟩ : Role)).Owner)), (.string (((⟨zS, zS⟩ : Role)).Word)), (.string (((⟨zS, zS⟩ : Role)).Owner)), (.string (((⟨zS, zS⟩ : Role)).Word)), (.string zS), (.slice none 0 0)]) hST rfl rfl Tryz.sizeOf56 (by simp [Value.cells, Value.oneCell']) (Nat.le_of_ble_eq_true rfl) rfl (fun d1 hST => V (R_assign rfl) (LW_nil (sq_n ?_))))))))
    replace hST := hST.sel (Kb (Db St))
    refine CW_ret (bq_r (sq_r ?_))
    replace hm := Option.some.inj hm; subst hm
    exact retQ_ct (v0 := (.agg #[(.int .i64 0), (.string (((⟨zS, zS⟩ : Role)).Owner)), (.string (((⟨zS, zS⟩ : Role)).Word)), (.string zS), (.string (((⟨zS, zS⟩ : Role)).Owner)), (.string (((⟨zS, zS⟩ : Role)).Word)), (.string (((⟨zS, zS⟩ : Role)).Owner)), (.string (((⟨zS, zS⟩ : Role)).Word)), (.string zS), (.slice none 0 0)])) (v1 := (.int .i64 r5.2)) rfl rfl (load_boxA hST.has Mh [(.int .i64 0), (.string (((⟨zS, zS⟩ : Role)).Owner)), (.string (((⟨zS, zS⟩ : Role)).Word)), (.string zS), (.string (((⟨zS, zS⟩ : Role)).Owner)), (.string (((⟨zS, zS⟩ : Role)).Word)), (.string (((⟨zS, zS⟩ : Role)).Owner)), (.string (((⟨zS, zS⟩ : Role)).Word)), (.string zS), (.slice none 0 0)] rfl Tryz.isAgg56 Tryz.sizeOf56) rfl ⟨_, _, _, rfl, (hST.bkM Sn), (k.trans j), (hl10.trans hl22), (ST.sub_hpx hST (Sel.mem Sn)), (.slice none 0 0), rfl, rfl, (Sl.nil _ _ _)⟩
  replace hm := if_f x hm
  refine CW_seq (CW_region (V (R_load rfl (load_boxA hST.has (Mt Mh) (encCred a) rfl Tryz.isAgg53 Tryz.sizeOf53)) ?_))
  obtain ⟨b5, a4, hm⟩ := bind_some hm
  refine VE (E_gives (args := [(.agg (encCred a).toArray)]) hST rfl Tryz.call137 (by exact args1 rfl) ((w_cred_Right a _ _  a4)) (fun d2 hST => V (R_not rfl) (V (R_assign rfl) (LW_nil (sq_n (CW_if (b := (!b5)) rfl (fun y => ?_) (fun y => ?_)))))))
  · replace hm := if_t y hm
    refine CW_seq (CW_region (V (R_build (qs := #[]) (v := (.agg #[(.int .i64 0), (.string (((⟨zS, zS⟩ : Role)).Owner)), (.string (((⟨zS, zS⟩ : Role)).Word)), (.string zS), (.string (((⟨zS, zS⟩ : Role)).Owner)), (.string (((⟨zS, zS⟩ : Role)).Word)), (.string (((⟨zS, zS⟩ : Role)).Owner)), (.string (((⟨zS, zS⟩ : Role)).Word)), (.string zS), (.slice none 0 0)])) parts0 (run_build Tryz.zeroValue56 Tryz.underlying56 (pl56 _ Tryz.underlying56) (by kernel_rfl))) (VO (F_store (.agg #[(.int .i64 0), (.string (((⟨zS, zS⟩ : Role)).Owner)), (.string (((⟨zS, zS⟩ : Role)).Word)), (.string zS), (.string (((⟨zS, zS⟩ : Role)).Owner)), (.string (((⟨zS, zS⟩ : Role)).Word)), (.string (((⟨zS, zS⟩ : Role)).Owner)), (.string (((⟨zS, zS⟩ : Role)).Word)), (.string zS), (.slice none 0 0)]) (#[(.int .i64 0), (.string (((⟨zS, zS⟩ : Role)).Owner)), (.string (((⟨zS, zS⟩ : Role)).Word)), (.string zS), (.string (((⟨zS, zS⟩ : Role)).Owner)), (.string (((⟨zS, zS⟩ : Role)).Word)), (.string (((⟨zS, zS⟩ : Role)).Owner)), (.string (((⟨zS, zS⟩ : Role)).Word)), (.string zS), (.slice none 0 0)]) hST rfl rfl Tryz.sizeOf56 (by simp [Value.cells, Value.oneCell']) (Nat.le_of_ble_eq_true rfl) rfl (fun d3 hST => V (R_assign rfl) (LW_nil (sq_n ?_)))))))
    replace hST := hST.sel (Kb (Db St))
    refine CW_ret (bq_r (sq_r ?_))
    replace hm := Option.some.inj hm; subst hm
    exact retQ_ct (v0 := (.agg #[(.int .i64 0), (.string (((⟨zS, zS⟩ : Role)).Owner)), (.string (((⟨zS, zS⟩ : Role)).Word)), (.string zS), (.string (((⟨zS, zS⟩ : Role)).Owner)), (.string (((⟨zS, zS⟩ : Role)).Word)), (.string (((⟨zS, zS⟩ : Role)).Owner)), (.string (((⟨zS, zS⟩ : Role)).Word)), (.string zS), (.slice none 0 0)])) (v1 := (.int .i64 11)) rfl rfl (load_boxA hST.has Mh [(.int .i64 0), (.string (((⟨zS, zS⟩ : Role)).Owner)), (.string (((⟨zS, zS⟩ : Role)).Word)), (.string zS), (.string (((⟨zS, zS⟩ : Role)).Owner)), (.string (((⟨zS, zS⟩ : Role)).Word)), (.string (((⟨zS, zS⟩ : Role)).Owner)), (.string (((⟨zS, zS⟩ : Role)).Word)), (.string zS), (.slice none 0 0)] rfl Tryz.isAgg56 Tryz.sizeOf56) rfl ⟨_, _, _, rfl, (hST.bkM Sn), (k.trans j), (hl10.trans hl22), (ST.sub_hpx hST (Sel.mem Sn)), (.slice none 0 0), rfl, rfl, (Sl.nil _ _ _)⟩
  replace hm := if_f y hm
  refine CW_seq (CW_region (V (R_move rfl) ?_))
  obtain ⟨b0, Z, hm⟩ := bind_some hm
  refine V (R_slNilT Tryz.underlying54 J a2 Z rfl rfl) (V (R_assign rfl) (LW_nil (sq_n (CW_if (b := b0) rfl (fun z => ?_) (fun z => ?_)))))
  · replace hm := if_t z hm
    refine CW_seq (CW_region (V (R_build (qs := #[]) (v := (.agg #[(.int .i64 0), (.string (((⟨zS, zS⟩ : Role)).Owner)), (.string (((⟨zS, zS⟩ : Role)).Word)), (.string zS), (.string (((⟨zS, zS⟩ : Role)).Owner)), (.string (((⟨zS, zS⟩ : Role)).Word)), (.string (((⟨zS, zS⟩ : Role)).Owner)), (.string (((⟨zS, zS⟩ : Role)).Word)), (.string zS), (.slice none 0 0)])) parts0 (run_build Tryz.zeroValue56 Tryz.underlying56 (pl56 _ Tryz.underlying56) (by kernel_rfl))) (VO (F_store (.agg #[(.int .i64 0), (.string (((⟨zS, zS⟩ : Role)).Owner)), (.string (((⟨zS, zS⟩ : Role)).Word)), (.string zS), (.string (((⟨zS, zS⟩ : Role)).Owner)), (.string (((⟨zS, zS⟩ : Role)).Word)), (.string (((⟨zS, zS⟩ : Role)).Owner)), (.string (((⟨zS, zS⟩ : Role)).Word)), (.string zS), (.slice none 0 0)]) (#[(.int .i64 0), (.string (((⟨zS, zS⟩ : Role)).Owner)), (.string (((⟨zS, zS⟩ : Role)).Word)), (.string zS), (.string (((⟨zS, zS⟩ : Role)).Owner)), (.string (((⟨zS, zS⟩ : Role)).Word)), (.string (((⟨zS, zS⟩ : Role)).Owner)), (.string (((⟨zS, zS⟩ : Role)).Word)), (.string zS), (.slice none 0 0)]) hST rfl rfl Tryz.sizeOf56 (by simp [Value.cells, Value.oneCell']) (Nat.le_of_ble_eq_true rfl) rfl (fun d4 hST => V (R_assign rfl) (LW_nil (sq_n ?_)))))))
    replace hST := hST.sel (Kb (Db St))
    refine CW_ret (bq_r (sq_r ?_))
    replace hm := Option.some.inj hm; subst hm
    exact retQ_ct (v0 := (.agg #[(.int .i64 0), (.string (((⟨zS, zS⟩ : Role)).Owner)), (.string (((⟨zS, zS⟩ : Role)).Word)), (.string zS), (.string (((⟨zS, zS⟩ : Role)).Owner)), (.string (((⟨zS, zS⟩ : Role)).Word)), (.string (((⟨zS, zS⟩ : Role)).Owner)), (.string (((⟨zS, zS⟩ : Role)).Word)), (.string zS), (.slice none 0 0)])) (v1 := (.int .i64 21)) rfl rfl (load_boxA hST.has Mh [(.int .i64 0), (.string (((⟨zS, zS⟩ : Role)).Owner)), (.string (((⟨zS, zS⟩ : Role)).Word)), (.string zS), (.string (((⟨zS, zS⟩ : Role)).Owner)), (.string (((⟨zS, zS⟩ : Role)).Word)), (.string (((⟨zS, zS⟩ : Role)).Owner)), (.string (((⟨zS, zS⟩ : Role)).Word)), (.string zS), (.slice none 0 0)] rfl Tryz.isAgg56 Tryz.sizeOf56) rfl ⟨_, _, _, rfl, (hST.bkM Sn), (k.trans j), (hl10.trans hl22), (ST.sub_hpx hST (Sel.mem Sn)), (.slice none 0 0), rfl, rfl, (Sl.nil _ _ _)⟩
  replace hm := if_f z hm
  refine CW_skip (bq_n (sq_n (CW_seq ?_)))
  replace hST := hST.drew
  have hS0 := hST.has.sel (Db (Kb Sn))
  refine PX_start1 hS0 Tryz_mixed (XH 0 rfl hS0 (fun _ hS => R_load rfl (load_boxA hS Mh (encCred a) rfl Tryz.isAgg53 Tryz.sizeOf53)) (X 1 rfl hS0 (R_move rfl) (XH 2 rfl hS0 (fun _ hS => R_load rfl (load_boxA hS Mh (encCred a) rfl Tryz.isAgg53 Tryz.sizeOf53)) ?_)))
  obtain ⟨b7, a5, hm⟩ := bind_some hm
  refine XE 3 rfl (F_givesRow (args := [(.agg (encCred a).toArray)]) _ hST rfl Tryz.call139 (by exact args1 rfl) ((w_revoke_body a _ _  a5)) (fun d5 N e1 c9 hST g hl91 Y => ?_))
  have hS0 := hST.has.selS g (Dr (Db (Kb Sn)))
  refine ⟨hS0, ?_⟩
  obtain ⟨t, a6, hm⟩ := bind_some hm
  refine XE 4 rfl (F_givesRow (args := [Q, N]) _ hST rfl Tryz.call138 (by exact args2 rfl rfl) ((w_tag_Make Q b4.1 N b7 _ _ (J.mono (Pl.mono _) (g.trans hST.sub_hp)) (Y.sl (fun _ => rfl) (fun b o hq => hST.at_ (Ml hq))) a6)) (fun d6 c4 e2 c0 hST u hl100 G => ?_))
  have hS0 := hST.has.selS (g.trans u) (Dr (Dr (Db (Kb Sn))))
  refine ⟨hS0, ?_⟩
  obtain ⟨c, f, rfl⟩ := G.form
  refine X 5 rfl hS0 (R_build (qs := #[(0, (.agg (encCred a).toArray)), (1, (.slice c t.length f))]) (v := (.agg #[(.int .i64 a.Kind), (.string a.Head.Owner), (.string a.Head.Word), (.string a.Who), (.string a.B.Owner), (.string a.B.Word), (.string a.C.Owner), (.string a.C.Word), (.string a.Word2), (.slice c t.length f)])) (parts2 rfl rfl) (run_build Tryz.zeroValue56 Tryz.underlying56 (pl56 _ Tryz.underlying56) (by kernel_rfl))) ?_
  replace hST := hST.perm (Nb (Pr (Pr Pz)) Nz)
  refine XO 6 rfl (F_store (.agg #[(.int .i64 a.Kind), (.string a.Head.Owner), (.string a.Head.Word), (.string a.Who), (.string a.B.Owner), (.string a.B.Word), (.string a.C.Owner), (.string a.C.Word), (.string a.Word2), (.slice c t.length f)]) (#[(.int .i64 a.Kind), (.string a.Head.Owner), (.string a.Head.Word), (.string a.Who), (.string a.B.Owner), (.string a.B.Word), (.string a.C.Owner), (.string a.C.Word), (.string a.Word2), (.slice c t.length f)]) hST rfl rfl Tryz.sizeOf56 (by simp [Value.cells, Value.oneCell']) (Nat.le_of_ble_eq_true rfl) rfl (fun c1 hST => ?_))
  have hS0 := hST.has.selS (g.trans u) (Db (Dr (Dr (Kb Sn))))
  refine ⟨hS0, (X 7 rfl hS0 (R_assign rfl) (PX_done (by kernel_rfl) (sq_n ?_)))⟩
  replace hST := hST.sel (Kb (Kr (Dr (Db St))))
  refine CW_ret ?_
  replace hm := Option.some.inj hm; subst hm
  refine retQ_ct (v0 := (.agg #[(.int .i64 a.Kind), (.string a.Head.Owner), (.string a.Head.Word), (.string a.Who), (.string a.B.Owner), (.string a.B.Word), (.string a.C.Owner), (.string a.C.Word), (.string a.Word2), (.slice c t.length f)])) (v1 := (.int .i64 0)) rfl rfl (load_boxA hST.has Mh [(.int .i64 a.Kind), (.string a.Head.Owner), (.string a.Head.Word), (.string a.Who), (.string a.B.Owner), (.string a.B.Word), (.string a.C.Owner), (.string a.C.Word), (.string a.Word2), (.slice c t.length f)] rfl Tryz.isAgg56 Tryz.sizeOf56) rfl ?_
  replace hST := hST.perm (Nr (Qb Qz) Nz)
  obtain ⟨c6, hST, I, hl110, M⟩ := ST.pub1 hST G (fun _ => rfl)
  exact ⟨_, _, _, rfl, (hST.bkM Sn), ((((k.trans j).trans g).trans u).trans I), ((((hl10.trans hl22).trans hl91).trans hl100).trans hl110), (ST.sub_hpx hST (Sel.mem Sn)), (.slice c t.length f), rfl, rfl, M⟩
theorem w_slices_Equal_byte (t : Value) (B : List Int) (u : Value) (I : List Int) (r : Bool) (w : World) (c : Sl (Pl (encIk .u8)) 1 (hp w) t B) (D : Sl (Pl (encIk .u8)) 1 (hp w) u I) (hm : m_slices_Equal_byte B I = some r) :
    Gives true Tryz.prog 142 [t, u] w (.bool r) := by
  have hST := ST.start (dd := true) w
  unfold m_slices_Equal_byte at hm
  refine calls_of_CW (n := 26) Tryz.func142 rfl rfl (Nat.le_of_ble_eq_true rfl) (CW_seq (CW_region (V (R_assign rfl) (LW_nil (sq_n (CW_seq (CW_seq (CW_region (V (R_move rfl) (V (R_len Tryz.underlying54 rfl c) (V (R_move rfl) (V (R_len Tryz.underlying54 rfl D) (V (R_int rfl rfl rfl) (LW_nil ?_))))))))))))))
  refine sq_n (CW_if (b := (((B.length : Int)) != ((I.length : Int)))) rfl (fun G => ?_) (fun G => ?_))
  · replace hm := if_t G hm
    refine CW_seq (CW_region (V (R_assign rfl) (LW_nil (sq_n (CW_ret (sq_r ?_))))))
    replace hm := Option.some.inj hm; subst hm
    exact retQ_1 (v := (.bool false)) rfl rfl ⟨rfl, hST.ex⟩
  replace hm := if_f G hm
  refine CW_skip (sq_n (CW_seq (CW_seq (CW_region (V (R_move rfl) (V (R_len Tryz.underlying54 rfl c) (V (R_move rfl) (LW_nil (sq_n (CW_range (fun i E W => ∃  (g : List (Nat × Obj)), (E 13 = .int .i64 (i : Nat) ∧ E 12 = .int .i64 (B.length : Nat)) ∧ ST true NoF w W (hp w) g ∧ E 0 = t ∧ E 1 = u ∧ m_slices_Equal_byte_L1 I (B.drop i) i = some r) B.length c.len ⟨_, ⟨rfl, rfl⟩, (hST.sel St), rfl, rfl, hm⟩ (by decide) (by decide) (by decide) (fun _ _ _ h => by obtain ⟨_, eIN, _⟩ := h; exact eIN) ?_ ?_))))))))))
  · rintro M E W N ⟨g, ⟨eI, eN⟩, hST, j, k, a⟩
    obtain ⟨H, a3, T, Q, U⟩ := drop_cons N
    rw [T] at a
    rw [m_slices_Equal_byte_L1] at a
    refine CW_block (CW_seq (CW_region (V (R_move eI) (V (R_assign rfl) (LW_nil (sq_n (CW_seq ?_)))))))
    replace hST := hST.drew
    have hS0 := hST.has.sel Sn
    refine PX_start1 hS0 Tryz_mixed (X 0 rfl hS0 (R_move j) (X 1 rfl hS0 (R_move rfl) (XQ 2 rfl hS0 (R_indexP (enc := (encIk .u8)) (i := (M : Int)) (x0 := H) Tryz.underlying54 Tryz.sizeOf5 rfl rfl c (Int.natCast_nonneg _) Q) (fun Y J => XH 3 rfl hS0 (fun _ hS => R_load rfl (load_at1 hS (y := (.int .u8 H)) J Tryz.isAgg5)) (X 4 rfl hS0 (R_move k) (X 5 rfl hS0 (R_move rfl) ?_))))))
    obtain ⟨x, z, a⟩ := bind_some a
    refine XQ 6 rfl hS0 (R_indexP (enc := (encIk .u8)) (i := (M : Int)) (x0 := x) Tryz.underlying54 Tryz.sizeOf5 rfl rfl D (idx_nonneg z) (idx_get z)) (fun Z K => XH 7 rfl hS0 (fun _ hS => R_load rfl (load_at1 hS (y := (.int .u8 x)) K Tryz.isAgg5)) (X 8 rfl hS0 (R_int rfl rfl rfl) (PX_done (by kernel_rfl) (sq_n (CW_if (b := (H != x)) rfl (fun f => ?_) (fun f => ?_))))))
    · replace a := if_t f a
      refine CW_seq (CW_region (V (R_assign rfl) (LW_nil (sq_n (CW_ret (bq_r (sq_r (bq_r (sq_r ?_)))))))))
      replace a := Option.some.inj a; subst a
      exact retQ_1 (v := (.bool false)) rfl rfl ⟨rfl, hST.ex⟩
    replace a := if_f f a
    exact CW_skip (bq_n (sq_n ⟨eI, _, ⟨rfl, eN⟩, (hST.sel St), j, k, (by rw [U]; exact a)⟩))
  rintro E W ⟨g, ⟨eI, eN⟩, hST, j, k, a⟩
  rw [List.drop_length] at a
  rw [m_slices_Equal_byte_L1] at a
  refine sq_n (CW_seq (CW_region (V (R_assign rfl) (LW_nil (sq_n (CW_ret ?_))))))
  replace a := Option.some.inj a; subst a
  exact retQ_1 (v := (.bool true)) rfl rfl ⟨rfl, hST.ex⟩
theorem w_revoke_Good (k : Value) (K : List Key) (c : Signed) (j : Value) (r : Bool) (w : World) (Q : Sl relKey 2 (hp w) k K) (i : Sl (Pl (encIk .u8)) 1 (hp w) j c.Tag) (hm : m_revoke_Good K c = some r) :
    Gives true Tryz.prog 39 [k, (.agg #[(.int .i64 c.Cred.Kind), (.string c.Cred.Head.Owner), (.string c.Cred.Head.Word), (.string c.Cred.Who), (.string c.Cred.B.Owner), (.string c.Cred.B.Word), (.string c.Cred.C.Owner), (.string c.Cred.C.Word), (.string c.Cred.Word2), j])] w (.bool r) := by
  have hST := ST.start (dd := true) w
  unfold m_revoke_Good at hm
  refine calls_of_CW (n := 23) Tryz.func39 rfl rfl (Nat.le_of_ble_eq_true rfl) (CW_seq (CW_region ?_))
  obtain ⟨I, M, rfl⟩ := i.form
  refine VE (E_box (v := (.agg #[(.int .i64 c.Cred.Kind), (.string c.Cred.Head.Owner), (.string c.Cred.Head.Word), (.string c.Cred.Who), (.string c.Cred.B.Owner), (.string c.Cred.B.Word), (.string c.Cred.C.Owner), (.string c.Cred.C.Word), (.string c.Cred.Word2), (.slice I c.Tag.length M)])) hST rfl (fun W4 b3 hST => V (R_assign rfl) (LW_nil (sq_n (CW_seq (CW_region (V (R_move rfl) (V (R_field fa56_0 rfl) (V (R_load rfl (load_boxA hST.has Mh (encCred c.Cred) rfl Tryz.isAgg53 Tryz.sizeOf53)) ?_)))))))))
  obtain ⟨g, Z, hm⟩ := bind_some hm
  have hsz := hST.size
  refine VE (E_givesD (args := [k, (.agg (encCred c.Cred).toArray)]) (caps := #[]) [] _ hST (List.Perm.refl _) rfl Tryz.call36 (by exact args2 rfl rfl) (fun hH hN hsb hmm => (w_revoke_Make k K c.Cred _ _ ⟨hH, hN, hsb⟩ (Q.mono dKey.mono (Sub.refl _)) Z)) (fun W7 b1 μ8 a4 hST T hl10 N => ?_))
  obtain ⟨b2, u, rfl, G⟩ := N
  replace u := u.symm; subst u
  replace hST := hST.perm Tn
  refine V (R_move rfl) (V (R_extract rfl rfl) (V (R_extract rfl rfl) (VE (E_alloc hST Tryz.zeroValue56 (fun a5 a8 hST => ?_)))))
  obtain ⟨x, y, rfl⟩ := G.form
  refine VO (F_store (.agg #[(.int .i64 (((g.1).Cred).Kind)), (.string ((((g.1).Cred).Head).Owner)), (.string ((((g.1).Cred).Head).Word)), (.string (((g.1).Cred).Who)), (.string ((((g.1).Cred).B).Owner)), (.string ((((g.1).Cred).B).Word)), (.string ((((g.1).Cred).C).Owner)), (.string ((((g.1).Cred).C).Word)), (.string (((g.1).Cred).Word2)), (.slice x ((g.1).Tag).length y)]) (#[(.int .i64 (((g.1).Cred).Kind)), (.string ((((g.1).Cred).Head).Owner)), (.string ((((g.1).Cred).Head).Word)), (.string (((g.1).Cred).Who)), (.string ((((g.1).Cred).B).Owner)), (.string ((((g.1).Cred).B).Word)), (.string ((((g.1).Cred).C).Owner)), (.string ((((g.1).Cred).C).Word)), (.string (((g.1).Cred).Word2)), (.slice x ((g.1).Tag).length y)]) hST rfl rfl Tryz.sizeOf56 (by simp [Value.cells, Value.oneCell']) (Nat.le_of_ble_eq_true rfl) rfl (fun a6 hST => V (R_assign rfl) (LW_nil (sq_n (CW_seq (CW_region (V (R_move rfl) (V (R_int rfl rfl rfl) (V (R_move rfl) ?_)))))))))
  obtain ⟨b0, f, D⟩ := bind_some hm
  refine LW_join (J := fun E W => ∃ (B : Bool) (H : List (Nat × Obj)), ST true NoF w W μ8 H ∧ E 4 = (.bool false) ∧ E 22 = (.bool B) ∧ some B = some r) 6 ?_ (fun z => ?_)
  · rintro E W ⟨B, H, hST, a9, Y, t⟩
    refine V (R_assign Y) (LW_nil (sq_n (CW_ret ?_)))
    replace t := Option.some.inj t; subst t
    exact retQ_1 (v := (.bool B)) rfl rfl ⟨rfl, hST.ex⟩
  rcases bool_cases ((g.2 == 0)) with a | a
  · replace f := if_t a f
    refine Vg rfl (congrArg Value.bool a) (R_field fa56_1 rfl) (Vg rfl (congrArg Value.bool a) (R_load rfl (load_box1 hST.has Mh rfl Tryz.isAgg54)) (Vg rfl (congrArg Value.bool a) (R_field fa56_1 rfl) (Vg rfl (congrArg Value.bool a) (R_load rfl (load_box1 hST.has (Mt Mh) rfl Tryz.isAgg54)) ?_)))
    obtain ⟨a2, U, f⟩ := bind_some f
    refine VgE rfl (congrArg Value.bool a) (E_gives (args := [(.slice x ((g.1).Tag).length y), (.slice I c.Tag.length M)]) hST rfl Tryz.call142 (by exact args2 rfl rfl) ((w_slices_Equal_byte (.slice x ((g.1).Tag).length y) ((g.1).Tag) (.slice I c.Tag.length M) c.Tag _ _ (G.mono (Pl.mono _) hST.sub_hp) (i.mono (Pl.mono _) (T.trans hST.sub_hp)) U)) (fun a7 hST => V (R_pickT (congrArg Value.bool a) rfl) ?_))
    replace f := Option.some.inj f; subst f
    exact z _ _ ⟨a2, _, (hST.sel (Db (Db St))), rfl, rfl, D⟩
  replace f := if_f a f
  refine Vn rfl (congrArg Value.bool a) (Vn rfl (congrArg Value.bool a) (Vn rfl (congrArg Value.bool a) (Vn rfl (congrArg Value.bool a) (Vn rfl (congrArg Value.bool a) (V (R_pickF (congrArg Value.bool a) rfl) ?_)))))
  replace f := Option.some.inj f; subst f
  exact z _ _ ⟨false, _, (hST.sel (Db (Db St))), rfl, rfl, D⟩
theorem w_bytes_Equal (a : Value) (f : List Int) (c : Value) (g : List Int) (r : Bool) (w : World) (i : Sl (Pl (encIk .u8)) 1 (hp w) a f) (j : Sl (Pl (encIk .u8)) 1 (hp w) c g) (hm : m_bytes_Equal f g = some r) :
    Gives true Tryz.prog 271 [a, c] w (.bool r) := by
  have hST := ST.start (dd := true) w
  unfold m_bytes_Equal at hm
  refine calls_of_CW (n := 10) Tryz.func271 rfl rfl (Nat.le_of_ble_eq_true rfl) (CW_seq (CW_region (V (R_assign rfl) (LW_nil (sq_n (CW_seq (CW_region (V (R_move rfl) (V (R_strOf Tryz.underlying54 Tryz.underlying5 Tryz.underlying9 rfl (i.mono (Pl.mono _) hST.sub_hp)) (V (R_move rfl) (V (R_strOf Tryz.underlying54 Tryz.underlying5 Tryz.underlying9 rfl (j.mono (Pl.mono _) hST.sub_hp)) (V (R_str rfl rfl rfl) (V (R_assign rfl) (LW_nil ?_))))))))))))))
  refine sq_n (CW_ret ?_)
  replace hm := Option.some.inj hm; subst hm
  exact retQ_1 (v := (.bool ((beqS ((strI f)) ((strI g)))))) rfl rfl ⟨rfl, hST.ex⟩
theorem w_tag_Good (f : Value) (B : List Int) (g : Value) (H : List Int) (i : Value) (I : List Int) (r : Bool) (w : World) (x : Sl (Pl (encIk .u8)) 1 (hp w) f B) (M : Sl (Pl (encIk .u8)) 1 (hp w) g H) (N : Sl (Pl (encIk .u8)) 1 (hp w) i I) (hm : m_tag_Good B H I = some r) :
    Gives true Tryz.prog 156 [f, g, i] w (.bool r) := by
  have hST := ST.start (dd := true) w
  unfold m_tag_Good at hm
  refine calls_of_CW (n := 16) Tryz.func156 rfl rfl (Nat.le_of_ble_eq_true rfl) (CW_seq (CW_region (V (R_assign rfl) (LW_nil (sq_n (CW_seq (CW_region (V (R_move rfl) ?_))))))))
  obtain ⟨r1, Y, hm⟩ := bind_some hm
  refine VE (E_gives (args := [f]) hST rfl Tryz.call255 (by exact args1 rfl) ((w_tag_right f B _ _ (x.mono (Pl.mono _) hST.sub_hp) Y)) (fun W3 hST => V (R_move rfl) ?_))
  obtain ⟨b1, a, y⟩ := bind_some hm
  refine LW_join (J := fun E W => ∃ (u : Bool) (z : Mem) (D : List (Nat × Obj)), Sub (hp w) z ∧ ST true NoF w W z D ∧ E 6 = (.bool false) ∧ E 15 = (.bool u) ∧ some u = some r) 6 ?_ (fun t => ?_)
  · rintro E W ⟨u, z, D, a5, hST, b0, U, j⟩
    refine V (R_assign U) (LW_nil (sq_n (CW_ret ?_)))
    replace j := Option.some.inj j; subst j
    exact retQ_1 (v := (.bool u)) rfl rfl ⟨rfl, hST.ex⟩
  rcases bool_cases r1 with c | c
  · replace a := if_t c a
    refine Vg rfl (congrArg Value.bool c) (R_move rfl) (Vg rfl (congrArg Value.bool c) (R_move rfl) ?_)
    obtain ⟨Z, Q, a⟩ := bind_some a
    refine VgE rfl (congrArg Value.bool c) (F_givesRow (args := [f, g]) _ hST rfl Tryz.call138 (by exact args2 rfl rfl) ((w_tag_Make f B g H _ _ (x.mono (Pl.mono _) hST.sub_hp) (M.mono (Pl.mono _) hST.sub_hp) Q)) (fun a8 G a4 a7 hST k hl33 K => Vg rfl (congrArg Value.bool c) (R_move rfl) ?_))
    obtain ⟨a3, T, a⟩ := bind_some a
    refine VgE rfl (congrArg Value.bool c) (E_gives (args := [G, i]) hST rfl Tryz.call271 (by exact args2 rfl rfl) ((w_bytes_Equal G Z i I _ _ (K.sl (fun _ => rfl) (fun b o hq => hST.at_ (Ml hq))) (N.mono (Pl.mono _) (k.trans hST.sub_hp)) T)) (fun a9 hST => V (R_pickT (congrArg Value.bool c) rfl) ?_))
    replace a := Option.some.inj a; subst a
    exact t _ _ ⟨a3, a4, _, k, (hST.sel (Dr St)), rfl, rfl, y⟩
  replace a := if_f c a
  refine Vn rfl (congrArg Value.bool c) (Vn rfl (congrArg Value.bool c) (Vn rfl (congrArg Value.bool c) (Vn rfl (congrArg Value.bool c) (Vn rfl (congrArg Value.bool c) (V (R_pickF (congrArg Value.bool c) rfl) ?_)))))
  replace a := Option.some.inj a; subst a
  exact t _ _ ⟨false, (hp w), _, (Sub.refl _), (hST.sel St), rfl, rfl, y⟩
theorem w_keys_Registry_Check (u : Value) (Z : Option KeysRegistry) (c : Signed) (k : Value) (r : Int) (w : World) (a5 : OptR relKeysRegistry (hp w) u Z) (j : Sl (Pl (encIk .u8)) 1 (hp w) k c.Tag) (hm : m_keys_Registry_Check Z c = some r) :
    Gives true Tryz.prog 51 [u, (.agg #[(.int .i64 c.Cred.Kind), (.string c.Cred.Head.Owner), (.string c.Cred.Head.Word), (.string c.Cred.Who), (.string c.Cred.B.Owner), (.string c.Cred.B.Word), (.string c.Cred.C.Owner), (.string c.Cred.C.Word), (.string c.Cred.Word2), k])] w (.int .i64 r) := by
  have hST := ST.start (dd := true) w
  unfold m_keys_Registry_Check at hm
  refine calls_of_CW (n := 27) Tryz.func51 rfl rfl (Nat.le_of_ble_eq_true rfl) (CW_seq (CW_region ?_))
  obtain ⟨M, N, rfl⟩ := j.form
  refine VE (E_box (v := (.agg #[(.int .i64 c.Cred.Kind), (.string c.Cred.Head.Owner), (.string c.Cred.Head.Word), (.string c.Cred.Who), (.string c.Cred.B.Owner), (.string c.Cred.B.Word), (.string c.Cred.C.Owner), (.string c.Cred.C.Word), (.string c.Cred.Word2), (.slice M c.Tag.length N)])) hST rfl (fun W4 b3 hST => V (R_assign rfl) (LW_nil (sq_n (CW_seq (CW_region (V (R_move rfl) (V (R_field fa56_0 rfl) (V (R_load rfl (load_boxA hST.has Mh (encCred c.Cred) rfl Tryz.isAgg53 Tryz.sizeOf53)) ?_)))))))))
  obtain ⟨I, b1, hm⟩ := bind_some hm
  have hsz := hST.size
  refine VE (E_givesD (args := [u, (.agg (encCred c.Cred).toArray)]) (caps := #[]) [] _ hST (List.Perm.refl _) rfl Tryz.call154 (by exact args2 rfl rfl) (fun hH hN hsb hmm => (w_keys_Registry_of u Z c.Cred _ _ ⟨hH, hN, hsb⟩ (a5.mono dKeysRegistry (Sub.refl _)) b1)) (fun W7 c0 μ8 b9 hST a6 hl10 a4 => ?_))
  obtain ⟨Y, z, rfl, a7⟩ := a4
  replace z := z.symm; subst z
  replace hST := hST.perm Tn
  refine V (R_move rfl) (V (R_extract rfl rfl) (V (R_extract rfl rfl) (V (R_assign rfl) (V (R_assign rfl) (LW_nil (sq_n (CW_seq (CW_seq ?_))))))))
  replace hST := hST.drew
  have hS0 := hST.has.sel (Kb Sn)
  refine PX_start1 hS0 Tryz_mixed (X 0 rfl hS0 (R_move rfl) (X 1 rfl hS0 (R_int rfl rfl rfl) (X 2 rfl hS0 (R_move rfl) ?_)))
  obtain ⟨b8, f, D⟩ := bind_some hm
  refine PX_join (J := fun E W => ∃ (x : Bool) (B : Mem) (G : List (Nat × Obj)), Sub μ8 B ∧ ST true NoF w W B ((b3, Obj.cells (#[(.int .i64 c.Cred.Kind), (.string c.Cred.Head.Owner), (.string c.Cred.Head.Word), (.string c.Cred.Who), (.string c.Cred.B.Owner), (.string c.Cred.B.Word), (.string c.Cred.C.Owner), (.string c.Cred.C.Word), (.string c.Cred.Word2), (.slice M c.Tag.length N)] : Array Value) 56 (0, 0)) :: G) ∧ E 6 = (.int .i64 I.2) ∧ E 25 = (.bool x) ∧ (if x then some 20 else some I.2) = some r) #[true, true, true, true, true, true, true, true, true, true, true, true] 0 ?_ (fun y => ?_)
  · rintro E W ⟨x, B, G, H, hST, a2, a3, g⟩
    have hS0 := hST.has.selS H (Kb Sn)
    refine PX_done (by kernel_rfl) (sq_n ?_)
    replace hST := hST.sel (Db St)
    refine CW_if (b := x) a3 (fun t => ?_) (fun t => ?_)
    · replace g := if_t t g
      refine CW_seq (CW_region (V (R_assign rfl) (LW_nil (sq_n (CW_ret (sq_r ?_))))))
      replace g := Option.some.inj g; subst g
      exact retQ_1 (v := (.int .i64 20)) rfl rfl ⟨rfl, hST.ex⟩
    replace g := if_f t g
    refine CW_skip (sq_n (CW_seq (CW_region (V (R_move a2) (V (R_assign rfl) (LW_nil (sq_n (CW_ret ?_))))))))
    replace g := Option.some.inj g; subst g
    exact retQ_1 (v := (.int .i64 I.2)) rfl rfl ⟨rfl, hST.ex⟩
  rcases bool_cases ((I.2 == 0)) with a | a
  · replace f := if_t a f
    refine Xg 3 rfl rfl (congrArg Value.bool a) hS0 (R_move rfl) (Xg 4 rfl rfl (congrArg Value.bool a) hS0 (R_field fa56_0 rfl) (XgH 5 rfl rfl (congrArg Value.bool a) hS0 (fun _ hS => R_load rfl (load_boxA hS Mh (encCred c.Cred) rfl Tryz.isAgg53 Tryz.sizeOf53)) (Xg 7 rfl rfl (congrArg Value.bool a) hS0 (R_field fa56_1 rfl) (XgH 8 rfl rfl (congrArg Value.bool a) hS0 (fun _ hS => R_load rfl (load_box1 hS Mh rfl Tryz.isAgg54)) ?_))))
    obtain ⟨a8, T, f⟩ := bind_some f
    refine XgE 6 rfl rfl (congrArg Value.bool a) (F_givesRow (args := [(.agg (encCred c.Cred).toArray)]) _ hST rfl Tryz.call155 (by exact args1 rfl) ((w_cred_Bytes c.Cred _ _  T)) (fun b5 K b0 b4 hST i hl119 Q => ?_))
    have hS0 := hST.has.selS i (Dr (Kb Sn))
    refine ⟨hS0, ?_⟩
    obtain ⟨a9, U, f⟩ := bind_some f
    refine XgE 9 rfl rfl (congrArg Value.bool a) (E_gives (args := [Y, K, (.slice M c.Tag.length N)]) hST rfl Tryz.call156 (by exact args3 rfl rfl rfl) ((w_tag_Good Y I.1 K a8 (.slice M c.Tag.length N) c.Tag _ _ (a7.mono (Pl.mono _) (i.trans hST.sub_hp)) (Q.sl (fun _ => rfl) (fun b o hq => hST.at_ (Ml hq))) (j.mono (Pl.mono _) ((a6.trans i).trans hST.sub_hp)) U)) (fun b6 hST => ?_))
    have hS0 := hST.has.selS i (Dr (Kb Sn))
    refine ⟨hS0, (Xg 10 rfl rfl (congrArg Value.bool a) hS0 (R_not rfl) (X 11 rfl hS0 (R_pickT (congrArg Value.bool a) rfl) ?_))⟩
    replace f := Option.some.inj f; subst f
    refine PX_at (by kernel_rfl) (y _ _ ⟨((!a9)), b0, _, i, (hST.sel (Dr St)), rfl, rfl, D⟩)
  replace f := if_f a f
  refine Xn 3 rfl rfl (congrArg Value.bool a) hS0 (Xn 4 rfl rfl (congrArg Value.bool a) hS0 (Xn 5 rfl rfl (congrArg Value.bool a) hS0 (Xn 6 rfl rfl (congrArg Value.bool a) hS0 (Xn 7 rfl rfl (congrArg Value.bool a) hS0 (Xn 8 rfl rfl (congrArg Value.bool a) hS0 (Xn 9 rfl rfl (congrArg Value.bool a) hS0 (Xn 10 rfl rfl (congrArg Value.bool a) hS0 (X 11 rfl hS0 (R_pickF (congrArg Value.bool a) rfl) ?_))))))))
  replace f := Option.some.inj f; subst f
  refine PX_at (by kernel_rfl) (y _ _ ⟨false, μ8, _, (Sub.refl _), (hST.sel St), rfl, rfl, D⟩)
theorem w_slices_Clone_Cred (f : Value) (g : List Cred) (r : List Cred) (w : World) (a : Sl (Pl encCred) 9 (hp w) f g) (hm : m_slices_Clone_Cred g = some r) :
    GivesRow true Tryz.prog 228 [f] w 53 encCred 9 r := by
  have hST := ST.start (dd := true) w
  unfold m_slices_Clone_Cred at hm
  refine calls_of_CW (n := 8) Tryz.func228 rfl rfl (Nat.le_of_ble_eq_true rfl) (CW_seq (CW_region (V (R_assign rfl) (LW_nil (sq_n (CW_seq (CW_seq (CW_region (V (R_move rfl) ?_)))))))))
  obtain ⟨x, z, rfl⟩ := a.form
  refine V (R_slEqNil Tryz.underlying22 rfl rfl) (LW_nil (sq_n ?_))
  rcases x with _ | y
  · have t := a.isNil
    replace hm : some [] = some r := by rw [t] at hm; simpa [appB, maxLen] using hm
    refine CW_if_true (rfl) (CW_seq (CW_region (V (R_assign rfl) (LW_nil (sq_n (CW_ret (sq_r ?_)))))))
    replace hm := Option.some.inj hm; subst hm
    exact retQ_1 (v := (.slice none 0 0)) rfl rfl ⟨_, [], rfl, hST.backRow (fun p hq => by cases hq) (by simp), Row.nil _ _ _⟩
  · refine CW_if_false (rfl) (CW_skip (sq_n (CW_seq (CW_region (VE (E_buildSlice (qs := #[]) (cs := #[]) hST parts0 (run_lit [] Tryz.underlying22 Tryz.sizeOf53 Tryz.zeroValue53 (by decide) rfl (by simp) rfl rfl) (fun D j hST => V (R_move rfl) ?_)))))))
    obtain ⟨G, k, hm⟩ := bind_some hm
    refine VE (F_append (enc := encCred) (v := (.slice (some ⟨j, 0, none⟩) 0 0)) (vs := (.slice (some y) g.length z)) (R := [(j, Obj.cells (#[] : Array Value) 53 (0, 0))]) hST lenCred (by decide) oneCred Tryz.underlying22 info53.1 info53.2.1 rfl info53.2.2.1 info53.2.2.2 rfl rfl (Row.lit (l := []) (enc := encCred) rfl (by decide) rfl rfl) (a.mono (Pl.mono _) hST.sub_hp) k (fun B u i hST c => V (R_assign rfl) (LW_nil (sq_n (CW_ret ?_)))))
    replace hm := Option.some.inj hm; subst hm
    exact retQ_1 (v := u) rfl rfl ⟨_, i, rfl, hST.backRow (fun p hq => (Ml hq)) c.nd, c⟩
theorem w_slices_IndexFunc_Cred (g : Value) (t : List Cred) (j : Value) (D : Cred → Option Bool) (r : Int) (w : World) (c : Sl (Pl encCred) 9 (hp w) g t) (G : CbOk Tryz.prog j (hp w) (fun (x : Cred) => [(.agg (encCred x).toArray)]) (fun (r : Bool) => (.bool r)) D) (hm : m_slices_IndexFunc_Cred t D = some r) :
    Gives false Tryz.prog 260 [g, j] w (.int .i64 r) := by
  have hST := ST.start (dd := false) w
  unfold m_slices_IndexFunc_Cred at hm
  refine calls_of_CW (n := 19) Tryz.func260 rfl rfl (Nat.le_of_ble_eq_true rfl) (CW_seq (CW_region (V (R_assign rfl) (LW_nil (sq_n (CW_seq (CW_seq (CW_region (V (R_move rfl) (V (R_len Tryz.underlying22 rfl c) (V (R_move rfl) (LW_nil (sq_n (CW_range (fun i E W => ∃  (k : List (Nat × Obj)), (E 8 = .int .i64 (i : Nat) ∧ E 7 = .int .i64 (t.length : Nat)) ∧ ST false NoF w W (hp w) k ∧ E 0 = g ∧ E 1 = j ∧ m_slices_IndexFunc_Cred_L1 D (t.drop i) i = some r) t.length c.len ⟨_, ⟨rfl, rfl⟩, (hST.sel St), rfl, rfl, hm⟩ (by decide) (by decide) (by decide) (fun _ _ _ h => by obtain ⟨_, eIN, _⟩ := h; exact eIN) ?_ ?_))))))))))))))
  · rintro z E W H ⟨k, ⟨eI, eN⟩, hST, u, y, a⟩
    obtain ⟨B, T, M, K, N⟩ := drop_cons H
    rw [M] at a
    rw [m_slices_IndexFunc_Cred_L1] at a
    refine CW_block (CW_seq (CW_region (V (R_move eI) (V (R_assign rfl) (LW_nil (sq_n (CW_seq (CW_region (V (R_move y) (V (R_move u) (V (R_move rfl) (VQ (R_indexP (enc := encCred) (i := (z : Int)) (x0 := B) Tryz.underlying22 Tryz.sizeOf53 rfl rfl c (Int.natCast_nonneg _) K) (fun Y I => V (R_load rfl (load_atA hST.has I Tryz.isAgg53 Tryz.sizeOf53)) ?_)))))))))))))
    obtain ⟨Q, J, a⟩ := bind_some a
    refine VE (E_cb B hST G (Sub.refl _) rfl (args1 rfl) J (fun U hST => LW_nil (sq_n (CW_if (b := Q) rfl (fun f => ?_) (fun f => ?_)))))
    · replace a := if_t f a
      refine CW_seq (CW_region (V (R_move rfl) (V (R_assign rfl) (LW_nil (sq_n (CW_ret (bq_r (sq_r (bq_r (sq_r ?_))))))))))
      replace a := Option.some.inj a; subst a
      exact retQ_1 (v := (.int .i64 ((z : Int)))) rfl rfl ⟨rfl, hST.ex⟩
    replace a := if_f f a
    exact CW_skip (bq_n (sq_n ⟨eI, _, ⟨rfl, eN⟩, (hST.sel St), u, y, (by rw [N]; exact a)⟩))
  rintro E W ⟨k, ⟨eI, eN⟩, hST, u, y, a⟩
  rw [List.drop_length] at a
  rw [m_slices_IndexFunc_Cred_L1] at a
  refine sq_n (CW_seq (CW_region (V (R_assign rfl) (LW_nil (sq_n (CW_ret ?_))))))
  replace a := Option.some.inj a; subst a
  exact retQ_1 (v := (.int .i64 ((-1)))) rfl rfl ⟨rfl, hST.ex⟩
theorem w_slices_DeleteFunc_Cred (g : Value) (a0 : List Cred) (y : List (Nat × Obj)) (G : Value) (f1 : Cred → Option Bool) (r : List Cred) (w : World) {μ0 : Mem} (h0 : Ent μ0 (y ++ []) w) (a1 : Row 53 encCred 9 g a0 y) (a8 : CbOk Tryz.prog G μ0 (fun (x : Cred) => [(.agg (encCred x).toArray)]) (fun (r : Bool) => (.bool r)) f1) (hm : m_slices_DeleteFunc_Cred a0 f1 = some r) :
    GivesM false Tryz.prog 143 [g, G] w (y ++ []) (fun v L1 W' => ∃ (y1 : Value) (S2 : List (Nat × Obj)), v = y1 ∧ L1 = (S2 ++ []) ∧ Row 53 encCred 9 y1 r S2) := by
  have hST := ST.startE (dd := false) h0
  unfold m_slices_DeleteFunc_Cred at hm
  refine calls_of_CW (n := 42) Tryz.func143 rfl rfl (Nat.le_of_ble_eq_true rfl) (CW_seq (CW_region (V (R_assign rfl) (LW_nil (sq_n (CW_seq (CW_region (V (R_move rfl) (V (R_move rfl) ?_)))))))))
  obtain ⟨r1, d3, hm⟩ := bind_some hm
  refine VE (E_gives (args := [g, G]) hST rfl Tryz.call260 (by exact args2 rfl rfl) ((w_slices_IndexFunc_Cred g a0 G f1 _ _ (a1.sl lenCred (fun b o hq => hST.at_ (Ml hq))) (a8.mono hST.sub_hp) d3)) (fun W3 hST => V (R_assign rfl) (LW_nil (sq_n (CW_seq (CW_seq (CW_region (V (R_move rfl) (V (R_int rfl rfl rfl) (LW_nil (sq_n (CW_if (b := (r1 == ((-1)))) rfl (fun a9 => ?_) (fun a9 => ?_)))))))))))))
  · replace hm := if_t a9 hm
    refine CW_seq (CW_region (V (R_move rfl) (V (R_assign rfl) (LW_nil (sq_n (CW_ret (sq_r ?_)))))))
    replace hm := Option.some.inj hm; subst hm
    exact retQ_1 (v := g) rfl rfl ⟨_, _, rfl, (hST.bkM (Kr Sn)), g, y, rfl, rfl, a1⟩
  replace hm := if_f a9 hm
  refine CW_skip (sq_n (CW_seq (CW_seq (CW_region (V (R_move rfl) (V (R_int rfl rfl rfl) (V (R_assign rfl) (LW_nil (sq_n (CW_block (CW_loop (fun m E W => ∃ (D : List Cred) (I : List (Nat × Obj)) (k : Int) (t : Int) (a5 : List (Nat × Obj)), ST false (keys (y ++ [])) w W μ0 (I ++ a5) ∧ E 0 = g ∧ E 1 = G ∧ E 5 = (.int .i64 k) ∧ E 6 = (.int .i64 t) ∧ Row 53 encCred 9 g D I ∧ m_slices_DeleteFunc_Cred_L1 f1 m D k t = some r) FUEL ⟨a0, y, r1, ((IntKind.i64.wrap (r1 + 1))), _, (hST.sel St), rfl, rfl, rfl, rfl, a1, hm⟩ ?_)))))))))))
  rintro m E W ⟨D, I, k, t, a5, hST, B, Z, H, K, f, c⟩
  cases m with
  | zero => rw [m_slices_DeleteFunc_Cred_L1] at c; cases c
  | succ b0 =>
    rw [m_slices_DeleteFunc_Cred_L1] at c
    refine CW_seq (CW_seq (CW_region (V (R_move K) (V (R_move B) (V (R_lenRow Tryz.underlying22 rfl f) (V (R_int rfl rfl rfl) (LW_nil (sq_n (CW_if (b := (decide (t < ((D.length : Int))))) rfl (fun M => ?_) (fun M => ?_))))))))))
    · replace c := if_t M c
      refine CW_skip (sq_n (CW_seq ?_))
      obtain ⟨e5, a, a4⟩ := bind_some c
      refine CW_cut (fun E W => ∃ (U : List Cred) (J : List (Nat × Obj)) (Y : Int) (a6 : List (Nat × Obj)), ST false (keys (y ++ [])) w W μ0 (J ++ a6) ∧ E 0 = g ∧ E 1 = G ∧ E 5 = (.int .i64 Y) ∧ E 6 = (.int .i64 t) ∧ Row 53 encCred 9 g U J ∧ (m_slices_DeleteFunc_Cred_L1 f1 b0 U Y ((IntKind.i64.wrap (t + 1)))) = some r) ?_ ?_
      · refine CW_block (CW_seq (CW_region (V (R_move B) (V (R_move K) ?_))))
        obtain ⟨j, Q, a⟩ := bind_some a
        refine VQ (R_indexRow (i := t) (x0 := j) Tryz.underlying22 Tryz.sizeOf53 rfl rfl f (idx_nonneg Q) (idx_get Q)) (fun e3 b6 => V (R_load rfl (load_ixA hST.has (fun p hq => (Ml hq)) f lenCred b6 (idx_get Q) Tryz.isAgg53 Tryz.sizeOf53)) (VE (E_alloc hST Tryz.zeroValue53 (fun d6 e1 hST => VO (F_store (.agg (encCred j).toArray) ((encCred j).toArray) hST rfl rfl Tryz.sizeOf53 (oneCred j) (Nat.le_of_ble_eq_true rfl) rfl (fun d7 hST => LW_nil (sq_n (CW_seq (CW_region (V (R_move Z) (V (R_load rfl (load_boxA hST.has Mh (encCred j) rfl Tryz.isAgg53 Tryz.sizeOf53)) ?_)))))))))))
        obtain ⟨d0, b8, a⟩ := bind_some a
        refine VE (E_cb j hST a8 (Sub.refl _) rfl (args1 rfl) b8 (fun d8 hST => V (R_not rfl) (LW_nil (sq_n (CW_if (b := (!d0)) rfl (fun N => ?_) (fun N => ?_))))))
        · replace a := if_t N a
          refine CW_seq (CW_region (V (R_move B) (V (R_move H) (V (R_load rfl (load_boxA hST.has Mh (encCred j) rfl Tryz.isAgg53 Tryz.sizeOf53)) ?_))))
          obtain ⟨d1, T, a⟩ := bind_some a
          refine VQ (R_indexRow (i := k) (x0 := d1) Tryz.underlying22 Tryz.sizeOf53 rfl rfl f (idx_nonneg T) (idx_get T)) (fun e4 b7 => ?_)
          replace hST := hST.perm (Nr (Qb Qz) Nz)
          refine VO (F_storeRow (u := (.agg (encCred j).toArray)) (x1 := j)  hST f lenCred oneCred rfl rfl rfl b7 (idx_get T) Tryz.sizeOf53 (fun d9 c3 hST b3 => LW_nil (sq_n ?_)))
          replace hST := hST.sel (Kr (Db St))
          refine CW_region (V (R_move H) (V (R_int rfl rfl rfl) (V (R_assign rfl) (LW_nil (bq_n (sq_n ?_))))))
          replace a := Option.some.inj a; subst a
          exact ⟨((D.set (Int.toNat k) j)), c3, ((IntKind.i64.wrap (k + 1))), _, (hST.sel St), B, Z, rfl, K, b3, a4⟩
        replace a := if_f N a
        refine CW_skip (bq_n (sq_n ?_))
        replace a := Option.some.inj a; subst a
        exact ⟨D, I, k, _, (hST.sel (Db St)), B, Z, H, K, f, a4⟩
      rintro E W ⟨U, J, Y, a6, hST, c5, c6, c7, c8, b9, b5⟩
      exact CW_region (V (R_move c8) (V (R_int rfl rfl rfl) (V (R_assign rfl) (LW_nil (sq_n ⟨b0, Nat.lt_succ_self _, U, J, Y, ((IntKind.i64.wrap (t + 1))), _, (hST.sel St), c5, c6, c7, rfl, b9, b5⟩)))))
    replace c := if_f M c
    refine CW_exit (sq_e (sq_e (bq_e (sq_n (CW_seq (CW_region (V (R_move B) (V (R_move H) ?_))))))))
    obtain ⟨_, a2, c⟩ := bind_some c
    refine VQ (R_sliceTail (i := k) Tryz.underlying22 Tryz.sizeOf53 rfl rfl f (chk_1 a2) (chk_2 a2)) (fun e6 c0 => VO (F_clearTail (z := (⟨0, (⟨zS, zS⟩ : Role), zS, (⟨zS, zS⟩ : Role), (⟨zS, zS⟩ : Role), zS⟩ : Cred))  hST f lenCred oneCred Tryz.underlying22 Tryz.zeroValue53 c0 rfl rfl (fun e0 c4 hST b4 => LW_nil (sq_n (CW_seq (CW_region (V (R_move B) (V (R_move H) ?_))))))))
    obtain ⟨_, a3, c⟩ := bind_some c
    refine VQ (R_sliceTo (i := k) Tryz.underlying22 Tryz.sizeOf53 rfl rfl b4 lenCred (chk_1 a3) (chk_2 a3)) (fun b1 c1 => V (R_assign rfl) (LW_nil (sq_n (CW_ret ?_))))
    replace c := Option.some.inj c; subst c
    exact retQ_1 (v := b1) rfl rfl ⟨_, _, rfl, (hST.bkM (Kr Sn)), b1, c4, rfl, rfl, c1⟩
theorem w_cred_Set_c1 (a : Cred) (r : Bool) (w : World)  (hm : m_cred_Set_c1 a = some r) :
    Gives true Tryz.prog 229 [(.agg (encCred a).toArray)] w (.bool r) := by
  have hST := ST.start (dd := true) w
  unfold m_cred_Set_c1 at hm
  refine calls_of_CW (n := 6) Tryz.func229 rfl rfl (Nat.le_of_ble_eq_true rfl) (CW_seq (CW_region (VE (E_box (v := (.agg (encCred a).toArray)) hST rfl (fun g j hST => V (R_assign rfl) (LW_nil (sq_n (CW_seq (CW_region (V (R_load rfl (load_boxA hST.has Mh (encCred a) rfl Tryz.isAgg53 Tryz.sizeOf53)) ?_))))))))))
  obtain ⟨f, c, hm⟩ := bind_some hm
  refine VE (E_gives (args := [(.agg (encCred a).toArray)]) hST rfl Tryz.call137 (by exact args1 rfl) ((w_cred_Right a _ _  c)) (fun i hST => V (R_not rfl) (V (R_assign rfl) (LW_nil (sq_n ?_)))))
  replace hST := hST.sel (Db St)
  refine CW_ret ?_
  replace hm := Option.some.inj hm; subst hm
  exact retQ_1 (v := (.bool ((!f)))) rfl rfl ⟨rfl, hST.ex⟩
theorem w_sortF230 (c : Value) (j : List Cred) (a : List (Nat × Obj)) (f : Value) (k : ((Cred × Cred)) → Option Int) (r : List Cred) (w : World) {u : Mem} (t : Ent u (a ++ []) w) (g : Row 53 encCred 9 c j a) (i : CbO Tryz.prog f u (fun (x : (Cred × Cred)) => [(.agg (encCred x.1).toArray), (.agg (encCred x.2).toArray)]) (fun (r : Int) => (.int .i64 r)) k) (hm : sortF k j = some r) :
    GivesM true Tryz.prog 230 [c, f] w (a ++ []) (fun v y W' => ∃ (S : List (Nat × Obj)), v = (.tuple #[]) ∧ y = (S ++ []) ∧ Row 53 encCred 9 c r S) := sortF_gives (P := Tryz.prog) (ρ := ren230) lay230 9 Tryz.isAgg53 Tryz.sizeOf53 encCred lenCred oneCred t.H t.S g i hm
theorem ext369 (w : World) {va vb : Value} {a b : List Int} (h1 : Sl (Pl (encIk .u8)) 1 (hp w) va a) (h2 : Sl (Pl (encIk .u8)) 1 (hp w) vb b) : (callFunc 369 [va, vb].toArray).run Tryz.prog w = .ok (.value (.int .i64 (xCompareB a b))) w := run_cmpB Tryz.func369 (by kernel_rfl) (by kernel_rfl) (by kernel_rfl) (by kernel_rfl) h1 h2
theorem w_bytes_Compare (a : Value) (f : List Int) (c : Value) (g : List Int) (r : Int) (w : World) (i : Sl (Pl (encIk .u8)) 1 (hp w) a f) (j : Sl (Pl (encIk .u8)) 1 (hp w) c g) (hm : m_bytes_Compare f g = some r) :
    Gives true Tryz.prog 323 [a, c] w (.int .i64 r) := by
  have hST := ST.start (dd := true) w
  unfold m_bytes_Compare at hm
  refine calls_of_CW (n := 8) Tryz.func323 rfl rfl (Nat.le_of_ble_eq_true rfl) (CW_seq (CW_region (V (R_assign rfl) (LW_nil (sq_n (CW_seq (CW_region (V (R_move rfl) (V (R_move rfl) (VE (E_ext (args := [a, c]) (v := .int .i64 (xCompareB f g)) rfl (by exact args2 rfl rfl) (ext369 _ (i.mono (Pl.mono _) hST.sub_hp) (j.mono (Pl.mono _) hST.sub_hp)) (V (R_assign rfl) (LW_nil (sq_n (CW_ret ?_)))))))))))))))
  replace hm := Option.some.inj hm; subst hm
  exact retQ_1 (v := (.int .i64 ((xCompareB f g)))) rfl rfl ⟨rfl, hST.ex⟩
theorem w_cred_Compare (f : Cred) (g : Cred) (r : Int) (w : World)  (hm : m_cred_Compare f g = some r) :
    Gives true Tryz.prog 231 [(.agg (encCred f).toArray), (.agg (encCred g).toArray)] w (.int .i64 r) := by
  have hST := ST.start (dd := true) w
  unfold m_cred_Compare at hm
  refine calls_of_CW (n := 10) Tryz.func231 rfl rfl (Nat.le_of_ble_eq_true rfl) (CW_seq (CW_region (VE (E_box (v := (.agg (encCred f).toArray)) hST rfl (fun Q U hST => VE (E_box (v := (.agg (encCred g).toArray)) hST rfl (fun T Y hST => V (R_assign rfl) (LW_nil (sq_n (CW_seq ?_))))))))))
  replace hST := hST.drew
  have hS0 := hST.has.sel (Kb (Kb Sn))
  refine PX_start1 hS0 Tryz_mixed (XH 0 rfl hS0 (fun _ hS => R_load rfl (load_boxA hS (Mt Mh) (encCred f) rfl Tryz.isAgg53 Tryz.sizeOf53)) (XH 2 rfl hS0 (fun _ hS => R_load rfl (load_boxA hS Mh (encCred g) rfl Tryz.isAgg53 Tryz.sizeOf53)) ?_))
  obtain ⟨z, u, hm⟩ := bind_some hm
  refine XE 1 rfl (F_givesRow (args := [(.agg (encCred f).toArray)]) _ hST rfl Tryz.call155 (by exact args1 rfl) ((w_cred_Bytes f _ _  u)) (fun I i M G hST a hl52 k => ?_))
  have hS0 := hST.has.selS a (Dr (Kb (Kb Sn)))
  refine ⟨hS0, ?_⟩
  obtain ⟨B, x, hm⟩ := bind_some hm
  refine XE 3 rfl (F_givesRow (args := [(.agg (encCred g).toArray)]) _ hST rfl Tryz.call155 (by exact args1 rfl) ((w_cred_Bytes g _ _  x)) (fun J j N H hST c hl61 t => ?_))
  have hS0 := hST.has.selS (a.trans c) (Dr (Dr (Kb (Kb Sn))))
  refine ⟨hS0, ?_⟩
  obtain ⟨D, y, hm⟩ := bind_some hm
  refine XE 4 rfl (E_gives (args := [i, j]) hST rfl Tryz.call323 (by exact args2 rfl rfl) ((w_bytes_Compare i z j B _ _ (k.sl (fun _ => rfl) (fun b o hq => hST.at_ (Ma (Ml hq)))) (t.sl (fun _ => rfl) (fun b o hq => hST.at_ (Ml hq))) y)) (fun K hST => ?_))
  have hS0 := hST.has.selS (a.trans c) (Dr (Dr (Kb (Kb Sn))))
  refine ⟨hS0, (X 5 rfl hS0 (R_assign rfl) (PX_done (by kernel_rfl) (sq_n ?_)))⟩
  replace hST := hST.sel (Dr (Dr (Db (Db St))))
  refine CW_ret ?_
  replace hm := Option.some.inj hm; subst hm
  exact retQ_1 (v := (.int .i64 D)) rfl rfl ⟨rfl, hST.ex⟩
theorem w_slices_Compact_Cred (t : Value) (a0 : List Cred) (y : List (Nat × Obj)) (r : List Cred) (w : World) {μ0 : Mem} (h0 : Ent μ0 (y ++ []) w) (G : Row 53 encCred 9 t a0 y) (hm : m_slices_Compact_Cred a0 = some r) :
    GivesM true Tryz.prog 232 [t] w (y ++ []) (fun v L1 W' => ∃ (y1 : Value) (S2 : List (Nat × Obj)), v = y1 ∧ L1 = (S2 ++ []) ∧ Row 53 encCred 9 y1 r S2) := by
  have hST := ST.startE (dd := true) h0
  unfold m_slices_Compact_Cred at hm
  refine calls_of_CW (n := 61) Tryz.func232 rfl rfl (Nat.le_of_ble_eq_true rfl) (CW_seq (CW_region (V (R_assign rfl) (LW_nil (sq_n (CW_seq (CW_seq (CW_region (V (R_move rfl) (V (R_lenRow Tryz.underlying22 rfl G) (V (R_int rfl rfl rfl) (LW_nil (sq_n (CW_if (b := (decide (((a0.length : Int)) < 2))) rfl (fun d7 => ?_) (fun d7 => ?_)))))))))))))))
  · replace hm := if_t d7 hm
    refine CW_seq (CW_region (V (R_move rfl) (V (R_assign rfl) (LW_nil (sq_n (CW_ret (sq_r ?_)))))))
    replace hm := Option.some.inj hm; subst hm
    exact retQ_1 (v := t) rfl rfl ⟨_, _, rfl, (hST.bkM (Kr Sn)), t, y, rfl, rfl, G⟩
  replace hm := if_f d7 hm
  refine CW_skip (sq_n (CW_seq (CW_seq (CW_region (V (R_assign rfl) (LW_nil (sq_n (CW_block (CW_loop (fun m E W => ∃ (j : Int) (c4 : List (Nat × Obj)), ST true (keys (y ++ [])) w W μ0 (y ++ c4) ∧ E 0 = t ∧ E 3 = (.int .i64 j) ∧ m_slices_Compact_Cred_L1 a0 m j = some r) FUEL ⟨1, _, (hST.sel St), rfl, rfl, hm⟩ ?_)))))))))
  rintro m E W ⟨j, c4, hST, H, J, a⟩
  cases m with
  | zero => rw [m_slices_Compact_Cred_L1] at a; cases a
  | succ f8 =>
    rw [m_slices_Compact_Cred_L1] at a
    refine CW_seq (CW_seq (CW_region (V (R_move J) (V (R_move H) (V (R_lenRow Tryz.underlying22 rfl G) (V (R_int rfl rfl rfl) (LW_nil (sq_n (CW_if (b := (decide (j < ((a0.length : Int))))) rfl (fun a4 => ?_) (fun a4 => ?_))))))))))
    · replace a := if_t a4 a
      refine CW_skip (sq_n (CW_seq (CW_block (CW_seq ?_))))
      replace hST := hST.drew
      have hS0 := hST.has.sel (Kr Sn)
      refine PX_start1 hS0 Tryz_mixed (X 0 rfl hS0 (R_move H) (X 1 rfl hS0 (R_move J) ?_))
      obtain ⟨b5, a8, a⟩ := bind_some a
      refine XQ 2 rfl hS0 (R_indexRow (i := j) (x0 := b5) Tryz.underlying22 Tryz.sizeOf53 rfl rfl G (idx_nonneg a8) (idx_get a8)) (fun g4 e1 => XH 3 rfl hS0 (fun _ hS => R_load rfl (load_ixA hS (fun p hq => (Ml hq)) G lenCred e1 (idx_get a8) Tryz.isAgg53 Tryz.sizeOf53)) (X 4 rfl hS0 (R_move H) (X 5 rfl hS0 (R_move J) (X 6 rfl hS0 (R_int rfl rfl rfl) ?_))))
      obtain ⟨b6, a9, a⟩ := bind_some a
      refine XQ 7 rfl hS0 (R_indexRow (i := (IntKind.i64.wrap (j - 1))) (x0 := b6) Tryz.underlying22 Tryz.sizeOf53 rfl rfl G (idx_nonneg a9) (idx_get a9)) (fun g5 e2 => XH 8 rfl hS0 (fun _ hS => R_load rfl (load_ixA hS (fun p hq => (Ml hq)) G lenCred e2 (idx_get a9) Tryz.isAgg53 Tryz.sizeOf53)) (X 9 rfl hS0 (R_eql rfl rfl (guard_agg Tryz.eqGuardType53) (bin_eql (eqInCred _ b5 b6))) (PX_done (by kernel_rfl) (sq_n (CW_if (b := (beqCred b5 b6)) rfl (fun a5 => ?_) (fun a5 => ?_))))))
      · replace a := if_t a5 a
        refine CW_seq (CW_region (V (R_move H) (V (R_move J) ?_)))
        obtain ⟨_, b9, a⟩ := bind_some a
        refine VQ (R_sliceTail (i := j) Tryz.underlying22 Tryz.sizeOf53 rfl rfl G (chk_1 b9) (chk_2 b9)) (fun d2 Q => V (R_assign rfl) (LW_nil (sq_n (CW_seq (CW_seq (CW_region (V (R_assign rfl) (LW_nil (sq_n ?_)))))))))
        obtain ⟨d1, d8, d9⟩ := bind_some a
        refine CW_cut (fun E W => ∃ (T : List Cred) (b4 : List (Nat × Obj)) (k : Int) (c5 : List (Nat × Obj)), ST true (keys (y ++ [])) w W μ0 (b4 ++ c5) ∧ E 0 = t ∧ E 3 = (.int .i64 k) ∧ Row 53 encCred 9 t T b4 ∧ (((chk (decide (0 ≤ k) && decide (k ≤ (T.length : Int))))).bind fun _ => (((chk (decide (0 ≤ k) && decide (k ≤ (((clearT T (Int.toNat k) (⟨0, (⟨zS, zS⟩ : Role), zS, (⟨zS, zS⟩ : Role), (⟨zS, zS⟩ : Role), zS⟩ : Cred))).length : Int))))).bind fun _ => some (((clearT T (Int.toNat k) (⟨0, (⟨zS, zS⟩ : Role), zS, (⟨zS, zS⟩ : Role), (⟨zS, zS⟩ : Role), zS⟩ : Cred))).take (Int.toNat k)))) = some r) ?_ ?_
        · refine CW_block (CW_loop (fun m E W => ∃ (I : List Cred) (N : List (Nat × Obj)) (D : Int) (x : Int) (c6 : List (Nat × Obj)), ST true (keys (y ++ [])) w W μ0 (N ++ c6) ∧ E 0 = t ∧ E 3 = (.int .i64 D) ∧ E 4 = d2 ∧ E 5 = (.int .i64 x) ∧ Row 53 encCred 9 t I N ∧ m_slices_Compact_Cred_L2 j m I D x = some d1) FUEL ⟨a0, y, j, 1, _, (hST.sel St), H, J, rfl, rfl, G, d8⟩ ?_)
          rintro m E W ⟨I, N, D, x, c6, hST, Y, Z, K, M, g, f⟩
          cases m with
          | zero => rw [m_slices_Compact_Cred_L2] at f; cases f
          | succ d0 =>
            rw [m_slices_Compact_Cred_L2] at f
            refine CW_seq (CW_seq (CW_region (V (R_move M) (V (R_move K) (V (R_lenTail Tryz.underlying22 rfl Q g) (V (R_int rfl rfl rfl) (LW_nil (sq_n (CW_if (b := (decide (x < (((I.length - (Int.toNat j) : Nat) : Int))))) rfl (fun a6 => ?_) (fun a6 => ?_))))))))))
            · replace f := if_t a6 f
              refine CW_skip (sq_n (CW_seq ?_))
              obtain ⟨h1, c, c2⟩ := bind_some f
              refine CW_cut (fun E W => ∃ (a1 : List Cred) (U : List (Nat × Obj)) (a2 : Int) (c7 : List (Nat × Obj)), ST true (keys (y ++ [])) w W μ0 (U ++ c7) ∧ E 0 = t ∧ E 3 = (.int .i64 a2) ∧ E 4 = d2 ∧ E 5 = (.int .i64 x) ∧ Row 53 encCred 9 t a1 U ∧ (m_slices_Compact_Cred_L2 j d0 a1 a2 ((IntKind.i64.wrap (x + 1)))) = some d1) ?_ ?_
              · refine CW_block (CW_seq ?_)
                replace hST := hST.drew
                have hS0 := hST.has.sel (Kr Sn)
                refine PX_start1 hS0 Tryz_mixed (X 0 rfl hS0 (R_move K) (X 1 rfl hS0 (R_move M) ?_))
                obtain ⟨b7, b0, c⟩ := bind_some c
                refine XQ 2 rfl hS0 (R_indexTail (i := x) (x0 := b7) Tryz.underlying22 Tryz.sizeOf53 rfl rfl g Q (idx_nonneg b0) (idx_get b0)) (fun g6 e3 => XH 3 rfl hS0 (fun _ hS => R_load rfl (load_ixA hS (fun p hq => (Ml hq)) g lenCred e3 (tail_get (idx_get b0)) Tryz.isAgg53 Tryz.sizeOf53)) (X 4 rfl hS0 (R_move K) (X 5 rfl hS0 (R_move M) (X 6 rfl hS0 (R_int rfl rfl rfl) ?_))))
                obtain ⟨b8, b1, c⟩ := bind_some c
                refine XQ 7 rfl hS0 (R_indexTail (i := (IntKind.i64.wrap (x - 1))) (x0 := b8) Tryz.underlying22 Tryz.sizeOf53 rfl rfl g Q (idx_nonneg b1) (idx_get b1)) (fun g7 e4 => XH 8 rfl hS0 (fun _ hS => R_load rfl (load_ixA hS (fun p hq => (Ml hq)) g lenCred e4 (tail_get (idx_get b1)) Tryz.isAgg53 Tryz.sizeOf53)) (X 9 rfl hS0 (R_neq rfl rfl (guard_agg Tryz.eqGuardType53) (bin_neq (eqInCred _ b7 b8))) (PX_done (by kernel_rfl) (sq_n (CW_if (b := (!(beqCred b7 b8))) rfl (fun a7 => ?_) (fun a7 => ?_))))))
                · replace c := if_t a7 c
                  refine CW_seq (CW_region (V (R_move Y) (V (R_move Z) (V (R_move K) (V (R_move M) ?_)))))
                  obtain ⟨a3, b2, c⟩ := bind_some c
                  refine VQ (R_indexTail (i := x) (x0 := a3) Tryz.underlying22 Tryz.sizeOf53 rfl rfl g Q (idx_nonneg b2) (idx_get b2)) (fun g8 e5 => V (R_load rfl (load_ixA hST.has (fun p hq => (Ml hq)) g lenCred e5 (tail_get (idx_get b2)) Tryz.isAgg53 Tryz.sizeOf53)) ?_)
                  obtain ⟨f9, b3, c⟩ := bind_some c
                  refine VQ (R_indexRow (i := D) (x0 := f9) Tryz.underlying22 Tryz.sizeOf53 rfl rfl g (idx_nonneg b3) (idx_get b3)) (fun g9 e6 => VO (F_storeRow (u := (.agg (encCred a3).toArray)) (x1 := a3)  hST g lenCred oneCred rfl rfl rfl e6 (idx_get b3) Tryz.sizeOf53 (fun g3 f3 hST d6 => LW_nil (sq_n (CW_region (V (R_move Z) (V (R_int rfl rfl rfl) (V (R_assign rfl) (LW_nil (bq_n (sq_n ?_)))))))))))
                  replace c := Option.some.inj c; subst c
                  exact ⟨((I.set (Int.toNat D) a3)), f3, ((IntKind.i64.wrap (D + 1))), _, (hST.sel St), Y, rfl, K, M, d6, c2⟩
                replace c := if_f a7 c
                refine CW_skip (bq_n (sq_n ?_))
                replace c := Option.some.inj c; subst c
                exact ⟨I, N, D, _, (hST.sel St), Y, Z, K, M, g, c2⟩
              rintro E W ⟨a1, U, a2, c7, hST, f4, f5, f6, f7, e9, e0⟩
              exact CW_region (V (R_move f7) (V (R_int rfl rfl rfl) (V (R_assign rfl) (LW_nil (sq_n ⟨d0, Nat.lt_succ_self _, a1, U, a2, ((IntKind.i64.wrap (x + 1))), _, (hST.sel St), f4, f5, f6, rfl, e9, e0⟩)))))
            replace f := if_f a6 f
            refine CW_exit (sq_e (sq_e (bq_e (sq_n ?_))))
            replace f := Option.some.inj f; subst f
            exact ⟨I, N, D, _, (hST.sel St), Y, Z, g, d9⟩
        rintro E W ⟨T, b4, k, c5, hST, c8, c9, c3, B⟩
        refine CW_seq (CW_region (V (R_move c8) (V (R_move c9) ?_)))
        obtain ⟨_, c0, B⟩ := bind_some B
        refine VQ (R_sliceTail (i := k) Tryz.underlying22 Tryz.sizeOf53 rfl rfl c3 (chk_1 c0) (chk_2 c0)) (fun h2 e7 => VO (F_clearTail (z := (⟨0, (⟨zS, zS⟩ : Role), zS, (⟨zS, zS⟩ : Role), (⟨zS, zS⟩ : Role), zS⟩ : Cred))  hST c3 lenCred oneCred Tryz.underlying22 Tryz.zeroValue53 e7 rfl rfl (fun g2 f2 hST d5 => LW_nil (sq_n (CW_seq (CW_region (V (R_move c8) (V (R_move c9) ?_))))))))
        obtain ⟨_, c1, B⟩ := bind_some B
        refine VQ (R_sliceTo (i := k) Tryz.underlying22 Tryz.sizeOf53 rfl rfl d5 lenCred (chk_1 c1) (chk_2 c1)) (fun d3 e8 => V (R_assign rfl) (LW_nil (sq_n (CW_ret (bq_r (sq_r (sq_r (bq_r (sq_r ?_)))))))))
        replace B := Option.some.inj B; subst B
        exact retQ_1 (v := d3) rfl rfl ⟨_, _, rfl, (hST.bkM (Kr Sn)), d3, f2, rfl, rfl, e8⟩
      replace a := if_f a5 a
      exact CW_skip (bq_n (sq_n (CW_region (V (R_move J) (V (R_int rfl rfl rfl) (V (R_assign rfl) (LW_nil (sq_n ⟨f8, Nat.lt_succ_self _, ((IntKind.i64.wrap (j + 1))), _, (hST.sel St), H, rfl, a⟩))))))))
    replace a := if_f a4 a
    refine CW_exit (sq_e (sq_e (bq_e (sq_n (CW_seq (CW_region (V (R_move H) (V (R_assign rfl) (LW_nil (sq_n (CW_ret ?_)))))))))))
    replace a := Option.some.inj a; subst a
    exact retQ_1 (v := t) rfl rfl ⟨_, _, rfl, (hST.bkM (Kr Sn)), t, y, rfl, rfl, G⟩
theorem w_cred_Set (a : Value) (k : List Cred) (r : List Cred) (w : World) (z : Sl (Pl encCred) 9 (hp w) a k) (hm : m_cred_Set k = some r) :
    GivesRow false Tryz.prog 116 [a] w 53 encCred 9 r := by
  have hST := ST.start (dd := false) w
  unfold m_cred_Set at hm
  refine calls_of_CW (n := 11) Tryz.func116 rfl rfl (Nat.le_of_ble_eq_true rfl) (CW_seq (CW_region (V (R_assign rfl) (LW_nil (sq_n (CW_seq (CW_region (V (R_move rfl) ?_))))))))
  obtain ⟨r1, Q, hm⟩ := bind_some hm
  refine VE (F_givesRow (args := [a]) _ hST rfl Tryz.call228 (by exact args1 rfl) (GivesRow.weak (w_slices_Clone_Cred a k _ _ (z.mono (Pl.mono _) hST.sub_hp) Q)) (fun W3 Y μ4 R8 hST a5 hl6 N => ?_))
  obtain ⟨T, B, hm⟩ := bind_some hm
  have hsz := hST.size
  refine VE (E_callM (args := [Y, (.func (.func 229) #[] #[])]) (caps := #[]) _ _ hST (Cr Qz Cn) rfl Tryz.call143 (by exact args2 rfl rfl) (fun hH hN hsb hmm => (w_slices_DeleteFunc_Cred Y r1 R8 (.func (.func 229) #[] #[]) (fun (x : Cred) => m_cred_Set_c1 x) _ _ ⟨hH, hN, Sub.refl _⟩ N ⟨229, #[], #[], rfl, Tryz.call229, fun W x r hs hm => (w_cred_Set_c1 x r W  hm).weak⟩ B)) (fun b0 b4 b7 a7 hST a1 hl15 hlift t => ?_))
  obtain ⟨i, J, c, rfl, H⟩ := t
  replace c := c.symm; subst c
  replace hST := hST.perm (Tr Tn)
  refine V (R_assign rfl) (LW_nil (sq_n (CW_seq (CW_region (V (R_move rfl) ?_)))))
  obtain ⟨U, D, hm⟩ := bind_some hm
  have hsz := hST.size
  refine VE (E_callM (args := [i, (.func (.func 231) #[] #[])]) (caps := #[]) _ _ hST (Cr Qz Cn) rfl Tryz.call230 (by exact args2 rfl rfl) (fun hH hN hsb hmm => GivesM.weak (w_sortF230 i T J (.func (.func 231) #[] #[]) (fun (x : (Cred × Cred)) => m_cred_Compare x.1 x.2) _ _ ⟨hH, hN, Sub.refl _⟩ H ⟨231, #[], rfl, Tryz.call231, fun W x r hs hm => w_cred_Compare x.1 x.2 r W  hm⟩ D)) (fun b1 b5 b8 a8 hST a2 hl28 hlift u => ?_))
  obtain ⟨K, f, rfl, I⟩ := u
  replace f := f.symm; subst f
  replace hST := hST.perm (Tr Tn)
  refine LW_nil (sq_n (CW_seq (CW_region (V (R_move rfl) ?_))))
  obtain ⟨b3, G, hm⟩ := bind_some hm
  have hsz := hST.size
  refine VE (E_callM (args := [i]) (caps := #[]) _ _ hST (Cr Qz Cn) rfl Tryz.call232 (by exact args1 rfl) (fun hH hN hsb hmm => GivesM.weak (w_slices_Compact_Cred i U K _ _ ⟨hH, hN, Sub.refl _⟩ I G)) (fun b2 b6 b9 a9 hST a3 hl40 hlift y => ?_))
  obtain ⟨Z, M, g, rfl, j⟩ := y
  replace g := g.symm; subst g
  replace hST := hST.perm (Tr Tn)
  refine V (R_assign rfl) (LW_nil (sq_n (CW_ret ?_)))
  replace hm := Option.some.inj hm; subst hm
  exact retQ_1 (v := Z) rfl rfl ⟨_, M, rfl, hST.backRow (fun p hq => (Ml hq)) j.nd, j⟩
theorem w_keys_Registry_Good (x : Value) (Q : Option KeysRegistry) (I : Value) (M : List Signed) (r : List Cred) (w : World) (a6 : OptR relKeysRegistry (hp w) x Q) (H : Sl relSigned 10 (hp w) I M) (hm : m_keys_Registry_Good Q M = some r) :
    GivesRow false Tryz.prog 57 [x, I] w 53 encCred 9 r := by
  have hST := ST.start (dd := false) w
  unfold m_keys_Registry_Good at hm
  refine calls_of_CW (n := 26) Tryz.func57 rfl rfl (Nat.le_of_ble_eq_true rfl) (CW_seq (CW_region (V (R_assign rfl) (LW_nil (sq_n (CW_seq (CW_region (V (R_assign rfl) (LW_nil (sq_n (CW_seq (CW_seq (CW_region (V (R_move rfl) ?_))))))))))))))
  refine V (R_len Tryz.underlying50 rfl H) (V (R_move rfl) (LW_nil (sq_n (CW_range (fun i E W => ∃ (f : Value) (j : List Cred) (g : List (Nat × Obj)) (G : List (Nat × Obj)), (E 10 = .int .i64 (i : Nat) ∧ E 9 = .int .i64 (M.length : Nat)) ∧ ST false NoF w W (hp w) (g ++ G) ∧ E 0 = x ∧ E 5 = f ∧ E 8 = I ∧ Row 53 encCred 9 f j g ∧ m_keys_Registry_Good_L1 Q (M.drop i) j = some r) M.length H.len ⟨(.slice none 0 0), ([]), [], _, ⟨rfl, rfl⟩, (hST.sel St), rfl, rfl, rfl, (Row.nil _ _ _), hm⟩ (by decide) (by decide) (by decide) (fun _ _ _ h => by obtain ⟨_, _, _, _, eIN, _⟩ := h; exact eIN) ?_ ?_))))
  · rintro b5 E W a7 ⟨f, j, g, G, ⟨eI, eN⟩, hST, y, z, B, k, c⟩
    obtain ⟨a, c6, a9, a8, N⟩ := drop_cons a7
    rw [a9] at c
    rw [m_keys_Registry_Good_L1] at c
    refine CW_block (CW_seq (CW_region (VQ (R_indexD (i := (b5 : Int)) (x0 := a) relSigned.out Tryz.underlying50 Tryz.sizeOf56 B eI H (Int.natCast_nonneg _) a8) (fun c3 ⟨_, ⟨c5, rfl, K⟩, Y⟩ => V (R_load rfl (load_atA hST.has Y Tryz.isAgg56 Tryz.sizeOf56)) (VE (E_alloc hST Tryz.zeroValue56 (fun b6 c2 hST => ?_)))))))
    obtain ⟨t, u, rfl⟩ := K.form
    refine VO (F_store (.agg #[(.int .i64 a.Cred.Kind), (.string a.Cred.Head.Owner), (.string a.Cred.Head.Word), (.string a.Cred.Who), (.string a.Cred.B.Owner), (.string a.Cred.B.Word), (.string a.Cred.C.Owner), (.string a.Cred.C.Word), (.string a.Cred.Word2), (.slice t a.Tag.length u)]) (#[(.int .i64 a.Cred.Kind), (.string a.Cred.Head.Owner), (.string a.Cred.Head.Word), (.string a.Cred.Who), (.string a.Cred.B.Owner), (.string a.Cred.B.Word), (.string a.Cred.C.Owner), (.string a.Cred.C.Word), (.string a.Cred.Word2), (.slice t a.Tag.length u)]) hST rfl rfl Tryz.sizeOf56 (by simp [Value.cells, Value.oneCell']) (Nat.le_of_ble_eq_true rfl) rfl (fun b7 hST => LW_nil (sq_n (CW_seq (CW_region (V (R_move y) (V (R_load rfl (load_boxA hST.has Mh [(.int .i64 a.Cred.Kind), (.string a.Cred.Head.Owner), (.string a.Cred.Head.Word), (.string a.Cred.Who), (.string a.Cred.B.Owner), (.string a.Cred.B.Word), (.string a.Cred.C.Owner), (.string a.Cred.C.Word), (.string a.Cred.Word2), (.slice t a.Tag.length u)] rfl Tryz.isAgg56 Tryz.sizeOf56)) ?_)))))))
    obtain ⟨b1, Z, c⟩ := bind_some c
    refine VE (E_gives (args := [x, (.agg #[(.int .i64 a.Cred.Kind), (.string a.Cred.Head.Owner), (.string a.Cred.Head.Word), (.string a.Cred.Who), (.string a.Cred.B.Owner), (.string a.Cred.B.Word), (.string a.Cred.C.Owner), (.string a.Cred.C.Word), (.string a.Cred.Word2), (.slice t a.Tag.length u)])]) hST rfl Tryz.call51 (by exact args2 rfl rfl) (Gives.weak (w_keys_Registry_Check x Q a (.slice t a.Tag.length u) _ _ (a6.mono dKeysRegistry hST.sub_hp) (K.mono (Pl.mono _) hST.sub_hp) Z)) (fun b8 hST => V (R_int rfl rfl rfl) (LW_nil (sq_n (CW_if (b := (b1 == 0)) rfl (fun D => ?_) (fun D => ?_))))))
    · replace c := if_t D c
      refine CW_region (V (R_move z) (V (R_field fa56_0 rfl) (V (R_load rfl (load_boxA hST.has Mh (encCred a.Cred) rfl Tryz.isAgg53 Tryz.sizeOf53)) (VE (E_buildSlice (qs := #[(0, (.agg (encCred a.Cred).toArray))]) (cs := (encCred a.Cred).toArray) hST (parts1 rfl) (run_lit [(.agg (encCred a.Cred).toArray)] Tryz.underlying22 Tryz.sizeOf53 Tryz.zeroValue53 (by decide) rfl (by intro v hv; simp only [List.mem_cons, List.not_mem_nil, or_false] at hv; rcases hv with rfl <;> rfl) rfl rfl) (fun b9 a5 hST => ?_))))))
      replace hST := hST.perm (Nr (Qb (Qb Qz)) Nz)
      obtain ⟨b0, U, c⟩ := bind_some c
      refine VE (F_append (enc := encCred) (v := f) (vs := (.slice (some ⟨a5, 0, none⟩) 1 1)) (R := g) hST lenCred (by decide) oneCred Tryz.underlying22 info53.1 info53.2.1 rfl info53.2.2.1 info53.2.2.2 rfl rfl k (Sl.lit (enc := encCred) (l := [a.Cred]) lenCred rfl (Nat.le_of_ble_eq_true rfl) rfl (hST.at_ (Ma Mh))) U (fun c0 b2 a3 hST T => V (R_assign rfl) (LW_nil (bq_n (sq_n ?_)))))
      replace hST := hST.sel (Kr (Db (Db St)))
      exact ⟨eI, b2, b0, a3, _, ⟨rfl, eN⟩, (hST.sel St), y, rfl, B, T, (by rw [N]; exact c)⟩
    replace c := if_f D c
    refine CW_skip (bq_n (sq_n ?_))
    replace hST := hST.sel (Db St)
    exact ⟨eI, f, j, g, _, ⟨rfl, eN⟩, (hST.sel St), y, z, B, k, (by rw [N]; exact c)⟩
  rintro E W ⟨f, j, g, G, ⟨eI, eN⟩, hST, y, z, B, k, c⟩
  rw [List.drop_length] at c
  rw [m_keys_Registry_Good_L1] at c
  refine sq_n (CW_seq (CW_region (V (R_move z) ?_)))
  obtain ⟨c4, a2, c⟩ := bind_some c
  refine VE (F_givesRow (args := [f]) _ hST rfl Tryz.call116 (by exact args1 rfl) ((w_cred_Set f j _ _ (k.sl lenCred (fun b o hq => hST.at_ (Ml hq))) a2)) (fun c1 b3 c7 a4 hST b4 hl184 J => V (R_assign rfl) (LW_nil (sq_n ?_))))
  replace hST := hST.sel (Kr (Dr St))
  refine CW_ret ?_
  replace c := Option.some.inj c; subst c
  exact retQ_1 (v := b3) rfl rfl ⟨_, a4, rfl, hST.backRow (fun p hq => (Ml hq)) J.nd, J⟩
theorem w_revoke_Live_c1 (c : Cred) (f : Nat) (a : Value) (i : List (Cred × Bool)) (r : Bool) (w : World) (j : MapAt (fun (x : Cred) => (.agg (encCred x).toArray)) (fun (x : Bool) => (Value.bool x)) (hp w) a i) (g : At (hp w) (.pointer (some ⟨f, 0, none⟩)) [a]) (hm : m_revoke_Live_c1 c i = some r) :
    Gives true Tryz.prog 144 [(.agg (encCred c).toArray), (.pointer (some ⟨f, 0, none⟩))] w (.bool r) := by
  have hST := ST.start (dd := true) w
  unfold m_revoke_Live_c1 at hm
  refine calls_of_CW (n := 7) Tryz.func144 rfl rfl (Nat.le_of_ble_eq_true rfl) (CW_seq (CW_region (VE (E_box (v := (.agg (encCred c).toArray)) hST rfl (fun t u hST => V (R_assign rfl) (LW_nil (sq_n (CW_seq (CW_region (V (R_load rfl (load_at1 hST.has (y := a) g Tryz.isAgg134)) (V (R_load rfl (load_boxA hST.has Mh (encCred c) rfl Tryz.isAgg53 Tryz.sizeOf53)) (V (R_lookupD (k := c) (z := false) (vf := (fun (x : Bool) => (Value.bool x))) kl53 Tryz.underlying134 Tryz.zeroValue4 rfl rfl (j.mono (fun b o hq => hST.has.1 b o hq))) (V (R_assign rfl) (LW_nil (sq_n ?_)))))))))))))))
  replace hST := hST.sel (Db St)
  refine CW_ret ?_
  replace hm := Option.some.inj hm; subst hm
  exact retQ_1 (v := (.bool ((mgetD beqCred i c false)))) rfl rfl ⟨rfl, hST.ex⟩
theorem w_revoke_Live (g : Value) (a0 : List Key) (B : Value) (a1 : List Signed) (a3 : Value) (a2 : List Signed) (r : List Cred) (w : World) (b0 : Sl relKey 2 (hp w) g a0) (c7 : Sl relSigned 10 (hp w) B a1) (T : Sl relSigned 10 (hp w) a3 a2) (hm : m_revoke_Live a0 a1 a2 = some r) :
    GivesRow false Tryz.prog 42 [g, B, a3] w 53 encCred 9 r := by
  have hST := ST.start (dd := false) w
  unfold m_revoke_Live at hm
  refine calls_of_CW (n := 38) Tryz.func42 rfl rfl (Nat.le_of_ble_eq_true rfl) (CW_seq (CW_region (V (R_assign rfl) (LW_nil (sq_n (CW_seq (CW_region (V (R_move rfl) ?_))))))))
  obtain ⟨r1, d7, hm⟩ := bind_some hm
  have hsz := hST.size
  refine VE (E_givesD (args := [g]) (caps := #[]) [] _ hST (List.Perm.refl _) rfl Tryz.call49 (by exact args1 rfl) (fun hH hN hsb hmm => GivesD.weak (w_keys_New g a0 _ _ ⟨hH, hN, hsb⟩ (b0.mono dKey.mono (Sub.refl _)) d7)) (fun W3 v7 μ4 L9 hST Y hl6 d4 => ?_))
  obtain ⟨b2, Z, rfl, c8⟩ := d4
  replace Z := Z.symm; subst Z
  replace hST := hST.perm Tn
  refine V (R_move rfl) (V (R_extract rfl rfl) (V (R_extract rfl rfl) (V (R_assign rfl) (V (R_assign rfl) (LW_nil (sq_n (CW_seq (CW_seq (CW_region (V (R_move rfl) (V (R_int rfl rfl rfl) (LW_nil (sq_n (CW_if (b := (r1.2 != 0)) rfl (fun U => ?_) (fun U => ?_)))))))))))))))
  · replace hm := if_t U hm
    refine CW_seq (CW_region (V (R_assign rfl) (LW_nil (sq_n (CW_ret (sq_r ?_))))))
    replace hm := Option.some.inj hm; subst hm
    exact retQ_1 (v := (.slice none 0 0)) rfl rfl ⟨_, [], rfl, hST.backRow (fun p hq => by cases hq) (by simp), Row.nil _ _ _⟩
  replace hm := if_f U hm
  refine CW_skip (sq_n (CW_seq (CW_region (VE (E_makeMap (P := Tryz.prog) (fun (x : Cred) => (.agg (encCred x).toArray)) (fun (x : Bool) => (Value.bool x)) hST (fun f5 f8 d3 hST a9 => VE (E_alloc hST Tryz.zeroValue134 (fun f6 D hST => ?_))))))))
  obtain ⟨N, rfl⟩ := a9.form
  refine VO (F_store (.map (some N)) (#[(.map (some N))]) hST rfl rfl Tryz.sizeOf134 (by simp [Value.cells, Value.oneCell']) (Nat.le_of_ble_eq_true rfl) rfl (fun f7 hST => LW_nil (sq_n (CW_seq (CW_seq (CW_region (V (R_move rfl) (V (R_len Tryz.underlying50 rfl T) (V (R_move rfl) (LW_nil (sq_n (CW_range (fun i E W => ∃ (f : List (Cred × Bool)) (u : List (Nat × Obj)) (Q : List (Nat × Obj)), (E 22 = .int .i64 (i : Nat) ∧ E 21 = .int .i64 (a2.length : Nat)) ∧ ST false NoF w W μ4 ((D, Obj.cells (#[(.map (some N))] : Array Value) 134 (0, 0)) :: (u ++ Q)) ∧ E 0 = g ∧ E 1 = B ∧ E 7 = b2 ∧ E 9 = (.pointer (some ⟨D, 0, none⟩)) ∧ E 20 = a3 ∧ MapRow (fun (x : Cred) => (.agg (encCred x).toArray)) (fun (x : Bool) => (Value.bool x)) (.map (some N)) f u ∧ m_revoke_Live_L1 a0 r1 a1 (a2.drop i) f = some r) a2.length T.len ⟨([]), d3, _, ⟨rfl, rfl⟩, (hST.sel St), rfl, rfl, rfl, rfl, rfl, a9, hm⟩ (by decide) (by decide) (by decide) (fun _ _ _ h => by obtain ⟨_, _, _, eIN, _⟩ := h; exact eIN) ?_ ?_))))))))))))
  · rintro d8 E W b7 ⟨f, u, Q, ⟨eI, eN⟩, hST, G, H, I, z, J, j, c⟩
    obtain ⟨a, d9, c3, c2, a5⟩ := drop_cons b7
    rw [c3] at c
    rw [m_revoke_Live_L1] at c
    refine CW_block (CW_seq (CW_region (VQ (R_indexD (i := (d8 : Int)) (x0 := a) relSigned.out Tryz.underlying50 Tryz.sizeOf56 J eI (T.mono dSigned.mono Y) (Int.natCast_nonneg _) c2) (fun e8 ⟨_, ⟨f0, rfl, a4⟩, b8⟩ => V (R_load rfl (load_atA hST.has b8 Tryz.isAgg56 Tryz.sizeOf56)) (VE (E_alloc hST Tryz.zeroValue56 (fun e1 e7 hST => ?_)))))))
    obtain ⟨t, y, rfl⟩ := a4.form
    refine VO (F_store (.agg #[(.int .i64 a.Cred.Kind), (.string a.Cred.Head.Owner), (.string a.Cred.Head.Word), (.string a.Cred.Who), (.string a.Cred.B.Owner), (.string a.Cred.B.Word), (.string a.Cred.C.Owner), (.string a.Cred.C.Word), (.string a.Cred.Word2), (.slice t a.Tag.length y)]) (#[(.int .i64 a.Cred.Kind), (.string a.Cred.Head.Owner), (.string a.Cred.Head.Word), (.string a.Cred.Who), (.string a.Cred.B.Owner), (.string a.Cred.B.Word), (.string a.Cred.C.Owner), (.string a.Cred.C.Word), (.string a.Cred.Word2), (.slice t a.Tag.length y)]) hST rfl rfl Tryz.sizeOf56 (by simp [Value.cells, Value.oneCell']) (Nat.le_of_ble_eq_true rfl) rfl (fun e2 hST => LW_nil (sq_n (CW_seq (CW_region (V (R_move G) (V (R_load rfl (load_boxA hST.has Mh [(.int .i64 a.Cred.Kind), (.string a.Cred.Head.Owner), (.string a.Cred.Head.Word), (.string a.Cred.Who), (.string a.Cred.B.Owner), (.string a.Cred.B.Word), (.string a.Cred.C.Owner), (.string a.Cred.C.Word), (.string a.Cred.Word2), (.slice t a.Tag.length y)] rfl Tryz.isAgg56 Tryz.sizeOf56)) ?_)))))))
    obtain ⟨d0, b9, c⟩ := bind_some c
    refine VE (E_gives (args := [g, (.agg #[(.int .i64 a.Cred.Kind), (.string a.Cred.Head.Owner), (.string a.Cred.Head.Word), (.string a.Cred.Who), (.string a.Cred.B.Owner), (.string a.Cred.B.Word), (.string a.Cred.C.Owner), (.string a.Cred.C.Word), (.string a.Cred.Word2), (.slice t a.Tag.length y)])]) hST rfl Tryz.call39 (by exact args2 rfl rfl) (Gives.weak (w_revoke_Good g a0 a (.slice t a.Tag.length y) _ _ (b0.mono dKey.mono (Y.trans hST.sub_hp)) (a4.mono (Pl.mono _) hST.sub_hp) b9)) (fun e3 hST => LW_nil (sq_n (CW_if (b := d0) rfl (fun K => ?_) (fun K => ?_)))))
    · replace c := if_t K c
      refine CW_region (V (R_load z (load_box1 hST.has (Mt Mh) rfl Tryz.isAgg134)) (V (R_field fa56_0 rfl) (V (R_load rfl (load_boxA hST.has Mh (encCred a.Cred) rfl Tryz.isAgg53 Tryz.sizeOf53)) ?_)))
      replace hST := hST.perm (Nr (Qb (Qb Qz)) Nz)
      refine VO (F_mapUpdate (k := a.Cred) (v := true) (vf := (fun (x : Bool) => (Value.bool x)))  kl53 Tryz.underlying134 hST j rfl rfl rfl (fun e4 c4 hST b5 => LW_nil (bq_n (sq_n ?_))))
      replace hST := hST.sel (Kr (Db St))
      exact ⟨eI, ((mput beqCred f a.Cred true)), c4, _, ⟨rfl, eN⟩, (hST.sel (Sb (Pr Pz) St)), G, H, I, z, J, b5, (by rw [a5]; exact c)⟩
    replace c := if_f K c
    refine CW_skip (bq_n (sq_n ?_))
    replace hST := hST.sel (Db St)
    exact ⟨eI, f, u, _, ⟨rfl, eN⟩, (hST.sel St), G, H, I, z, J, j, (by rw [a5]; exact c)⟩
  rintro E W ⟨f, u, Q, ⟨eI, eN⟩, hST, G, H, I, z, J, j, c⟩
  rw [List.drop_length] at c
  rw [m_revoke_Live_L1] at c
  refine sq_n (CW_seq (CW_region (V (R_move I) (V (R_move H) ?_))))
  obtain ⟨d1, c0, c⟩ := bind_some c
  refine VE (F_givesRow (args := [b2, B]) _ hST rfl Tryz.call57 (by exact args2 rfl rfl) ((w_keys_Registry_Good b2 r1.1 B a1 _ _ (c8.mono dKeysRegistry hST.sub_hp) (c7.mono dSigned.mono (Y.trans hST.sub_hp)) c0)) (fun e5 b1 f2 c5 hST d5 hl179 b6 => V (R_makeFuncC (by exact args1 z) rfl) ?_))
  obtain ⟨e9, c1, c⟩ := bind_some c
  have hsz := hST.size
  refine VE (E_callM (args := [b1, (.func (.func 144) #[] #[(.pointer (some ⟨D, 0, none⟩))])]) (caps := #[]) _ _ hST (Cr Qz Cn) rfl Tryz.call143 (by exact args2 rfl rfl) (fun hH hN hsb hmm => (w_slices_DeleteFunc_Cred b1 d1 c5 (.func (.func 144) #[] #[(.pointer (some ⟨D, 0, none⟩))]) (fun (x : Cred) => m_revoke_Live_c1 x f) _ _ ⟨hH, hN, Sub.refl _⟩ b6 ⟨144, #[], #[(.pointer (some ⟨D, 0, none⟩))], rfl, Tryz.call144, fun W x r hs hm => (w_revoke_Live_c1 x D (.map (some N)) f r W (j.at (fun b o hq => hs _ _ ((fun b o hq => hmm b o (Mt (Ml hq))) b o hq))) (At.of (hs _ _ (hmm _ _ Mh)) _ rfl) hm).weak⟩ c1)) (fun e6 f1 f3 e0 hST d6 hl188 hlift b4 => ?_))
  obtain ⟨d2, c6, M, rfl, a6⟩ := b4
  replace M := M.symm; subst M
  replace hST := hST.perm (Tr Tn)
  refine V (R_assign rfl) (LW_nil (sq_n ?_))
  replace hST := hST.sel (Kr (Db (Dr St)))
  refine CW_ret ?_
  replace c := Option.some.inj c; subst c
  exact retQ_1 (v := d2) rfl rfl ⟨_, c6, rfl, hST.backRow (fun p hq => (Ml hq)) a6.nd, a6⟩
theorem w_slices_Index_Cred (j : Value) (t : List Cred) (c : Cred) (r : Int) (w : World) (f : Sl (Pl encCred) 9 (hp w) j t) (hm : m_slices_Index_Cred t c = some r) :
    Gives true Tryz.prog 339 [j, (.agg (encCred c).toArray)] w (.int .i64 r) := by
  have hST := ST.start (dd := true) w
  unfold m_slices_Index_Cred at hm
  refine calls_of_CW (n := 19) Tryz.func339 rfl rfl (Nat.le_of_ble_eq_true rfl) (CW_seq (CW_region (VE (E_box (v := (.agg (encCred c).toArray)) hST rfl (fun N J hST => V (R_assign rfl) (LW_nil (sq_n (CW_seq (CW_seq (CW_region (V (R_move rfl) (V (R_len Tryz.underlying22 rfl f) (V (R_move rfl) (LW_nil (sq_n ?_)))))))))))))))
  refine CW_range (fun i E W => ∃  (k : List (Nat × Obj)), (E 8 = .int .i64 (i : Nat) ∧ E 7 = .int .i64 (t.length : Nat)) ∧ ST true NoF w W (hp w) ((J, Obj.cells ((encCred c).toArray : Array Value) 53 (0, 0)) :: k) ∧ E 0 = j ∧ E 3 = (.pointer (some ⟨J, 0, none⟩)) ∧ m_slices_Index_Cred_L1 c (t.drop i) i = some r) t.length f.len ⟨_, ⟨rfl, rfl⟩, (hST.sel St), rfl, rfl, hm⟩ (by decide) (by decide) (by decide) (fun _ _ _ h => by obtain ⟨_, eIN, _⟩ := h; exact eIN) ?_ ?_
  · rintro z E W B ⟨k, ⟨eI, eN⟩, hST, u, x, a⟩
    obtain ⟨y, K, H, G, I⟩ := drop_cons B
    rw [H] at a
    rw [m_slices_Index_Cred_L1] at a
    refine CW_block (CW_seq (CW_region (V (R_move eI) (V (R_assign rfl) (LW_nil (sq_n (CW_seq ?_)))))))
    replace hST := hST.drew
    have hS0 := hST.has.sel (Kb Sn)
    refine PX_start1 hS0 Tryz_mixed (XH 0 rfl hS0 (fun _ hS => R_load x (load_boxA hS Mh (encCred c) rfl Tryz.isAgg53 Tryz.sizeOf53)) (X 1 rfl hS0 (R_move u) (X 2 rfl hS0 (R_move rfl) (XQ 3 rfl hS0 (R_indexP (enc := encCred) (i := (z : Int)) (x0 := y) Tryz.underlying22 Tryz.sizeOf53 rfl rfl f (Int.natCast_nonneg _) G) (fun M D => XH 4 rfl hS0 (fun _ hS => R_load rfl (load_atA hS D Tryz.isAgg53 Tryz.sizeOf53)) (X 5 rfl hS0 (R_eql rfl rfl (guard_agg Tryz.eqGuardType53) (bin_eql (eqInCred _ c y))) (PX_done (by kernel_rfl) (sq_n (CW_if (b := (beqCred c y)) rfl (fun g => ?_) (fun g => ?_))))))))))
    · replace a := if_t g a
      refine CW_seq (CW_region (V (R_move rfl) (V (R_assign rfl) (LW_nil (sq_n ?_)))))
      replace hST := hST.sel (Db St)
      refine CW_ret (bq_r (sq_r (bq_r (sq_r ?_))))
      replace a := Option.some.inj a; subst a
      exact retQ_1 (v := (.int .i64 ((z : Int)))) rfl rfl ⟨rfl, hST.ex⟩
    replace a := if_f g a
    exact CW_skip (bq_n (sq_n ⟨eI, _, ⟨rfl, eN⟩, (hST.sel St), u, x, (by rw [I]; exact a)⟩))
  rintro E W ⟨k, ⟨eI, eN⟩, hST, u, x, a⟩
  rw [List.drop_length] at a
  rw [m_slices_Index_Cred_L1] at a
  refine sq_n ?_
  replace hST := hST.sel (Db St)
  refine CW_seq (CW_region (V (R_assign rfl) (LW_nil (sq_n (CW_ret ?_)))))
  replace a := Option.some.inj a; subst a
  exact retQ_1 (v := (.int .i64 ((-1)))) rfl rfl ⟨rfl, hST.ex⟩
theorem w_slices_Contains_Cred (a : Value) (f : List Cred) (c : Cred) (r : Bool) (w : World) (g : Sl (Pl encCred) 9 (hp w) a f) (hm : m_slices_Contains_Cred f c = some r) :
    Gives true Tryz.prog 262 [a, (.agg (encCred c).toArray)] w (.bool r) := by
  have hST := ST.start (dd := true) w
  unfold m_slices_Contains_Cred at hm
  refine calls_of_CW (n := 9) Tryz.func262 rfl rfl (Nat.le_of_ble_eq_true rfl) (CW_seq (CW_region (VE (E_box (v := (.agg (encCred c).toArray)) hST rfl (fun k u hST => V (R_assign rfl) (LW_nil (sq_n (CW_seq (CW_region (V (R_move rfl) (V (R_load rfl (load_boxA hST.has Mh (encCred c) rfl Tryz.isAgg53 Tryz.sizeOf53)) ?_)))))))))))
  obtain ⟨j, i, hm⟩ := bind_some hm
  refine VE (E_gives (args := [a, (.agg (encCred c).toArray)]) hST rfl Tryz.call339 (by exact args2 rfl rfl) ((w_slices_Index_Cred a f c _ _ (g.mono (Pl.mono _) hST.sub_hp) i)) (fun t hST => V (R_int rfl rfl rfl) (V (R_assign rfl) (LW_nil (sq_n ?_)))))
  replace hST := hST.sel (Db St)
  refine CW_ret ?_
  replace hm := Option.some.inj hm; subst hm
  exact retQ_1 (v := (.bool ((decide (j ≥ 0))))) rfl rfl ⟨rfl, hST.ex⟩
theorem w_revoke_without_c1 (c : Cred) (f : Nat) (a : Value) (i : List Cred) (r : Bool) (w : World) (j : Sl (Pl encCred) 9 (hp w) a i) (g : At (hp w) (.pointer (some ⟨f, 0, none⟩)) [a]) (hm : m_revoke_without_c1 c i = some r) :
    Gives true Tryz.prog 261 [(.agg (encCred c).toArray), (.pointer (some ⟨f, 0, none⟩))] w (.bool r) := by
  have hST := ST.start (dd := true) w
  unfold m_revoke_without_c1 at hm
  refine calls_of_CW (n := 7) Tryz.func261 rfl rfl (Nat.le_of_ble_eq_true rfl) (CW_seq (CW_region (VE (E_box (v := (.agg (encCred c).toArray)) hST rfl (fun u z hST => V (R_assign rfl) (LW_nil (sq_n (CW_seq (CW_region (V (R_load rfl (load_at1 hST.has (y := a) g Tryz.isAgg22)) (V (R_load rfl (load_boxA hST.has Mh (encCred c) rfl Tryz.isAgg53 Tryz.sizeOf53)) ?_)))))))))))
  obtain ⟨t, k, hm⟩ := bind_some hm
  refine VE (E_gives (args := [a, (.agg (encCred c).toArray)]) hST rfl Tryz.call262 (by exact args2 rfl rfl) ((w_slices_Contains_Cred a i c _ _ (j.mono (Pl.mono _) hST.sub_hp) k)) (fun x hST => V (R_assign rfl) (LW_nil (sq_n ?_))))
  replace hST := hST.sel (Db St)
  refine CW_ret ?_
  replace hm := Option.some.inj hm; subst hm
  exact retQ_1 (v := (.bool t)) rfl rfl ⟨rfl, hST.ex⟩
theorem w_revoke_without (a : Value) (u : List Cred) (j : Value) (f : List Cred) (r : List Cred) (w : World) (B : Sl (Pl encCred) 9 (hp w) a u) (g : Sl (Pl encCred) 9 (hp w) j f) (hm : m_revoke_without u f = some r) :
    GivesRow false Tryz.prog 145 [a, j] w 53 encCred 9 r := by
  have hST := ST.start (dd := false) w
  unfold m_revoke_without at hm
  refine calls_of_CW (n := 9) Tryz.func145 rfl rfl (Nat.le_of_ble_eq_true rfl) (CW_seq (CW_region ?_))
  obtain ⟨H, K, rfl⟩ := g.form
  refine VE (E_box (v := (.slice H f.length K)) hST rfl (fun W4 k hST => V (R_assign rfl) (LW_nil (sq_n (CW_seq (CW_region (V (R_move rfl) ?_)))))))
  obtain ⟨T, M, hm⟩ := bind_some hm
  refine VE (F_givesRow (args := [a]) _ hST rfl Tryz.call116 (by exact args1 rfl) ((w_cred_Set a u _ _ (B.mono (Pl.mono _) hST.sub_hp) M)) (fun W7 t μ8 I hST D hl10 z => V (R_makeFuncC (by exact args1 rfl) rfl) ?_))
  obtain ⟨Z, G, hm⟩ := bind_some hm
  have hsz := hST.size
  refine VE (E_callM (args := [t, (.func (.func 261) #[] #[(.pointer (some ⟨k, 0, none⟩))])]) (caps := #[]) _ _ hST (Cr Qz Cn) rfl Tryz.call143 (by exact args2 rfl rfl) (fun hH hN hsb hmm => (w_slices_DeleteFunc_Cred t T I (.func (.func 261) #[] #[(.pointer (some ⟨k, 0, none⟩))]) (fun (x : Cred) => m_revoke_without_c1 x f) _ _ ⟨hH, hN, Sub.refl _⟩ z ⟨261, #[], #[(.pointer (some ⟨k, 0, none⟩))], rfl, Tryz.call261, fun W x r hs hm => (w_revoke_without_c1 x k (.slice H f.length K) f r W (g.mono (Pl.mono _) ((D.trans hsb).trans hs)) (At.of (hs _ _ (hmm _ _ Mh)) _ rfl) hm).weak⟩ G)) (fun Y a2 a3 U hST Q hl19 hlift y => ?_))
  obtain ⟨N, J, c, rfl, i⟩ := y
  replace c := c.symm; subst c
  replace hST := hST.perm (Tr Tn)
  refine V (R_assign rfl) (LW_nil (sq_n ?_))
  replace hST := hST.sel (Kr (Db St))
  refine CW_ret ?_
  replace hm := Option.some.inj hm; subst hm
  exact retQ_1 (v := N) rfl rfl ⟨_, J, rfl, hST.backRow (fun p hq => (Ml hq)) i.nd, i⟩
theorem w_cred_Has (a : Value) (f : List Cred) (c : Cred) (r : Bool) (w : World) (g : Sl (Pl encCred) 9 (hp w) a f) (hm : m_cred_Has f c = some r) :
    Gives true Tryz.prog 201 [a, (.agg (encCred c).toArray)] w (.bool r) := by
  have hST := ST.start (dd := true) w
  unfold m_cred_Has at hm
  refine calls_of_CW (n := 8) Tryz.func201 rfl rfl (Nat.le_of_ble_eq_true rfl) (CW_seq (CW_region (VE (E_box (v := (.agg (encCred c).toArray)) hST rfl (fun k u hST => V (R_assign rfl) (LW_nil (sq_n (CW_seq (CW_region (V (R_move rfl) (V (R_load rfl (load_boxA hST.has Mh (encCred c) rfl Tryz.isAgg53 Tryz.sizeOf53)) ?_)))))))))))
  obtain ⟨j, i, hm⟩ := bind_some hm
  refine VE (E_gives (args := [a, (.agg (encCred c).toArray)]) hST rfl Tryz.call262 (by exact args2 rfl rfl) ((w_slices_Contains_Cred a f c _ _ (g.mono (Pl.mono _) hST.sub_hp) i)) (fun t hST => V (R_assign rfl) (LW_nil (sq_n ?_))))
  replace hST := hST.sel (Db St)
  refine CW_ret ?_
  replace hm := Option.some.inj hm; subst hm
  exact retQ_1 (v := (.bool j)) rfl rfl ⟨rfl, hST.ex⟩
theorem w_cred_Roles (a : Cred) (r : List Role) (w : World)  (hm : m_cred_Roles a = some r) :
    GivesRow true Tryz.prog 118 [(.agg (encCred a).toArray)] w 28 encRole 2 r := by
  have hST := ST.start (dd := true) w
  unfold m_cred_Roles at hm
  refine calls_of_CW (n := 27) Tryz.func118 rfl rfl (Nat.le_of_ble_eq_true rfl) (CW_seq (CW_region (VE (E_box (v := (.agg (encCred a).toArray)) hST rfl (fun W2 b1 hST => V (R_assign rfl) (LW_nil (sq_n (CW_seq (CW_seq (CW_region (V (R_load rfl (load_boxA hST.has Mh (encCred a) rfl Tryz.isAgg53 Tryz.sizeOf53)) ?_)))))))))))
  obtain ⟨r3, a9, hm⟩ := bind_some hm
  refine VE (E_gives (args := [(.agg (encCred a).toArray)]) hST rfl Tryz.call137 (by exact args1 rfl) ((w_cred_Right a _ _  a9)) (fun W5 hST => V (R_not rfl) (LW_nil (sq_n (CW_if (b := (!r3)) rfl (fun D => ?_) (fun D => ?_))))))
  · replace hm := if_t D hm
    refine CW_seq (CW_region (V (R_assign rfl) (LW_nil (sq_n ?_))))
    replace hST := hST.sel (Db St)
    refine CW_ret (sq_r ?_)
    replace hm := Option.some.inj hm; subst hm
    exact retQ_1 (v := (.slice none 0 0)) rfl rfl ⟨_, [], rfl, hST.backRow (fun p hq => by cases hq) (by simp), Row.nil _ _ _⟩
  replace hm := if_f D hm
  refine CW_skip (sq_n (CW_seq (CW_region (V (R_field fa53_1 rfl) (V (R_load rfl (load_boxA hST.has Mh (encRole a.Head) rfl Tryz.isAgg28 Tryz.sizeOf28)) (VE (E_buildSlice (qs := #[(0, (.agg (encRole a.Head).toArray))]) (cs := (encRole a.Head).toArray) hST (parts1 rfl) (run_lit [(.agg (encRole a.Head).toArray)] Tryz.underlying34 Tryz.sizeOf28 Tryz.zeroValue28 (by decide) rfl (by intro v hv; simp only [List.mem_cons, List.not_mem_nil, or_false] at hv; rcases hv with rfl <;> rfl) rfl rfl) (fun W8 B hST => V (R_assign rfl) (LW_nil (sq_n (CW_seq ?_)))))))))))
  obtain ⟨c1, f, H⟩ := bind_some hm
  refine CW_cut (fun E W => ∃ (k : Value) (i : List Role) (g : List (Nat × Obj)) (M : List (Nat × Obj)), ST true NoF w W (hp w) ((b1, Obj.cells ((encCred a).toArray : Array Value) 53 (0, 0)) :: (g ++ M)) ∧ E 1 = (.pointer (some ⟨b1, 0, none⟩)) ∧ E 3 = k ∧ Row 28 encRole 2 k i g ∧ (((if (a.Kind == 4) then (((appB 32 i ([a.C]))).bind fun K => some K) else some i) : Option (List Role)).bind fun j => some j) = some r) ?_ ?_
  · refine CW_seq (CW_region (V (R_field fa53_0 rfl) (V (R_load rfl (load_box1 hST.has (Mt Mh) rfl Tryz.isAgg3)) (V (R_int rfl rfl rfl) (LW_nil (sq_n (CW_if (b := (a.Kind != 1)) rfl (fun u => ?_) (fun u => ?_))))))))
    · replace f := if_t u f
      refine CW_region (V (R_move rfl) (V (R_field fa53_3 rfl) (V (R_load rfl (load_boxA hST.has (Mt Mh) (encRole a.B) rfl Tryz.isAgg28 Tryz.sizeOf28)) (VE (E_buildSlice (qs := #[(0, (.agg (encRole a.B).toArray))]) (cs := (encRole a.B).toArray) hST (parts1 rfl) (run_lit [(.agg (encRole a.B).toArray)] Tryz.underlying34 Tryz.sizeOf28 Tryz.zeroValue28 (by decide) rfl (by intro v hv; simp only [List.mem_cons, List.not_mem_nil, or_false] at hv; rcases hv with rfl <;> rfl) rfl rfl) (fun b8 a7 hST => ?_))))))
      replace hST := hST.perm (Nb (Pb Pz) Nz)
      obtain ⟨b0, a1, f⟩ := bind_some f
      refine VE (F_append (enc := encRole) (v := (.slice (some ⟨B, 0, none⟩) 1 1)) (vs := (.slice (some ⟨a7, 0, none⟩) 1 1)) (R := [(B, Obj.cells ((encRole a.Head).toArray : Array Value) 28 (0, 0))]) hST lenRole (by decide) oneRole Tryz.underlying34 info28.1 info28.2.1 rfl info28.2.2.1 info28.2.2.2 rfl rfl (Row.lit (l := [a.Head]) (enc := encRole) rfl (by decide) rfl rfl) (Sl.lit (enc := encRole) (l := [a.B]) lenRole rfl (Nat.le_of_ble_eq_true rfl) rfl (hST.at_ (Mt Mh))) a1 (fun b9 b3 a4 hST Y => V (R_assign rfl) (LW_nil (sq_n ?_))))
      replace f := Option.some.inj f; subst f
      exact ⟨b3, b0, a4, _, (hST.sel (Sb (Pr (Pb Pz)) (Kr (Db St)))), rfl, rfl, Y, H⟩
    replace f := if_f u f
    refine CW_skip (sq_n ?_)
    replace f := Option.some.inj f; subst f
    replace hST : ST true _ _ _ _ ([(B, Obj.cells ((encRole a.Head).toArray : Array Value) 28 (0, 0))] ++ _) := hST
    exact ⟨(.slice (some ⟨B, 0, none⟩) 1 1), ([a.Head]), [(B, Obj.cells ((encRole a.Head).toArray : Array Value) 28 (0, 0))], _, (hST.sel (Sb (Pr Pz) St)), rfl, rfl, (Row.lit (l := [a.Head]) (enc := encRole) rfl (by decide) rfl rfl), H⟩
  rintro E W ⟨k, i, g, M, hST, Q, T, I, a2⟩
  refine CW_seq ?_
  obtain ⟨c0, c, G⟩ := bind_some a2
  refine CW_cut (fun E W => ∃ (z : Value) (j : List Role) (y : List (Nat × Obj)) (N : List (Nat × Obj)), ST true NoF w W (hp w) (y ++ N) ∧ E 3 = z ∧ Row 28 encRole 2 z j y ∧ some j = some r) ?_ ?_
  · refine CW_seq (CW_region (V (R_field fa53_0 Q) (V (R_load rfl (load_box1 hST.has Mh rfl Tryz.isAgg3)) (V (R_int rfl rfl rfl) (LW_nil (sq_n (CW_if (b := (a.Kind == 4)) rfl (fun t => ?_) (fun t => ?_))))))))
    · replace c := if_t t c
      refine CW_region (V (R_move T) (V (R_field fa53_4 Q) (V (R_load rfl (load_boxA hST.has Mh (encRole a.C) rfl Tryz.isAgg28 Tryz.sizeOf28)) (VE (E_buildSlice (qs := #[(0, (.agg (encRole a.C).toArray))]) (cs := (encRole a.C).toArray) hST (parts1 rfl) (run_lit [(.agg (encRole a.C).toArray)] Tryz.underlying34 Tryz.sizeOf28 Tryz.zeroValue28 (by decide) rfl (by intro v hv; simp only [List.mem_cons, List.not_mem_nil, or_false] at hv; rcases hv with rfl <;> rfl) rfl rfl) (fun b5 a6 hST => ?_))))))
      replace hST := hST.perm (Nr (Qb (Qb Qz)) Nz)
      obtain ⟨K, Z, c⟩ := bind_some c
      refine VE (F_append (enc := encRole) (v := k) (vs := (.slice (some ⟨a6, 0, none⟩) 1 1)) (R := g) hST lenRole (by decide) oneRole Tryz.underlying34 info28.1 info28.2.1 rfl info28.2.2.1 info28.2.2.2 rfl rfl I (Sl.lit (enc := encRole) (l := [a.C]) lenRole rfl (Nat.le_of_ble_eq_true rfl) rfl (hST.at_ (Ma Mh))) Z (fun b6 b2 a3 hST U => V (R_assign rfl) (LW_nil (sq_n ?_))))
      replace c := Option.some.inj c; subst c
      exact ⟨b2, K, a3, _, (hST.sel (Kr (Db (Db St)))), rfl, U, G⟩
    replace c := if_f t c
    refine CW_skip (sq_n ?_)
    replace c := Option.some.inj c; subst c
    exact ⟨k, i, g, _, (hST.sel (Db St)), T, I, G⟩
  rintro E W ⟨z, j, y, N, hST, a8, J, x⟩
  refine CW_seq (CW_region (V (R_move a8) (V (R_assign rfl) (LW_nil (sq_n (CW_ret ?_))))))
  replace x := Option.some.inj x; subst x
  exact retQ_1 (v := z) rfl rfl ⟨_, y, rfl, hST.backRow (fun p hq => (Ml hq)) J.nd, J⟩
theorem w_model_Model_note_w (K : Nat) (t : Value) (a9 : List (Role × (List (ByteArray × Bool)))) (G : List (Nat × Obj)) (D : Value) (Z : List Cred) (y : List (Nat × Obj)) (c : Value) (U : List (Role × (List Cred))) (H : List (Nat × Obj)) (f : Value) (J : List (ByteArray × (List Cred))) (j : List (Nat × Obj)) (g : Value) (a3 : List Fact) (u : List (Nat × Obj)) (I : Int) (B : Cred) (r : ((List Cred) × (List (Role × (List Cred))) × (List (ByteArray × (List Cred))))) (w : World) {μ0 : Mem} (h0 : Ent μ0 ((K, Obj.cells (#[t, D, c, f, g, (.int .i64 I)] : Array Value) 294 (0, 0)) :: (G ++ (y ++ (H ++ (j ++ (u ++ [])))))) w) (e7 : DeepE (fun (x : Role) => (.agg (encRole x).toArray)) (MapRow Value.string (fun (x : Bool) => (Value.bool x))) t a9 G) (a5 : Row 53 encCred 9 D Z y) (b2 : DeepE (fun (x : Role) => (.agg (encRole x).toArray)) (Row 53 encCred 9) c U H) (Q : DeepE Value.string (Row 53 encCred 9) f J j) (d9 : Que 38 encFact 3 g a3 u) (hm : m_model_Model_note_w a9 Z U J a3 I B = some r) :
    GivesM true Tryz.prog 324 [(.pointer (some ⟨K, 0, none⟩)), (.agg (encCred B).toArray)] w ((K, Obj.cells (#[t, D, c, f, g, (.int .i64 I)] : Array Value) 294 (0, 0)) :: (G ++ (y ++ (H ++ (j ++ (u ++ [])))))) (fun v L1 W' => ∃ (y1 : Value) (S2 : List (Nat × Obj)) (S4 : List (Nat × Obj)) (S6 : List (Nat × Obj)), v = (.tuple #[]) ∧ L1 = ((K, Obj.cells (#[t, y1, c, f, g, (.int .i64 I)] : Array Value) 294 (0, 0)) :: (G ++ (S2 ++ (S4 ++ (S6 ++ (u ++ [])))))) ∧ Row 53 encCred 9 y1 r.1 S2 ∧ DeepE (fun (x : Role) => (.agg (encRole x).toArray)) (Row 53 encCred 9) c r.2.1 S4 ∧ DeepE Value.string (Row 53 encCred 9) f r.2.2 S6) := by
  have hST := ST.startE (dd := true) h0
  unfold m_model_Model_note_w at hm
  refine calls_of_CW (n := 55) Tryz.func324 rfl rfl (Nat.le_of_ble_eq_true rfl) (CW_seq (CW_region (VE (E_box (v := (.agg (encCred B).toArray)) hST rfl (fun W2 b1 hST => LW_nil (sq_n (CW_seq ?_)))))))
  replace hST := hST.drew
  have hS0 := hST.has.sel (Kb Sn)
  have hS1 := hST.has.sel (Db (Kb Sn))
  refine PX_start2 10 hS0 hS1 Tryz_mixed (PX_v 0 rfl (by kernel_rfl) (.inl rfl) rfl (by decide) (fun _ _ h => ⟨h.1, til (by rfl) h.2⟩) ⟨hS0, fun _ => hS1⟩ (fun _ _ _ _ => R_move rfl) (PX_v 1 rfl (by kernel_rfl) (.inl rfl) rfl (by decide) (fun _ _ h => ⟨h.1, til (by rfl) h.2⟩) ⟨hS0, fun _ => hS1⟩ (fun _ _ _ _ => R_move rfl) (PX_v 2 rfl (by kernel_rfl) (.inl rfl) rfl (by decide) (fun _ _ h => ⟨h.1, til (by rfl) h.2⟩) ⟨hS0, fun _ => hS1⟩ (fun _ _ _ _ => R_nilCheck rfl) (PX_v 3 rfl (by kernel_rfl) (.inl rfl) rfl (by decide) (fun _ _ h => ⟨h.1, til (by rfl) h.2⟩) ⟨hS0, fun _ => hS1⟩ (fun _ _ _ _ => R_field fa294_1 rfl) (PX_v 4 rfl (by kernel_rfl) (.inl rfl) rfl (by decide) (fun _ _ h => ⟨h.1, til (by rfl) h.2⟩) ⟨hS0, fun _ => hS1⟩ (fun l W hpd hs => have hS := (hs.2 (hpd.bar 10 [4] (by kernel_rfl) rfl)); R_load rfl (load_box1 hS Mh rfl Tryz.isAgg22)) (PX_v 5 rfl (by kernel_rfl) (.inl rfl) rfl (by decide) (fun _ _ h => ⟨h.1, til (by rfl) h.2⟩) ⟨hS0, fun _ => hS1⟩ (fun l W hpd hs => have hS := hs.1; R_load rfl (load_boxA hS Mh (encCred B) rfl Tryz.isAgg53 Tryz.sizeOf53)) (XE 6 rfl (E_buildSlice (qs := #[(0, (.agg (encCred B).toArray))]) (cs := (encCred B).toArray) hST (parts1 rfl) (run_lit [(.agg (encCred B).toArray)] Tryz.underlying22 Tryz.sizeOf53 Tryz.zeroValue53 (by decide) rfl (by intro v hv; simp only [List.mem_cons, List.not_mem_nil, or_false] at hv; rcases hv with rfl <;> rfl) rfl rfl) (fun j4 f8 hST => ?_)))))))))
  have hS0 := hST.has.sel (Db (Kb Sn))
  have hS1 := hST.has.sel (Db (Db (Kb Sn)))
  refine ⟨⟨hS0, fun _ => hS1⟩, ?_⟩
  replace hST := hST.perm (Nr (Qb (Qb (Qb (Qr Qz)))) Nz)
  obtain ⟨a4, e8, hm⟩ := bind_some hm
  refine XE 7 rfl (F_append (enc := encCred) (v := D) (vs := (.slice (some ⟨f8, 0, none⟩) 1 1)) (R := y) hST lenCred (by decide) oneCred Tryz.underlying22 info53.1 info53.2.1 rfl info53.2.2.1 info53.2.2.2 rfl rfl a5 (Sl.lit (enc := encCred) (l := [B]) lenCred rfl (Nat.le_of_ble_eq_true rfl) rfl (hST.at_ (Ma Mh))) e8 (fun j5 j8 b7 hST b5 => ?_))
  have hS0 := hST.has.sel (Dr (Db (Kb Sn)))
  have hS1 := hST.has.sel (Dr (Db (Db (Kb Sn))))
  refine ⟨⟨hS0, fun _ => hS1⟩, (PX_v 8 rfl (by kernel_rfl) (.inl rfl) rfl (by decide) (fun _ _ h => ⟨h.1, til (by rfl) h.2⟩) ⟨hS0, fun _ => hS1⟩ (fun _ _ _ _ => R_nilCheck rfl) (PX_v 9 rfl (by kernel_rfl) (.inl rfl) rfl (by decide) (fun _ _ h => ⟨h.1, til (by rfl) h.2⟩) ⟨hS0, fun _ => hS1⟩ (fun _ _ _ _ => R_field fa294_1 rfl) ?_))⟩
  obtain ⟨a8, b0, rfl⟩ := b5.form
  replace hST := hST.perm (Nb (Pr (Pb (Pb Pz))) Nz)
  refine XO 10 rfl (F_store (.slice a8 a4.length b0) (#[t, (.slice a8 a4.length b0), c, f, g, (.int .i64 I)]) hST rfl rfl Tryz.sizeOf22 (by simp [Value.cells, Value.oneCell']) (Nat.le_of_ble_eq_true rfl) rfl (fun j6 hST => ?_))
  have hS0 := hST.has.sel (Db (Dr (Db (Kb Sn))))
  refine ⟨⟨hS0, fun h => ffl (by kernel_rfl) h⟩, (PX_done (by kernel_rfl) (sq_n ?_))⟩
  replace hST := hST.sel (Kb (Kr (Db St)))
  refine CW_seq (CW_seq (CW_region (V (R_load rfl (load_boxA hST.has (Mt (Ma Mh)) (encCred B) rfl Tryz.isAgg53 Tryz.sizeOf53)) ?_)))
  obtain ⟨c0, e9, hm⟩ := bind_some hm
  refine VE (F_givesRow (args := [(.agg (encCred B).toArray)]) _ hST rfl Tryz.call118 (by exact args1 rfl) ((w_cred_Roles B _ _  e9)) (fun j7 j9 k0 j3 hST g2 hl41 e6 => ?_))
  obtain ⟨g1, hST, g3, hl49, f0⟩ := ST.pub1 hST e6 lenRole
  obtain ⟨_, b8, hm⟩ := bind_some hm
  refine VQ (R_sliceFrom (i := 1) Tryz.underlying34 Tryz.sizeOf28 rfl rfl f0 (chk_1 b8) (chk_2 b8)) (fun f9 b6 => V (R_len Tryz.underlying34 rfl b6.1) (V (R_move rfl) (LW_nil (sq_n (CW_range (fun i E W => ∃ (a2 : List (Role × (List Cred))) (T : List (Nat × Obj)) (b3 : List (Nat × Obj)), (E 20 = .int .i64 (i : Nat) ∧ E 19 = .int .i64 (((c0.drop (Int.toNat 1))).length : Nat)) ∧ ST true (keys ((K, Obj.cells (#[t, D, c, f, g, (.int .i64 I)] : Array Value) 294 (0, 0)) :: (G ++ (y ++ (H ++ (j ++ (u ++ []))))))) w W g1 ((K, Obj.cells (#[t, (.slice a8 a4.length b0), c, f, g, (.int .i64 I)] : Array Value) 294 (0, 0)) :: ((b1, Obj.cells ((encCred B).toArray : Array Value) 53 (0, 0)) :: (T ++ (b7 ++ (G ++ (j ++ (u ++ b3))))))) ∧ E 0 = (.pointer (some ⟨K, 0, none⟩)) ∧ E 3 = (.pointer (some ⟨b1, 0, none⟩)) ∧ E 18 = f9 ∧ DeepE (fun (x : Role) => (.agg (encRole x).toArray)) (Row 53 encCred 9) c a2 T ∧ m_model_Model_note_w_L1 B J a4 (((c0.drop (Int.toNat 1))).drop i) a2 = some r) ((c0.drop (Int.toNat 1))).length b6.1.len ⟨U, H, _, ⟨rfl, rfl⟩, (hST.sel (Kb (Sb (Pr Pz) (Sr (Qr (Qr Qz)) St)))), rfl, rfl, rfl, b2, hm⟩ (by decide) (by decide) (by decide) (fun _ _ _ h => by obtain ⟨_, _, _, eIN, _⟩ := h; exact eIN) ?_ ?_)))))
  · rintro f1 E W d1 ⟨a2, T, b3, ⟨eI, eN⟩, hST, a0, M, b4, Y, a⟩
    obtain ⟨N, g9, d6, d5, d7⟩ := drop_cons d1
    rw [d6] at a
    rw [m_model_Model_note_w_L1] at a
    refine CW_block (CW_seq (CW_region (VQ (R_indexP (enc := encRole) (i := (f1 : Int)) (x0 := N) Tryz.underlying34 Tryz.sizeOf28 b4 eI b6.1 (Int.natCast_nonneg _) d5) (fun i8 d2 => V (R_load rfl (load_atA hST.has d2 Tryz.isAgg28 Tryz.sizeOf28)) (VE (E_alloc hST Tryz.zeroValue28 (fun h7 i6 hST => VO (F_store (.agg (encRole N).toArray) ((encRole N).toArray) hST rfl rfl Tryz.sizeOf28 (oneRole N) (Nat.le_of_ble_eq_true rfl) rfl (fun h8 hST => LW_nil (sq_n ?_))))))))))
    replace hST := hST.drew
    have hS0 := hST.has.sel (Kb (Kb (Kb Sn)))
    refine PX_start1 hS0 Tryz_mixed (X 0 rfl hS0 (R_move a0) (X 1 rfl hS0 (R_nilCheck rfl) (X 2 rfl hS0 (R_field fa294_2 rfl) (XH 3 rfl hS0 (fun _ hS => R_load rfl (load_box1 hS (Mt Mh) rfl Tryz.isAgg291)) (XH 4 rfl hS0 (fun _ hS => R_load rfl (load_boxA hS Mh (encRole N) rfl Tryz.isAgg28 Tryz.sizeOf28)) (XH 5 rfl hS0 (fun _ hS => R_load M (load_boxA hS (Mt (Mt Mh)) (encCred B) rfl Tryz.isAgg53 Tryz.sizeOf53)) (XE 6 rfl (E_buildSlice (qs := #[(0, (.agg (encCred B).toArray))]) (cs := (encCred B).toArray) hST (parts1 rfl) (run_lit [(.agg (encCred B).toArray)] Tryz.underlying22 Tryz.sizeOf53 Tryz.zeroValue53 (by decide) rfl (by intro v hv; simp only [List.mem_cons, List.not_mem_nil, or_false] at hv; rcases hv with rfl <;> rfl) rfl rfl) (fun h9 e4 hST => ?_)))))))))
    have hS0 := hST.has.sel (Db (Kb (Kb (Kb Sn))))
    refine ⟨hS0, ?_⟩
    obtain ⟨g6, c9⟩ := Y
    replace hST := hST.perm (Nr (Qb (Qb (Qb (Qb Qz)))) Nz)
    refine XE 7 rfl (F_mapEntry (k := N) (x0 := [])  beqRole_iff kl28 Tryz.underlying291 Tryz.zeroValue22 (Row.nil _ _ _) hST c9 rfl rfl (fun i0 f3 g8 h2 e0 hST c2 c1 => ?_))
    have hS0 := hST.has.sel (Dr (Dr (Db (Kb (Kb (Kb Sn))))))
    refine ⟨hS0, (X 8 rfl hS0 (R_extract rfl rfl) (X 10 rfl hS0 (R_extract rfl rfl) ?_))⟩
    replace hST := hST.perm (Nr (Qr Qz) Nz)
    obtain ⟨b9, c7, a⟩ := bind_some a
    refine XE 9 rfl (F_append (enc := encCred) (v := f3) (vs := (.slice (some ⟨e4, 0, none⟩) 1 1)) (R := e0) hST lenCred (by decide) oneCred Tryz.underlying22 info53.1 info53.2.1 rfl info53.2.2.1 info53.2.2.2 rfl rfl c2 (Sl.lit (enc := encCred) (l := [B]) lenCred rfl (Nat.le_of_ble_eq_true rfl) rfl (hST.at_ (Ma (Ma Mh)))) c7 (fun i1 i9 h3 hST c3 => ?_))
    have hS0 := hST.has.sel (Dr (Dr (Db (Kb (Kb (Kb Sn))))))
    refine ⟨hS0, ?_⟩
    replace hST := hST.perm (Nr (Qr Qz) Nz)
    refine XO 11 rfl (F_entryStore (e := 0) (z := b9)  beqRole_iff kl28 hST c1 rfl rfl rfl c3 (fun i2 g7 e1 hST c4 => ?_))
    have hS0 := hST.has.sel (Dr (Db (Kb (Kb (Kb Sn)))))
    refine ⟨hS0, (PX_done (by kernel_rfl) (bq_n (sq_n ?_)))⟩
    replace hST := hST.sel (Kr (Db (Db St)))
    exact ⟨eI, ((mput beqRole a2 N b9)), e1, _, ⟨rfl, eN⟩, (hST.sel (Sb (Pr Pz) (Sb (Pr Pz) St))), a0, M, b4, c4.e, (by rw [d7]; exact a)⟩
  rintro E W ⟨a2, T, b3, ⟨eI, eN⟩, hST, a0, M, b4, Y, a⟩
  rw [List.drop_length] at a
  rw [m_model_Model_note_w_L1] at a
  refine sq_n (CW_seq (CW_region (V (R_field fa53_0 M) (V (R_load rfl (load_box1 hST.has (Mt Mh) rfl Tryz.isAgg3)) (V (R_int rfl rfl rfl) (LW_nil (sq_n (CW_if (b := (B.Kind == 3)) rfl (fun a6 => ?_) (fun a6 => ?_)))))))))
  · replace a := if_t a6 a
    replace hST := hST.drew
    have hS0 := hST.has.sel (Kb (Kb Sn))
    have hS1 := hST.has.sel (Db (Db (Dr (Dr (Dr (Kr Sn))))))
    refine PX_start2 15 hS0 hS1 Tryz_mixed (PX_v 0 rfl (by kernel_rfl) (.inl rfl) rfl (by decide) (fun _ _ h => ⟨h.1, til (by rfl) h.2⟩) ⟨hS0, fun _ => hS1⟩ (fun _ _ _ _ => R_move a0) (PX_v 1 rfl (by kernel_rfl) (.inl rfl) rfl (by decide) (fun _ _ h => ⟨h.1, til (by rfl) h.2⟩) ⟨hS0, fun _ => hS1⟩ (fun _ _ _ _ => R_nilCheck rfl) (PX_v 2 rfl (by kernel_rfl) (.inl rfl) rfl (by decide) (fun _ _ h => ⟨h.1, til (by rfl) h.2⟩) ⟨hS0, fun _ => hS1⟩ (fun _ _ _ _ => R_field fa294_3 rfl) (PX_v 3 rfl (by kernel_rfl) (.inl rfl) rfl (by decide) (fun _ _ h => ⟨h.1, til (by rfl) h.2⟩) ⟨hS0, fun _ => hS1⟩ (fun l W hpd hs => have hS := hs.1; R_load rfl (load_box1 hS Mh rfl Tryz.isAgg292)) (PX_v 4 rfl (by kernel_rfl) (.inl rfl) rfl (by decide) (fun _ _ h => ⟨h.1, til (by rfl) h.2⟩) ⟨hS0, fun _ => hS1⟩ (fun _ _ _ _ => R_field fa53_5 M) (PX_v 5 rfl (by kernel_rfl) (.inl rfl) rfl (by decide) (fun _ _ h => ⟨h.1, til (by rfl) h.2⟩) ⟨hS0, fun _ => hS1⟩ (fun l W hpd hs => have hS := hs.1; R_load rfl (load_box1 hS (Mt Mh) rfl Tryz.isAgg9)) (PX_v 6 rfl (by kernel_rfl) (.inl rfl) rfl (by decide) (fun _ _ h => ⟨h.1, til (by rfl) h.2⟩) ⟨hS0, fun _ => hS1⟩ (fun _ _ _ _ => R_move a0) (PX_v 7 rfl (by kernel_rfl) (.inl rfl) rfl (by decide) (fun _ _ h => ⟨h.1, til (by rfl) h.2⟩) ⟨hS0, fun _ => hS1⟩ (fun _ _ _ _ => R_nilCheck rfl) (PX_v 8 rfl (by kernel_rfl) (.inl rfl) rfl (by decide) (fun _ _ h => ⟨h.1, til (by rfl) h.2⟩) ⟨hS0, fun _ => hS1⟩ (fun _ _ _ _ => R_field fa294_3 rfl) (PX_v 9 rfl (by kernel_rfl) (.inl rfl) rfl (by decide) (fun _ _ h => ⟨h.1, til (by rfl) h.2⟩) ⟨hS0, fun _ => hS1⟩ (fun l W hpd hs => have hS := hs.1; R_load rfl (load_box1 hS Mh rfl Tryz.isAgg292)) (PX_v 10 rfl (by kernel_rfl) (.inl rfl) rfl (by decide) (fun _ _ h => ⟨h.1, til (by rfl) h.2⟩) ⟨hS0, fun _ => hS1⟩ (fun _ _ _ _ => R_field fa53_5 M) (PX_v 11 rfl (by kernel_rfl) (.inl rfl) rfl (by decide) (fun _ _ h => ⟨h.1, til (by rfl) h.2⟩) ⟨hS0, fun _ => hS1⟩ (fun l W hpd hs => have hS := hs.1; R_load rfl (load_box1 hS (Mt Mh) rfl Tryz.isAgg9)) ?_))))))))))))
    obtain ⟨d8, a7⟩ := Q
    obtain ⟨h4, g4, g5⟩ := DeepV.rowAt beqS_iff.1 a7 B.Word2
    refine PX_v 12 rfl (by kernel_rfl) (.inl rfl) rfl (by decide) (fun _ _ h => ⟨h.1, til (by rfl) h.2⟩) ⟨hS0, fun _ => hS1⟩ (fun l W hpd hs => have hS := (hs.2 (hpd.bar 15 [12] (by kernel_rfl) rfl)); R_lookupDeep (k := B.Word2) (z := (.slice none 0 0)) kl9 Tryz.underlying292 Tryz.zeroValue22 rfl rfl a7 (fun b o hq => hS.2 b o (Ml hq))) (PX_v 13 rfl (by kernel_rfl) (.inl rfl) rfl (by decide) (fun _ _ h => ⟨h.1, til (by rfl) h.2⟩) ⟨hS0, fun _ => hS1⟩ (fun l W hpd hs => have hS := hs.1; R_load M (load_boxA hS (Mt Mh) (encCred B) rfl Tryz.isAgg53 Tryz.sizeOf53)) (XE 14 rfl (E_buildSlice (qs := #[(0, (.agg (encCred B).toArray))]) (cs := (encCred B).toArray) hST (parts1 rfl) (run_lit [(.agg (encCred B).toArray)] Tryz.underlying22 Tryz.sizeOf53 Tryz.zeroValue53 (by decide) rfl (by intro v hv; simp only [List.mem_cons, List.not_mem_nil, or_false] at hv; rcases hv with rfl <;> rfl) rfl rfl) (fun i3 e5 hST => ?_))))
    have hS0 := hST.has.sel (Db (Kb (Kb Sn)))
    have hS1 := hST.has.sel (Db (Db (Db (Dr (Dr (Dr (Kr Sn)))))))
    refine ⟨⟨hS0, fun _ => hS1⟩, ?_⟩
    replace hST := hST.perm (Nr (Qb (Qb (Qb (Qr (Qr (Qr Qz)))))) Nz)
    obtain ⟨h5, e2, d3, d4, d0⟩ := DeepV.open beqS_iff.1 (Row.nil _ _ _) a7 B.Word2
    replace hST := hST.perm (Opn d3)
    replace hST := hST.perm (Nr (Qr Qz) Nz)
    obtain ⟨f2, c8, a⟩ := bind_some a
    refine XE 15 rfl (F_append (enc := encCred) (v := (valAt beqS d8 B.Word2 (.slice none 0 0))) (vs := (.slice (some ⟨e5, 0, none⟩) 1 1)) (R := e2) hST lenCred (by decide) oneCred Tryz.underlying22 info53.1 info53.2.1 rfl info53.2.2.1 info53.2.2.2 rfl rfl d4 (Sl.lit (enc := encCred) (l := [B]) lenCred rfl (Nat.le_of_ble_eq_true rfl) rfl (hST.at_ (Ma (Ma Mh)))) c8 (fun i4 j0 h6 hST c5 => ?_))
    have hS0 := hST.has.sel (Dr (Dr (Db (Kb (Kb Sn)))))
    refine ⟨⟨hS0, fun h => ffl (by kernel_rfl) h⟩, ?_⟩
    replace hST := hST.perm (Nr (Qr Qz) Nz)
    refine XO 16 rfl (F_fill (k := B.Word2) (z := f2)  kl9 Tryz.underlying292 hST d0 rfl rfl rfl c5 (fun i5 e3 hST c6 => ?_))
    have hS0 := hST.has.sel (Dr (Db (Kb (Kb Sn))))
    refine ⟨⟨hS0, fun h => ffl (by kernel_rfl) h⟩, (PX_done (by kernel_rfl) (retQ_n ?_))⟩
    replace a := Option.some.inj a; subst a
    exact retQ_0 rfl ⟨_, _, rfl, (hST.bkM (Sb (Pr (Pb Pz)) (Sr (Qr (Qb (Qb (Qr (Qr Qz))))) (Sr (Qr (Qb (Qb (Qr Qz)))) (Sr (Qr (Qb (Qb Qz))) (Kr (Db (Db (Kr Sn))))))))), (.slice a8 a4.length b0), b7, T, e3, rfl, rfl, b5, Y, c6.e⟩
  replace a := if_f a6 a
  refine CW_skip (retQ_n ?_)
  replace a := Option.some.inj a; subst a
  exact retQ_0 rfl ⟨_, _, rfl, (hST.bkM (Kb (Db (Sr (Qr (Qr Qz)) (Sr (Qr Qz) (Kr (Kr (Kr Sn)))))))), (.slice a8 a4.length b0), b7, T, j, rfl, rfl, b5, Y, Q⟩
theorem w_model_Model_tell_w (J : Nat) (f : Value) (I : List (Role × (List (ByteArray × Bool)))) (D : List (Nat × Obj)) (a : Value) (T : List Cred) (t : List (Nat × Obj)) (i : Value) (Z : List (Role × (List Cred))) (B : List (Nat × Obj)) (c : Value) (U : List (ByteArray × (List Cred))) (u : List (Nat × Obj)) (g : Value) (M : List Fact) (j : List (Nat × Obj)) (H : Int) (G : Role) (N : ByteArray) (r : ((List (Role × (List (ByteArray × Bool)))) × (List Fact) × Int)) (w : World) {μ0 : Mem} (h0 : Ent μ0 ((J, Obj.cells (#[f, a, i, c, g, (.int .i64 H)] : Array Value) 294 (0, 0)) :: (D ++ (t ++ (B ++ (u ++ (j ++ [])))))) w) (a6 : DeepE (fun (x : Role) => (.agg (encRole x).toArray)) (MapRow Value.string (fun (x : Bool) => (Value.bool x))) f I D) (b7 : Row 53 encCred 9 a T t) (c3 : DeepE (fun (x : Role) => (.agg (encRole x).toArray)) (Row 53 encCred 9) i Z B) (b8 : DeepE Value.string (Row 53 encCred 9) c U u) (Q : Que 38 encFact 3 g M j) (hm : m_model_Model_tell_w I T Z U M H G N = some r) :
    GivesM true Tryz.prog 370 [(.pointer (some ⟨J, 0, none⟩)), (.agg (encRole G).toArray), (.string N)] w ((J, Obj.cells (#[f, a, i, c, g, (.int .i64 H)] : Array Value) 294 (0, 0)) :: (D ++ (t ++ (B ++ (u ++ (j ++ [])))))) (fun v L1 W' => ∃ (S1 : List (Nat × Obj)) (y3 : Value) (S4 : List (Nat × Obj)), v = (.tuple #[]) ∧ L1 = ((J, Obj.cells (#[f, a, i, c, y3, (.int .i64 (r.2.2))] : Array Value) 294 (0, 0)) :: (S1 ++ (t ++ (B ++ (u ++ (S4 ++ [])))))) ∧ DeepE (fun (x : Role) => (.agg (encRole x).toArray)) (MapRow Value.string (fun (x : Bool) => (Value.bool x))) f r.1 S1 ∧ Que 38 encFact 3 y3 r.2.1 S4) := by
  have hST := ST.startE (dd := true) h0
  unfold m_model_Model_tell_w at hm
  refine calls_of_CW (n := 53) Tryz.func370 rfl rfl (Nat.le_of_ble_eq_true rfl) (CW_seq (CW_region (VE (E_box (v := (.agg (encRole G).toArray)) hST rfl (fun W2 b1 hST => LW_nil (sq_n (CW_seq (CW_seq ?_))))))))
  replace hST := hST.drew
  have hS0 := hST.has.sel (Kb (Kb (Kr Sn)))
  refine PX_start1 hS0 Tryz_mixed (X 0 rfl hS0 (R_move rfl) (X 1 rfl hS0 (R_nilCheck rfl) (X 2 rfl hS0 (R_field fa294_0 rfl) (XH 3 rfl hS0 (fun _ hS => R_load rfl (load_box1 hS (Mt Mh) rfl Tryz.isAgg290)) (XH 4 rfl hS0 (fun _ hS => R_load rfl (load_boxA hS Mh (encRole G) rfl Tryz.isAgg28 Tryz.sizeOf28)) ?_)))))
  obtain ⟨f3, Y⟩ := a6
  refine XH 5 rfl hS0 (fun _ hS => R_lookupDeep (k := G) (z := (.map none)) kl28 Tryz.underlying290 Tryz.zeroValue296 rfl rfl Y (fun b o hq => hS.2 b o (Mt (Mt (Ml hq))))) (X 6 rfl hS0 (R_move rfl) (XH 7 rfl hS0 (fun _ hS => R_lookupD (k := N) (z := false) (vf := (fun (x : Bool) => (Value.bool x))) kl9 Tryz.underlying296 Tryz.zeroValue4 rfl rfl (DeepV.mapAt (μ := hp _) beqRole_iff.1 Y G (fun b o hq => hS.2 b o (Mt (Mt (Ml hq)))))) (PX_done (by kernel_rfl) (sq_n (CW_if (b := (mgetD beqS (((mget beqRole I G).getD [])) N false)) rfl (fun b2 => ?_) (fun b2 => ?_))))))
  · replace hm := if_t b2 hm
    refine CW_ret (sq_r ?_)
    replace hm := Option.some.inj hm; subst hm
    exact retQ_0 rfl ⟨_, _, rfl, (hST.bkM (Db (Kb (Kr (Kr (Kr (Kr (Kr Sn)))))))), D, g, j, rfl, rfl, Y.e, Q⟩
  replace hm := if_f b2 hm
  refine CW_skip (sq_n (CW_seq ?_))
  obtain ⟨e6, y, a9⟩ := bind_some hm
  refine CW_cut (fun E W => ∃ (b4 : List (Role × (List (ByteArray × Bool)))) (b0 : List (Nat × Obj)) (c0 : List (Nat × Obj)), ST true (keys ((J, Obj.cells (#[f, a, i, c, g, (.int .i64 H)] : Array Value) 294 (0, 0)) :: (D ++ (t ++ (B ++ (u ++ (j ++ []))))))) w W μ0 ((b1, Obj.cells ((encRole G).toArray : Array Value) 28 (0, 0)) :: ((J, Obj.cells (#[f, a, i, c, g, (.int .i64 H)] : Array Value) 294 (0, 0)) :: (b0 ++ (t ++ (B ++ (u ++ (j ++ c0))))))) ∧ E 0 = (.pointer (some ⟨J, 0, none⟩)) ∧ E 2 = (.string N) ∧ E 4 = (.pointer (some ⟨b1, 0, none⟩)) ∧ DeepE (fun (x : Role) => (.agg (encRole x).toArray)) (MapRow Value.string (fun (x : Bool) => (Value.bool x))) f b4 b0 ∧ (((mupd beqRole beqS b4 G N true)).bind fun c4 => (((appB 48 M ([(⟨G, N⟩ : Fact)]))).bind fun a3 => some (c4, a3, (IntKind.i64.wrap (H + 1))))) = some r) ?_ ?_
  · refine CW_seq ?_
    replace hST := hST.drew
    have hS0 := hST.has.sel (Kb (Kb (Kr Sn)))
    refine PX_start1 hS0 Tryz_mixed (X 0 rfl hS0 (R_move rfl) (X 1 rfl hS0 (R_nilCheck rfl) (X 2 rfl hS0 (R_field fa294_0 rfl) (XH 3 rfl hS0 (fun _ hS => R_load rfl (load_box1 hS (Mt Mh) rfl Tryz.isAgg290)) (XH 4 rfl hS0 (fun _ hS => R_load rfl (load_boxA hS Mh (encRole G) rfl Tryz.isAgg28 Tryz.sizeOf28)) (XH 5 rfl hS0 (fun _ hS => R_lookupDeep (k := G) (z := (.map none)) kl28 Tryz.underlying290 Tryz.zeroValue296 rfl rfl Y (fun b o hq => hS.2 b o (Mt (Mt (Ml hq))))) (X 6 rfl hS0 (R_mapEqNilD beqRole_iff.1 Tryz.underlying296 Y rfl rfl) (PX_done (by kernel_rfl) (sq_n (CW_if (b := (mget beqRole I G).isNone) rfl (fun a0 => ?_) (fun a0 => ?_)))))))))))
    · replace y := if_t a0 y
      replace hST := hST.drew
      have hS0 := hST.has.sel (Kb (Kb Sn))
      refine PX_start1 hS0 Tryz_mixed (X 0 rfl hS0 (R_move rfl) (X 1 rfl hS0 (R_nilCheck rfl) (X 2 rfl hS0 (R_field fa294_0 rfl) (XH 3 rfl hS0 (fun _ hS => R_load rfl (load_box1 hS (Mt Mh) rfl Tryz.isAgg290)) (XH 4 rfl hS0 (fun _ hS => R_load rfl (load_boxA hS Mh (encRole G) rfl Tryz.isAgg28 Tryz.sizeOf28)) (XE 5 rfl (E_makeMap (P := Tryz.prog) Value.string (fun (x : Bool) => (Value.bool x)) hST (fun e2 e8 e0 hST b5 => ?_))))))))
      have hS0 := hST.has.sel (Dr (Kb (Kb Sn)))
      refine ⟨hS0, ?_⟩
      replace hST := hST.perm (Nr (Qr (Qb (Qb Qz))) Nz)
      obtain ⟨d0, b9, y⟩ := bind_some y
      refine XO 6 rfl (F_newDeep (k := G) (z := ([]))  kl28 Tryz.underlying290 hST Y rfl rfl rfl b5 b9 (fun e3 c5 hST b6 => ?_))
      have hS0 := hST.has.sel (Dr (Kb (Kb Sn)))
      refine ⟨hS0, (PX_done (by kernel_rfl) (sq_n ?_))⟩
      replace y := Option.some.inj y; subst y
      exact ⟨d0, c5, _, (hST.sel (Sb (Pr Pz) (Sb (Pr Pz) St))), rfl, rfl, rfl, b6.e, a9⟩
    replace y := if_f a0 y
    refine CW_skip (sq_n ?_)
    replace y := Option.some.inj y; subst y
    exact ⟨I, D, _, (hST.sel St), rfl, rfl, rfl, Y.e, a9⟩
  rintro E W ⟨b4, b0, c0, hST, a7, c1, c2, c9, K⟩
  refine CW_seq ?_
  replace hST := hST.drew
  have hS0 := hST.has.sel (Kb (Kb Sn))
  have hS1 := hST.has.sel (Db (Db (Kr Sn)))
  refine PX_start2 7 hS0 hS1 Tryz_mixed (PX_v 0 rfl (by kernel_rfl) (.inl rfl) rfl (by decide) (fun _ _ h => ⟨h.1, til (by rfl) h.2⟩) ⟨hS0, fun _ => hS1⟩ (fun _ _ _ _ => R_move a7) (PX_v 1 rfl (by kernel_rfl) (.inl rfl) rfl (by decide) (fun _ _ h => ⟨h.1, til (by rfl) h.2⟩) ⟨hS0, fun _ => hS1⟩ (fun _ _ _ _ => R_nilCheck rfl) (PX_v 2 rfl (by kernel_rfl) (.inl rfl) rfl (by decide) (fun _ _ h => ⟨h.1, til (by rfl) h.2⟩) ⟨hS0, fun _ => hS1⟩ (fun _ _ _ _ => R_field fa294_0 rfl) (PX_v 3 rfl (by kernel_rfl) (.inl rfl) rfl (by decide) (fun _ _ h => ⟨h.1, til (by rfl) h.2⟩) ⟨hS0, fun _ => hS1⟩ (fun l W hpd hs => have hS := hs.1; R_load rfl (load_box1 hS (Mt Mh) rfl Tryz.isAgg290)) (PX_v 4 rfl (by kernel_rfl) (.inl rfl) rfl (by decide) (fun _ _ h => ⟨h.1, til (by rfl) h.2⟩) ⟨hS0, fun _ => hS1⟩ (fun l W hpd hs => have hS := hs.1; R_load c2 (load_boxA hS Mh (encRole G) rfl Tryz.isAgg28 Tryz.sizeOf28)) ?_)))))
  obtain ⟨e5, b3⟩ := c9
  refine PX_v 5 rfl (by kernel_rfl) (.inl rfl) rfl (by decide) (fun _ _ h => ⟨h.1, til (by rfl) h.2⟩) ⟨hS0, fun _ => hS1⟩ (fun l W hpd hs => have hS := (hs.2 (hpd.bar 7 [5] (by kernel_rfl) rfl)); R_lookupDeep (k := G) (z := (.map none)) kl28 Tryz.underlying290 Tryz.zeroValue296 rfl rfl b3 (fun b o hq => hS.2 b o (Ml hq))) (PX_v 6 rfl (by kernel_rfl) (.inl rfl) rfl (by decide) (fun _ _ h => ⟨h.1, til (by rfl) h.2⟩) ⟨hS0, fun _ => hS1⟩ (fun _ _ _ _ => R_move c1) ?_)
  replace hST := hST.perm (Nr (Qb (Qb Qz)) Nz)
  obtain ⟨c4, c8, K⟩ := bind_some K
  refine XO 7 rfl (F_updDeep (k := G) (v := true) (vf := (fun (x : Bool) => (Value.bool x)))  beqRole_iff.1 kl9 Tryz.underlying296 hST b3 rfl rfl rfl c8 (fun e9 d1 hST c6 => ?_))
  have hS0 := hST.has.sel (Dr (Kb (Kb Sn)))
  refine ⟨⟨hS0, fun h => ffl (by kernel_rfl) h⟩, (PX_done (by kernel_rfl) (sq_n (CW_seq (CW_region (V (R_move a7) (V (R_nilCheck rfl) (V (R_field fa294_5 rfl) (V (R_load rfl (load_box1 hST.has (Ma (Mt Mh)) rfl Tryz.isAgg3)) (V (R_int rfl rfl rfl) (V (R_nilCheck rfl) (V (R_field fa294_5 rfl) ?_)))))))))))⟩
  replace hST := hST.perm (Nb (Pr (Pb Pz)) Nz)
  refine VO (F_store (.int .i64 ((IntKind.i64.wrap (H + 1)))) (#[f, a, i, c, g, (.int .i64 ((IntKind.i64.wrap (H + 1))))]) hST rfl rfl Tryz.sizeOf3 (oneI _ ((IntKind.i64.wrap (H + 1)))) (Nat.le_of_ble_eq_true rfl) rfl (fun f0 hST => LW_nil (sq_n ?_)))
  replace hST := hST.drew
  have hS0 := hST.has.sel (Db (Dr (Kb Sn)))
  have hS1 := hST.has.sel (Kb Sn)
  refine PX_start2 12 hS0 hS1 Tryz_mixed (PX_v 0 rfl (by kernel_rfl) (.inl rfl) rfl (by decide) (fun _ _ h => ⟨h.1, til (by rfl) h.2⟩) ⟨hS0, fun _ => hS1⟩ (fun _ _ _ _ => R_move a7) (PX_v 1 rfl (by kernel_rfl) (.inl rfl) rfl (by decide) (fun _ _ h => ⟨h.1, til (by rfl) h.2⟩) ⟨hS0, fun _ => hS1⟩ (fun _ _ _ _ => R_move a7) (PX_v 2 rfl (by kernel_rfl) (.inl rfl) rfl (by decide) (fun _ _ h => ⟨h.1, til (by rfl) h.2⟩) ⟨hS0, fun _ => hS1⟩ (fun _ _ _ _ => R_nilCheck rfl) (PX_v 3 rfl (by kernel_rfl) (.inl rfl) rfl (by decide) (fun _ _ h => ⟨h.1, til (by rfl) h.2⟩) ⟨hS0, fun _ => hS1⟩ (fun _ _ _ _ => R_field fa294_4 rfl) (PX_v 4 rfl (by kernel_rfl) (.inl rfl) rfl (by decide) (fun _ _ h => ⟨h.1, til (by rfl) h.2⟩) ⟨hS0, fun _ => hS1⟩ (fun l W hpd hs => have hS := (hs.2 (hpd.bar 12 [4] (by kernel_rfl) rfl)); R_load rfl (load_box1 hS Mh rfl Tryz.isAgg68)) (PX_v 5 rfl (by kernel_rfl) (.inl rfl) rfl (by decide) (fun _ _ h => ⟨h.1, til (by rfl) h.2⟩) ⟨hS0, fun _ => hS1⟩ (fun l W hpd hs => have hS := hs.1; R_load c2 (load_boxA hS Mh (encRole G) rfl Tryz.isAgg28 Tryz.sizeOf28)) (PX_v 6 rfl (by kernel_rfl) (.inl rfl) rfl (by decide) (fun _ _ h => ⟨h.1, til (by rfl) h.2⟩) ⟨hS0, fun _ => hS1⟩ (fun _ _ _ _ => R_move c1) (PX_v 7 rfl (by kernel_rfl) (.inl rfl) rfl (by decide) (fun _ _ h => ⟨h.1, til (by rfl) h.2⟩) ⟨hS0, fun _ => hS1⟩ (fun _ _ _ _ => R_build (qs := #[(0, (.agg (encRole G).toArray)), (1, (.string N))]) (v := (.agg (encFact ((⟨G, N⟩ : Fact))).toArray)) (parts2 rfl rfl) (run_build Tryz.zeroValue38 Tryz.underlying38 (pl38 _ Tryz.underlying38) (by kernel_rfl))) (XE 8 rfl (E_buildSlice (qs := #[(0, (.agg (encFact ((⟨G, N⟩ : Fact))).toArray))]) (cs := (encFact ((⟨G, N⟩ : Fact))).toArray) hST (parts1 rfl) (run_lit [(.agg (encFact ((⟨G, N⟩ : Fact))).toArray)] Tryz.underlying68 Tryz.sizeOf38 Tryz.zeroValue38 (by decide) rfl (by intro v hv; simp only [List.mem_cons, List.not_mem_nil, or_false] at hv; rcases hv with rfl <;> rfl) rfl rfl) (fun f1 d6 hST => ?_)))))))))))
  have hS0 := hST.has.sel (Db (Db (Dr (Kb Sn))))
  have hS1 := hST.has.sel (Db (Kb Sn))
  refine ⟨⟨hS0, fun _ => hS1⟩, ?_⟩
  replace hST := hST.perm (Nr (Qb (Qb (Qr (Qb (Qr (Qr (Qr Qz))))))) Nz)
  obtain ⟨a3, c7, K⟩ := bind_some K
  refine XE 9 rfl (F_appendQue (enc := encFact) (v := g) (vs := (.slice (some ⟨d6, 0, none⟩) 1 1)) (R := j) hST lenFact (by decide) oneFact Tryz.underlying68 info38.1 info38.2.1 rfl info38.2.2.1 info38.2.2.2 rfl rfl Q (Sl.lit (enc := encFact) (l := [(⟨G, N⟩ : Fact)]) lenFact rfl (Nat.le_of_ble_eq_true rfl) rfl (hST.at_ (Ma Mh))) c7 (fun f2 e7 d2 hST a8 => ?_))
  have hS0 := hST.has.sel (Dr (Db (Db (Dr (Kb Sn)))))
  have hS1 := hST.has.sel (Dr (Db (Kb Sn)))
  refine ⟨⟨hS0, fun _ => hS1⟩, (PX_v 10 rfl (by kernel_rfl) (.inl rfl) rfl (by decide) (fun _ _ h => ⟨h.1, til (by rfl) h.2⟩) ⟨hS0, fun _ => hS1⟩ (fun _ _ _ _ => R_nilCheck rfl) (PX_v 11 rfl (by kernel_rfl) (.inl rfl) rfl (by decide) (fun _ _ h => ⟨h.1, til (by rfl) h.2⟩) ⟨hS0, fun _ => hS1⟩ (fun _ _ _ _ => R_field fa294_4 rfl) ?_))⟩
  obtain ⟨a4, a5, rfl⟩ := a8.form
  replace hST := hST.perm (Nb (Pr (Pb Pz)) Nz)
  refine XO 12 rfl (F_store (.slice a4 a3.length a5) (#[f, a, i, c, (.slice a4 a3.length a5), (.int .i64 ((IntKind.i64.wrap (H + 1))))]) hST rfl rfl Tryz.sizeOf68 (by simp [Value.cells, Value.oneCell']) (Nat.le_of_ble_eq_true rfl) rfl (fun e1 hST => ?_))
  have hS0 := hST.has.sel (Db (Dr (Db (Dr (Kb Sn)))))
  refine ⟨⟨hS0, fun h => ffl (by kernel_rfl) h⟩, (PX_done (by kernel_rfl) (retQ_n ?_))⟩
  replace K := Option.some.inj K; subst K
  exact retQ_0 rfl ⟨_, _, rfl, (hST.bkM (Kb (Sr (Qr (Qb Qz)) (Sr (Qr (Qb (Qb Qz))) (Sr (Qr (Qb (Qb Qz))) (Sr (Qr (Qb (Qb Qz))) (Kr Sn))))))), d1, (.slice a4 a3.length a5), d2, rfl, rfl, c6.e, a8⟩
theorem w_maps_Keys_map_stringbool_string_bool_ (a : Value) (f : List (ByteArray × Bool)) (r : Unit) (w : World) (c : MapAt Value.string (fun (x : Bool) => (Value.bool x)) (hp w) a f) (hm : m_maps_Keys_map_stringbool_string_bool_ f = some r) :
    GivesM true Tryz.prog 234 [a] w [] (fun v j W' => ∃ (g : Nat), v = (.func (.func 327) #[] #[(.pointer (some ⟨g, 0, none⟩))]) ∧ j = ((g, Obj.cells (#[a] : Array Value) 296 (0, 0)) :: [])) := by
  have hST := ST.start (dd := true) w
  unfold m_maps_Keys_map_stringbool_string_bool_ at hm
  refine calls_of_CW (n := 4) Tryz.func234 rfl rfl (Nat.le_of_ble_eq_true rfl) (CW_seq (CW_region ?_))
  obtain ⟨k, rfl⟩ := c.form
  refine VE (E_box (v := (.map k)) hST rfl (fun t i hST => V (R_assign rfl) (LW_nil (sq_n (CW_seq (CW_region (V (R_makeFuncC (by exact args1 rfl) rfl) (V (R_assign rfl) (LW_nil (sq_n (CW_ret ?_)))))))))))
  replace hm := Option.some.inj hm; subst hm
  exact retQ_1 (v := (.func (.func 327) #[] #[(.pointer (some ⟨i, 0, none⟩))])) rfl rfl ⟨_, _, rfl, (hST.bkL (Kb Sn)), i, rfl, rfl⟩
theorem keysS_gives327 {β : Type} {vf : β → Value} {l : List (ByteArray × β)} {b : Nat} {mv : Value} {W : World} {r : List ByteArray} (hb : W.heap[b]? = some (.cells #[mv] 296 (0, 0))) (hm : MapAt Value.string vf (hp W) mv l) (hk : keysS l = some r) : GivesRow false Tryz.prog 159 [.func (.func 327) #[] #[.pointer (some ⟨b, 0, none⟩)]] W 9 encSk 1 r := keysS_gives (P := Tryz.prog) layK327 layT159 lay273 rfl Tryz.underlying9 Tryz.call327 Tryz.call273 hb hm hk
theorem w_model_Model_Members (Q : Nat) (a : Value) (t : List (Role × (List (ByteArray × Bool)))) (c : Value) (j : List Cred) (i : Value) (G : List (Role × (List Cred))) (f : Value) (u : List (ByteArray × (List Cred))) (g : Value) (D : List Fact) (N : Int) (B : Role) (r : List ByteArray) (w : World) (I : DeepAt (fun (x : Role) => (.agg (encRole x).toArray)) (MapRow Value.string (fun (x : Bool) => (Value.bool x))) (hp w) a t) (Z : Sl (Pl encCred) 9 (hp w) c j) (a4 : DeepAt (fun (x : Role) => (.agg (encRole x).toArray)) (Row 53 encCred 9) (hp w) i G) (a0 : DeepAt Value.string (Row 53 encCred 9) (hp w) f u) (a3 : Sl (Pl encFact) 3 (hp w) g D) (Y : At (hp w) (.pointer (some ⟨Q, 0, none⟩)) [a, c, i, f, g, (.int .i64 N)]) (hm : m_model_Model_Members t j G u D N B = some r) :
    GivesRow false Tryz.prog 119 [(.pointer (some ⟨Q, 0, none⟩)), (.agg (encRole B).toArray)] w 9 encSk 1 r := by
  have hST := ST.start (dd := false) w
  unfold m_model_Model_Members at hm
  refine calls_of_CW (n := 15) Tryz.func119 rfl rfl (Nat.le_of_ble_eq_true rfl) (CW_seq (CW_region (VE (E_box (v := (.agg (encRole B).toArray)) hST rfl (fun W2 b1 hST => V (R_assign rfl) (LW_nil (sq_n (CW_seq (CW_seq (CW_region (V (R_move rfl) (V (R_ptrEqNil Tryz.underlying171 rfl rfl) (LW_nil (sq_n (CW_if_false rfl ?_)))))))))))))))
  refine CW_skip (sq_n (CW_seq ?_))
  replace hST := hST.drew
  have hS0 := hST.has.sel (Kb Sn)
  refine PX_start1 hS0 Tryz_mixed (X 0 rfl hS0 (R_move rfl) (X 1 rfl hS0 (R_nilCheck rfl) (XQ 2 rfl hS0 (R_fieldAt [a] fa294_0 rfl Y rfl) (fun b7 a6 => XH 3 rfl hS0 (fun _ hS => R_load rfl (load_at1 hS (y := a) a6 Tryz.isAgg290)) (XH 4 rfl hS0 (fun _ hS => R_load rfl (load_boxA hS Mh (encRole B) rfl Tryz.isAgg28 Tryz.sizeOf28)) ?_)))))
  obtain ⟨U, b4, J, K⟩ := I
  refine XH 5 rfl hS0 (fun _ hS => R_lookupDeep (k := B) (z := (.map none)) kl28 Tryz.underlying290 Tryz.zeroValue296 rfl rfl J (fun b o hq => hS.1 b o (K b o hq))) ?_
  obtain ⟨b8, a7, hm⟩ := bind_some hm
  have hsz := hST.size
  refine XE 6 rfl (E_callM (args := [(valAt beqRole U B (.map none))]) (caps := #[]) [] _ hST (List.Perm.refl _) rfl Tryz.call234 (by exact args1 rfl) (fun _ _ _ _ => GivesM.weak (w_maps_Keys_map_stringbool_string_bool_ (valAt beqRole U B (.map none)) (((mget beqRole t B).getD [])) _ _ ((DeepV.mapAt beqRole_iff.1 J B K).mono hST.sub_hp) a7)) (fun b5 c0 c1 b3 hST H hl69 hlift a5 => ?_))
  obtain ⟨b0, M, rfl⟩ := a5
  replace M := M.symm; subst M
  replace hST := hST.perm (Tb Tn)
  have hS0 := hST.has.selS H (Db (Kb Sn))
  refine ⟨hS0, ?_⟩
  obtain ⟨b9, a8, hm⟩ := bind_some hm
  refine XE 7 rfl (F_givesRow (args := [(.func (.func 327) #[] #[(.pointer (some ⟨b0, 0, none⟩))])]) _ hST rfl Tryz.call159 (by exact args1 rfl) (keysS_gives327 (vf := (fun (x : Bool) => (Value.bool x))) (hST.has.2 _ _ Mh) ((DeepV.mapAt beqRole_iff.1 J B K).mono (fun b o hq => hST.has.1 b o (H b o hq))) a8) (fun b6 b2 c2 a9 hST a2 hl80 T => ?_))
  have hS0 := hST.has.selS (H.trans a2) (Dr (Db (Kb Sn)))
  refine ⟨hS0, (X 8 rfl hS0 (R_assign rfl) (PX_done (by kernel_rfl) (sq_n ?_)))⟩
  replace hST := hST.sel (Kr (Db (Db St)))
  refine CW_ret ?_
  replace hm := Option.some.inj hm; subst hm
  exact retQ_1 (v := b2) rfl rfl ⟨_, a9, rfl, hST.backRow (fun p hq => (Ml hq)) T.nd, T⟩
theorem w_model_Model_all_w (I : Nat) (f : Value) (M : List (Role × (List (ByteArray × Bool)))) (D : List (Nat × Obj)) (a : Value) (G : List Cred) (j : List (Nat × Obj)) (g : Value) (J : List (Role × (List Cred))) (t : List (Nat × Obj)) (c : Value) (H : List (ByteArray × (List Cred))) (k : List (Nat × Obj)) (u : Value) (K : List Fact) (B : List (Nat × Obj)) (Y : Int) (a1 : Role) (a2 : Role) (r : ((List (Role × (List (ByteArray × Bool)))) × (List Fact) × Int)) (w : World) {μ0 : Mem} (h0 : Ent μ0 ((I, Obj.cells (#[f, a, g, c, u, (.int .i64 Y)] : Array Value) 294 (0, 0)) :: (D ++ (j ++ (t ++ (k ++ (B ++ [])))))) w) (a4 : DeepE (fun (x : Role) => (.agg (encRole x).toArray)) (MapRow Value.string (fun (x : Bool) => (Value.bool x))) f M D) (N : Row 53 encCred 9 a G j) (a3 : DeepE (fun (x : Role) => (.agg (encRole x).toArray)) (Row 53 encCred 9) g J t) (Q : DeepE Value.string (Row 53 encCred 9) c H k) (a0 : Que 38 encFact 3 u K B) (hm : m_model_Model_all_w M G J H K Y a1 a2 = some r) :
    GivesM false Tryz.prog 415 [(.pointer (some ⟨I, 0, none⟩)), (.agg (encRole a1).toArray), (.agg (encRole a2).toArray)] w ((I, Obj.cells (#[f, a, g, c, u, (.int .i64 Y)] : Array Value) 294 (0, 0)) :: (D ++ (j ++ (t ++ (k ++ (B ++ [])))))) (fun v L1 W' => ∃ (S1 : List (Nat × Obj)) (y3 : Value) (S4 : List (Nat × Obj)), v = (.tuple #[]) ∧ L1 = ((I, Obj.cells (#[f, a, g, c, y3, (.int .i64 (r.2.2))] : Array Value) 294 (0, 0)) :: (S1 ++ (j ++ (t ++ (k ++ (S4 ++ [])))))) ∧ DeepE (fun (x : Role) => (.agg (encRole x).toArray)) (MapRow Value.string (fun (x : Bool) => (Value.bool x))) f r.1 S1 ∧ Que 38 encFact 3 y3 r.2.1 S4) := by
  have hST := ST.startE (dd := false) h0
  unfold m_model_Model_all_w at hm
  refine calls_of_CW (n := 21) Tryz.func415 rfl rfl (Nat.le_of_ble_eq_true rfl) (CW_seq (CW_region (VE (E_box (v := (.agg (encRole a1).toArray)) hST rfl (fun W2 b1 hST => VE (E_box (v := (.agg (encRole a2).toArray)) hST rfl (fun W4 b3 hST => LW_nil (sq_n (CW_seq (CW_region (V (R_move rfl) (V (R_load rfl (load_boxA hST.has (Mt Mh) (encRole a1) rfl Tryz.isAgg28 Tryz.sizeOf28)) ?_))))))))))))
  obtain ⟨r5, e4, hm⟩ := bind_some hm
  refine VE (F_givesRow (args := [(.pointer (some ⟨I, 0, none⟩)), (.agg (encRole a1).toArray)]) _ hST rfl Tryz.call119 (by exact args2 rfl rfl) ((w_model_Model_Members I f M a G g J c H u K Y a1 _ _ (a4.at (fun b o hq => hST.at_ (Mt (Mt (Mt (Ml hq)))))) (N.sl lenCred (fun b o hq => hST.at_ (Mt (Mt (Mt (Ma (Ml hq))))))) (a3.at (fun b o hq => hST.at_ (Mt (Mt (Mt (Ma (Ma (Ml hq)))))))) (Q.at (fun b o hq => hST.at_ (Mt (Mt (Mt (Ma (Ma (Ma (Ml hq))))))))) ((a0.slL lenFact).mono (Pl.mono _) (memL_held (fun b o hq => hST.at_ (Mt (Mt (Mt (Ma (Ma (Ma (Ma (Ml hq))))))))))) (At.of (hST.at_ (Mt (Mt Mh))) _ rfl) e4)) (fun W7 e5 μ8 e0 hST f3 hl10 a8 => V (R_lenRow Tryz.underlying82 rfl a8) (V (R_move rfl) (LW_nil (sq_n ?_)))))
  replace hST := hST.sel (Kr (Kb (Db St)))
  refine CW_tail (CW_range (fun i E W => ∃ (a5 : List (Role × (List (ByteArray × Bool)))) (T : List (Nat × Obj)) (Z : Value) (a6 : List Fact) (U : List (Nat × Obj)) (a7 : Int) (b5 : Mem) (b8 : List (Nat × Obj)), (E 12 = .int .i64 (i : Nat) ∧ E 11 = .int .i64 (r5.length : Nat)) ∧ Sub μ8 b5 ∧ ST false (keys ((I, Obj.cells (#[f, a, g, c, u, (.int .i64 Y)] : Array Value) 294 (0, 0)) :: (D ++ (j ++ (t ++ (k ++ (B ++ []))))))) w W b5 ((I, Obj.cells (#[f, a, g, c, Z, (.int .i64 a7)] : Array Value) 294 (0, 0)) :: ((b3, Obj.cells ((encRole a2).toArray : Array Value) 28 (0, 0)) :: (T ++ (j ++ (t ++ (k ++ (U ++ (e0 ++ b8)))))))) ∧ E 0 = (.pointer (some ⟨I, 0, none⟩)) ∧ E 5 = (.pointer (some ⟨b3, 0, none⟩)) ∧ E 10 = e5 ∧ DeepE (fun (x : Role) => (.agg (encRole x).toArray)) (MapRow Value.string (fun (x : Bool) => (Value.bool x))) f a5 T ∧ Que 38 encFact 3 Z a6 U ∧ m_model_Model_all_w_L1 G J H a2 (r5.drop i) a5 a6 a7 = some r) r5.length a8.len ⟨M, D, u, K, B, Y, μ8, _, ⟨rfl, rfl⟩, (Sub.refl _), (hST.sel (Sb (Pr (Pb Pz)) (Sb (Pr Pz) (Sr (Qr Qz) (Sr (Qr Qz) (Sr (Qr Qz) (Sr (Qr Qz) (Sr (Qr Qz) St)))))))), rfl, rfl, rfl, a4, a0, hm⟩ (by decide) (by decide) (by decide) (fun _ _ _ h => by obtain ⟨_, _, _, _, _, _, _, _, eIN, _⟩ := h; exact eIN) ?_ ?_)
  · rintro d6 E W c7 ⟨a5, T, Z, a6, U, a7, b5, b8, ⟨eI, eN⟩, b7, hST, b9, c0, c1, a9, b0, z⟩
    obtain ⟨b4, e8, d0, c3, d1⟩ := drop_cons c7
    rw [d0] at z
    rw [m_model_Model_all_w_L1] at z
    refine CW_block (CW_seq (CW_region (VQ (R_indexRow (i := (d6 : Int)) (x0 := b4) Tryz.underlying82 Tryz.sizeOf9 c1 eI a8 (Int.natCast_nonneg _) c3) (fun f4 c8 => V (R_load rfl (load_ix1 hST.has (fun p hq => (Mt (Mt (Ma (Ma (Ma (Ma (Ma (Ml hq))))))))) a8 (fun _ => rfl) c8 c3 (y := (.string b4)) rfl Tryz.isAgg9)) (V (R_assign rfl) (LW_nil (sq_n (CW_region (V (R_move b9) (V (R_load c0 (load_boxA hST.has (Mt Mh) (encRole a2) rfl Tryz.isAgg28 Tryz.sizeOf28)) (V (R_move rfl) ?_)))))))))))
    obtain ⟨c2, c9, z⟩ := bind_some z
    have hsz := hST.size
    refine VE (E_callM (args := [(.pointer (some ⟨I, 0, none⟩)), (.agg (encRole a2).toArray), (.string b4)]) (caps := #[]) _ _ hST (Cb Pz (Cr (Qb Qz) (Cr (Qb Qz) (Cr (Qb Qz) (Cr (Qb Qz) (Cr (Qb Qz) Cn)))))) rfl Tryz.call370 (by exact args3 rfl rfl rfl) (fun hH hN hsb hmm => GivesM.weak (w_model_Model_tell_w I f a5 T a G j g J t c H k Z a6 U a7 a2 b4 _ _ ⟨hH, hN, Sub.refl _⟩ a9 N a3 Q b0 c9)) (fun f1 f5 d9 f0 hST c5 hl182 hlift c6 => ?_))
    obtain ⟨d4, d8, d5, b2, rfl, d2, d3⟩ := c6
    replace b2 := b2.symm; subst b2
    replace hST := hST.perm (Tb (Tr (Tr (Tr (Tr (Tr Tn))))))
    exact LW_nil (bq_n (sq_n ⟨eI, c2.1, d4, d8, c2.2.1, d5, c2.2.2, d9, _, ⟨rfl, eN⟩, (b7.trans c5), (hST.sel (Kb (Sb (Pr (Pr (Pr (Pr (Pr Pz))))) St))), b9, c0, c1, d2, d3, (by rw [d1]; exact z)⟩))
  rintro E W ⟨a5, T, Z, a6, U, a7, b5, b8, ⟨eI, eN⟩, b7, hST, b9, c0, c1, a9, b0, z⟩
  rw [List.drop_length] at z
  rw [m_model_Model_all_w_L1] at z
  refine sq_n ?_
  replace hST := hST.sel (Kb (Db (Kr (Kr (Kr (Kr (Kr (Dr St))))))))
  refine retQ_n ?_
  replace z := Option.some.inj z; subst z
  exact retQ_0 rfl ⟨_, _, rfl, (hST.bkM (Kb (Kr (Kr (Kr (Kr (Kr Sn))))))), T, Z, U, rfl, rfl, a9, b0⟩
theorem w_model_Model_use_w (N : Nat) (D : Value) (G : List (Role × (List (ByteArray × Bool)))) (B : List (Nat × Obj)) (g : Value) (I : List Cred) (c : List (Nat × Obj)) (y : Value) (U : List (Role × (List Cred))) (u : List (Nat × Obj)) (i : Value) (M : List (ByteArray × (List Cred))) (f : List (Nat × Obj)) (t : Value) (K : List Fact) (j : List (Nat × Obj)) (Y : Int) (H : Cred) (a2 : Fact) (r : ((List (Role × (List (ByteArray × Bool)))) × (List Fact) × Int)) (w : World) {μ0 : Mem} (h0 : Ent μ0 ((N, Obj.cells (#[D, g, y, i, t, (.int .i64 Y)] : Array Value) 294 (0, 0)) :: (B ++ (c ++ (u ++ (f ++ (j ++ [])))))) w) (a3 : DeepE (fun (x : Role) => (.agg (encRole x).toArray)) (MapRow Value.string (fun (x : Bool) => (Value.bool x))) D G B) (a0 : Row 53 encCred 9 g I c) (a6 : DeepE (fun (x : Role) => (.agg (encRole x).toArray)) (Row 53 encCred 9) y U u) (a4 : DeepE Value.string (Row 53 encCred 9) i M f) (Q : Que 38 encFact 3 t K j) (hm : m_model_Model_use_w G I U M K Y H a2 = some r) :
    GivesM false Tryz.prog 371 [(.pointer (some ⟨N, 0, none⟩)), (.agg (encCred H).toArray), (.agg (encFact a2).toArray)] w ((N, Obj.cells (#[D, g, y, i, t, (.int .i64 Y)] : Array Value) 294 (0, 0)) :: (B ++ (c ++ (u ++ (f ++ (j ++ [])))))) (fun v L1 W' => ∃ (S1 : List (Nat × Obj)) (y3 : Value) (S4 : List (Nat × Obj)), v = (.tuple #[]) ∧ L1 = ((N, Obj.cells (#[D, g, y, i, y3, (.int .i64 (r.2.2))] : Array Value) 294 (0, 0)) :: (S1 ++ (c ++ (u ++ (f ++ (S4 ++ [])))))) ∧ DeepE (fun (x : Role) => (.agg (encRole x).toArray)) (MapRow Value.string (fun (x : Bool) => (Value.bool x))) D r.1 S1 ∧ Que 38 encFact 3 y3 r.2.1 S4) := by
  have hST := ST.startE (dd := false) h0
  unfold m_model_Model_use_w at hm
  refine calls_of_CW (n := 57) Tryz.func371 rfl rfl (Nat.le_of_ble_eq_true rfl) (CW_seq (CW_region (VE (E_box (v := (.agg (encCred H).toArray)) hST rfl (fun W2 b1 hST => VE (E_box (v := (.agg (encFact a2).toArray)) hST rfl (fun W4 b3 hST => LW_nil (sq_n (CW_seq (CW_region (V (R_field fa53_0 rfl) (V (R_load rfl (load_box1 hST.has (Mt Mh) rfl Tryz.isAgg3)) (LW_nil (sq_n (CW_block (CW_seq ?_))))))))))))))))
  refine CW_region (V (R_int rfl rfl rfl) (V (R_assign rfl) (LW_nil (sq_n (CW_if (b := (H.Kind == 2)) rfl (fun b9 => ?_) (fun b9 => ?_))))))
  · replace hm := if_t b9 hm
    refine CW_region (V (R_move rfl) (V (R_field fa53_1 rfl) (V (R_load rfl (load_boxA hST.has (Mt Mh) (encRole H.Head) rfl Tryz.isAgg28 Tryz.sizeOf28)) (V (R_field fa38_1 rfl) (V (R_load rfl (load_box1 hST.has Mh rfl Tryz.isAgg9)) ?_)))))
    obtain ⟨r6, e7, hm⟩ := bind_some hm
    have hsz := hST.size
    refine VE (E_callM (args := [(.pointer (some ⟨N, 0, none⟩)), (.agg (encRole H.Head).toArray), (.string a2.Who)]) (caps := #[]) _ _ hST (Cb (Pb (Pb Pz)) (Cr (Qb (Qb Qz)) (Cr (Qb (Qb Qz)) (Cr (Qb (Qb Qz)) (Cr (Qb (Qb Qz)) (Cr (Qb (Qb Qz)) Cn)))))) rfl Tryz.call370 (by exact args3 rfl rfl rfl) (fun hH hN hsb hmm => GivesM.weak (w_model_Model_tell_w N D G B g I c y U u i M f t K j Y H.Head a2.Who _ _ ⟨hH, hN, Sub.refl _⟩ a3 a0 a6 a4 Q e7)) (fun W8 g6 μ9 f9 hST f3 hl11 hlift c2 => ?_))
    obtain ⟨d4, e8, d5, b2, rfl, c7, c8⟩ := c2
    replace b2 := b2.symm; subst b2
    replace hST := hST.perm (Tb (Tr (Tr (Tr (Tr (Tr Tn))))))
    refine LW_nil (bq_n (retQ_n ?_))
    replace hm := Option.some.inj hm; subst hm
    exact retQ_0 rfl ⟨_, _, rfl, (hST.bkM (Kb (Kr (Kr (Kr (Kr (Kr Sn))))))), d4, e8, d5, rfl, rfl, c7, c8⟩
  replace hm := if_f b9 hm
  refine CW_seq (CW_region (V (R_int rfl rfl rfl) (V (R_assign rfl) (LW_nil (sq_n (CW_if (b := (H.Kind == 3)) rfl (fun a8 => ?_) (fun a8 => ?_)))))))
  · replace hm := if_t a8 hm
    refine CW_region (V (R_move rfl) (V (R_field fa38_1 rfl) (V (R_load rfl (load_box1 hST.has Mh rfl Tryz.isAgg9)) (V (R_field fa53_5 rfl) (V (R_load rfl (load_box1 hST.has (Mt Mh) rfl Tryz.isAgg9)) (V (R_build (qs := #[(0, (.string a2.Who)), (1, (.string H.Word2))]) (v := (.agg (encRole ((⟨a2.Who, H.Word2⟩ : Role))).toArray)) (parts2 rfl rfl) (run_build Tryz.zeroValue28 Tryz.underlying28 (pl28 _ Tryz.underlying28) (by kernel_rfl))) (V (R_field fa53_1 rfl) (V (R_load rfl (load_boxA hST.has (Mt Mh) (encRole H.Head) rfl Tryz.isAgg28 Tryz.sizeOf28)) ?_))))))))
    obtain ⟨g4, c5, hm⟩ := bind_some hm
    have hsz := hST.size
    refine VE (E_callM (args := [(.pointer (some ⟨N, 0, none⟩)), (.agg (encRole ((⟨a2.Who, H.Word2⟩ : Role))).toArray), (.agg (encRole H.Head).toArray)]) (caps := #[]) _ _ hST (Cb (Pb (Pb Pz)) (Cr (Qb (Qb Qz)) (Cr (Qb (Qb Qz)) (Cr (Qb (Qb Qz)) (Cr (Qb (Qb Qz)) (Cr (Qb (Qb Qz)) Cn)))))) rfl Tryz.call415 (by exact args3 rfl rfl rfl) (fun hH hN hsb hmm => (w_model_Model_all_w N D G B g I c y U u i M f t K j Y ((⟨a2.Who, H.Word2⟩ : Role)) H.Head _ _ ⟨hH, hN, Sub.refl _⟩ a3 a0 a6 a4 Q c5)) (fun g2 g7 g9 g0 hST f4 hl27 hlift c3 => ?_))
    obtain ⟨d6, f0, d7, b4, rfl, c9, d0⟩ := c3
    replace b4 := b4.symm; subst b4
    replace hST := hST.perm (Tb (Tr (Tr (Tr (Tr (Tr Tn))))))
    refine LW_nil (bq_n (retQ_n ?_))
    replace hm := Option.some.inj hm; subst hm
    exact retQ_0 rfl ⟨_, _, rfl, (hST.bkM (Kb (Kr (Kr (Kr (Kr (Kr Sn))))))), d6, f0, d7, rfl, rfl, c9, d0⟩
  replace hm := if_f a8 hm
  refine CW_seq (CW_region (V (R_int rfl rfl rfl) (V (R_assign rfl) (LW_nil (sq_n (CW_if (b := (H.Kind == 4)) rfl (fun a9 => ?_) (fun a9 => ?_)))))))
  · replace hm := if_t a9 hm
    refine CW_seq ?_
    replace hST := hST.drew
    have hS0 := hST.has.sel (Kb (Kb (Kb (Kr Sn))))
    refine PX_start1 hS0 Tryz_mixed (X 0 rfl hS0 (R_move rfl) (X 1 rfl hS0 (R_nilCheck rfl) (X 2 rfl hS0 (R_field fa294_0 rfl) (XH 3 rfl hS0 (fun _ hS => R_load rfl (load_box1 hS (Mt (Mt Mh)) rfl Tryz.isAgg290)) (X 4 rfl hS0 (R_field fa53_3 rfl) (XH 5 rfl hS0 (fun _ hS => R_load rfl (load_boxA hS (Mt Mh) (encRole H.B) rfl Tryz.isAgg28 Tryz.sizeOf28)) ?_))))))
    obtain ⟨f8, a7⟩ := a3
    refine XH 6 rfl hS0 (fun _ hS => R_lookupDeep (k := H.B) (z := (.map none)) kl28 Tryz.underlying290 Tryz.zeroValue296 rfl rfl a7 (fun b o hq => hS.2 b o (Mt (Mt (Mt (Ml hq)))))) (X 7 rfl hS0 (R_field fa38_1 rfl) (XH 8 rfl hS0 (fun _ hS => R_load rfl (load_box1 hS Mh rfl Tryz.isAgg9)) (XH 9 rfl hS0 (fun _ hS => R_lookupD (k := a2.Who) (z := false) (vf := (fun (x : Bool) => (Value.bool x))) kl9 Tryz.underlying296 Tryz.zeroValue4 rfl rfl (DeepV.mapAt (μ := hp _) beqRole_iff.1 a7 H.B (fun b o hq => hS.2 b o (Mt (Mt (Mt (Ml hq))))))) (X 10 rfl hS0 (R_move rfl) ?_))))
    obtain ⟨g5, Z, c0⟩ := bind_some hm
    refine PX_join (J := fun E W => ∃ (b8 : Bool) (c1 : List (Nat × Obj)), ST false (keys ((N, Obj.cells (#[D, g, y, i, t, (.int .i64 Y)] : Array Value) 294 (0, 0)) :: (B ++ (c ++ (u ++ (f ++ (j ++ []))))))) w W μ0 ((b3, Obj.cells ((encFact a2).toArray : Array Value) 38 (0, 0)) :: ((b1, Obj.cells ((encCred H).toArray : Array Value) 53 (0, 0)) :: ((N, Obj.cells (#[D, g, y, i, t, (.int .i64 Y)] : Array Value) 294 (0, 0)) :: (B ++ (c ++ (u ++ (f ++ (j ++ c1)))))))) ∧ E 0 = (.pointer (some ⟨N, 0, none⟩)) ∧ E 4 = (.pointer (some ⟨b1, 0, none⟩)) ∧ E 5 = (.pointer (some ⟨b3, 0, none⟩)) ∧ E 50 = (.bool b8) ∧ (if b8 then (((m_model_Model_tell_w G I U M K Y H.Head a2.Who)).bind fun b7 => some (b7.1, b7.2.1, b7.2.2)) else some (G, K, Y)) = some r) #[true, true, true, true, true, true, true, true, true, true, true, true, true, true, true, true, true, true, true, true, true, true] 0 ?_ (fun b6 => ?_)
    · rintro E W ⟨b8, c1, hST, e3, e4, e5, e6, T⟩
      have hS0 := hST.has.sel (Kb (Kb (Kb (Kr Sn))))
      refine PX_done (by kernel_rfl) (sq_n (CW_if (b := b8) e6 (fun b0 => ?_) (fun b0 => ?_)))
      · replace T := if_t b0 T
        refine CW_region (V (R_move e3) (V (R_field fa53_1 e4) (V (R_load rfl (load_boxA hST.has (Mt Mh) (encRole H.Head) rfl Tryz.isAgg28 Tryz.sizeOf28)) (V (R_field fa38_1 e5) (V (R_load rfl (load_box1 hST.has Mh rfl Tryz.isAgg9)) ?_)))))
        obtain ⟨b7, c6, T⟩ := bind_some T
        have hsz := hST.size
        refine VE (E_callM (args := [(.pointer (some ⟨N, 0, none⟩)), (.agg (encRole H.Head).toArray), (.string a2.Who)]) (caps := #[]) _ _ hST (Cb (Pb (Pb Pz)) (Cr (Qb (Qb Qz)) (Cr (Qb (Qb Qz)) (Cr (Qb (Qb Qz)) (Cr (Qb (Qb Qz)) (Cr (Qb (Qb Qz)) Cn)))))) rfl Tryz.call370 (by exact args3 rfl rfl rfl) (fun hH hN hsb hmm => GivesM.weak (w_model_Model_tell_w N D G B g I c y U u i M f t K j Y H.Head a2.Who _ _ ⟨hH, hN, Sub.refl _⟩ a7.e a0 a6 a4 Q c6)) (fun g3 g8 h1 g1 hST f5 hl82 hlift c4 => ?_))
        obtain ⟨d9, f1, e0, b5, rfl, d1, d2⟩ := c4
        replace b5 := b5.symm; subst b5
        replace hST := hST.perm (Tb (Tr (Tr (Tr (Tr (Tr Tn))))))
        refine LW_nil (bq_n (retQ_n ?_))
        replace T := Option.some.inj T; subst T
        exact retQ_0 rfl ⟨_, _, rfl, (hST.bkM (Kb (Kr (Kr (Kr (Kr (Kr Sn))))))), d9, f1, e0, rfl, rfl, d1, d2⟩
      replace T := if_f b0 T
      refine CW_skip (bq_n (retQ_n ?_))
      replace T := Option.some.inj T; subst T
      exact retQ_0 rfl ⟨_, _, rfl, (hST.bkM (Db (Db (Kb (Kr (Kr (Kr (Kr (Kr Sn))))))))), B, t, j, rfl, rfl, a7.e, Q⟩
    rcases bool_cases ((mgetD beqS (((mget beqRole G H.B).getD [])) a2.Who false)) with a | a
    · replace Z := if_t a Z
      refine Xg 11 rfl rfl (congrArg Value.bool a) hS0 (R_move rfl) (Xg 12 rfl rfl (congrArg Value.bool a) hS0 (R_nilCheck rfl) (Xg 13 rfl rfl (congrArg Value.bool a) hS0 (R_field fa294_0 rfl) (XgH 14 rfl rfl (congrArg Value.bool a) hS0 (fun _ hS => R_load rfl (load_box1 hS (Mt (Mt Mh)) rfl Tryz.isAgg290)) (Xg 15 rfl rfl (congrArg Value.bool a) hS0 (R_field fa53_4 rfl) (XgH 16 rfl rfl (congrArg Value.bool a) hS0 (fun _ hS => R_load rfl (load_boxA hS (Mt Mh) (encRole H.C) rfl Tryz.isAgg28 Tryz.sizeOf28)) (XgH 17 rfl rfl (congrArg Value.bool a) hS0 (fun _ hS => R_lookupDeep (k := H.C) (z := (.map none)) kl28 Tryz.underlying290 Tryz.zeroValue296 rfl rfl a7 (fun b o hq => hS.2 b o (Mt (Mt (Mt (Ml hq)))))) (Xg 18 rfl rfl (congrArg Value.bool a) hS0 (R_field fa38_1 rfl) (XgH 19 rfl rfl (congrArg Value.bool a) hS0 (fun _ hS => R_load rfl (load_box1 hS Mh rfl Tryz.isAgg9)) (XgH 20 rfl rfl (congrArg Value.bool a) hS0 (fun _ hS => R_lookupD (k := a2.Who) (z := false) (vf := (fun (x : Bool) => (Value.bool x))) kl9 Tryz.underlying296 Tryz.zeroValue4 rfl rfl (DeepV.mapAt (μ := hp _) beqRole_iff.1 a7 H.C (fun b o hq => hS.2 b o (Mt (Mt (Mt (Ml hq))))))) (X 21 rfl hS0 (R_pickT (congrArg Value.bool a) rfl) ?_))))))))))
      replace Z := Option.some.inj Z; subst Z
      refine PX_at (by kernel_rfl) (b6 _ _ ⟨((mgetD beqS (((mget beqRole G H.C).getD [])) a2.Who false)), _, (hST.sel St), rfl, rfl, rfl, rfl, c0⟩)
    replace Z := if_f a Z
    refine Xn 11 rfl rfl (congrArg Value.bool a) hS0 (Xn 12 rfl rfl (congrArg Value.bool a) hS0 (Xn 13 rfl rfl (congrArg Value.bool a) hS0 (Xn 14 rfl rfl (congrArg Value.bool a) hS0 (Xn 15 rfl rfl (congrArg Value.bool a) hS0 (Xn 16 rfl rfl (congrArg Value.bool a) hS0 (Xn 17 rfl rfl (congrArg Value.bool a) hS0 (Xn 18 rfl rfl (congrArg Value.bool a) hS0 (Xn 19 rfl rfl (congrArg Value.bool a) hS0 (Xn 20 rfl rfl (congrArg Value.bool a) hS0 (X 21 rfl hS0 (R_pickF (congrArg Value.bool a) rfl) ?_))))))))))
    replace Z := Option.some.inj Z; subst Z
    refine PX_at (by kernel_rfl) (b6 _ _ ⟨false, _, (hST.sel St), rfl, rfl, rfl, rfl, c0⟩)
  replace hm := if_f a9 hm
  refine CW_skip (bq_n (retQ_n ?_))
  replace hm := Option.some.inj hm; subst hm
  exact retQ_0 rfl ⟨_, _, rfl, (hST.bkM (Db (Db (Kb (Kr (Kr (Kr (Kr (Kr Sn))))))))), B, t, j, rfl, rfl, a3, Q⟩
theorem w_model_Model_begin_w (I : Nat) (f : Value) (T : List (Role × (List (ByteArray × Bool)))) (D : List (Nat × Obj)) (a : Value) (G : List Cred) (g : List (Nat × Obj)) (k : Value) (J : List (Role × (List Cred))) (t : List (Nat × Obj)) (c : Value) (H : List (ByteArray × (List Cred))) (j : List (Nat × Obj)) (u : Value) (M : List Fact) (z : List (Nat × Obj)) (Z : Int) (K : Cred) (r : ((List (Role × (List (ByteArray × Bool)))) × (List Fact) × Int)) (w : World) {μ0 : Mem} (h0 : Ent μ0 ((I, Obj.cells (#[f, a, k, c, u, (.int .i64 Z)] : Array Value) 294 (0, 0)) :: (D ++ (g ++ (t ++ (j ++ (z ++ [])))))) w) (a0 : DeepE (fun (x : Role) => (.agg (encRole x).toArray)) (MapRow Value.string (fun (x : Bool) => (Value.bool x))) f T D) (N : Row 53 encCred 9 a G g) (Y : DeepE (fun (x : Role) => (.agg (encRole x).toArray)) (Row 53 encCred 9) k J t) (Q : DeepE Value.string (Row 53 encCred 9) c H j) (U : Que 38 encFact 3 u M z) (hm : m_model_Model_begin_w T G J H M Z K = some r) :
    GivesM false Tryz.prog 325 [(.pointer (some ⟨I, 0, none⟩)), (.agg (encCred K).toArray)] w ((I, Obj.cells (#[f, a, k, c, u, (.int .i64 Z)] : Array Value) 294 (0, 0)) :: (D ++ (g ++ (t ++ (j ++ (z ++ [])))))) (fun v L1 W' => ∃ (S1 : List (Nat × Obj)) (y3 : Value) (S4 : List (Nat × Obj)), v = (.tuple #[]) ∧ L1 = ((I, Obj.cells (#[f, a, k, c, y3, (.int .i64 (r.2.2))] : Array Value) 294 (0, 0)) :: (S1 ++ (g ++ (t ++ (j ++ (S4 ++ [])))))) ∧ DeepE (fun (x : Role) => (.agg (encRole x).toArray)) (MapRow Value.string (fun (x : Bool) => (Value.bool x))) f r.1 S1 ∧ Que 38 encFact 3 y3 r.2.1 S4) := by
  have hST := ST.startE (dd := false) h0
  unfold m_model_Model_begin_w at hm
  refine calls_of_CW (n := 33) Tryz.func325 rfl rfl (Nat.le_of_ble_eq_true rfl) (CW_seq (CW_region (VE (E_box (v := (.agg (encCred K).toArray)) hST rfl (fun W2 b1 hST => LW_nil (sq_n (CW_seq (CW_region (V (R_field fa53_0 rfl) (V (R_load rfl (load_box1 hST.has Mh rfl Tryz.isAgg3)) (LW_nil (sq_n (CW_block (CW_seq (CW_region ?_)))))))))))))))
  refine V (R_int rfl rfl rfl) (V (R_assign rfl) (LW_nil (sq_n (CW_if (b := (K.Kind == 1)) rfl (fun c3 => ?_) (fun c3 => ?_)))))
  · replace hm := if_t c3 hm
    refine CW_region (V (R_move rfl) (V (R_field fa53_1 rfl) (V (R_load rfl (load_boxA hST.has Mh (encRole K.Head) rfl Tryz.isAgg28 Tryz.sizeOf28)) (V (R_field fa53_2 rfl) (V (R_load rfl (load_box1 hST.has Mh rfl Tryz.isAgg9)) ?_)))))
    obtain ⟨r4, f0, hm⟩ := bind_some hm
    have hsz := hST.size
    refine VE (E_callM (args := [(.pointer (some ⟨I, 0, none⟩)), (.agg (encRole K.Head).toArray), (.string K.Who)]) (caps := #[]) _ _ hST (Cb (Pb Pz) (Cr (Qb Qz) (Cr (Qb Qz) (Cr (Qb Qz) (Cr (Qb Qz) (Cr (Qb Qz) Cn)))))) rfl Tryz.call370 (by exact args3 rfl rfl rfl) (fun hH hN hsb hmm => GivesM.weak (w_model_Model_tell_w I f T D a G g k J t c H j u M z Z K.Head K.Who _ _ ⟨hH, hN, Sub.refl _⟩ a0 N Y Q U f0)) (fun W6 g6 μ7 g4 hST g0 hl9 hlift d7 => ?_))
    obtain ⟨e6, f2, e7, c0, rfl, d9, e0⟩ := d7
    replace c0 := c0.symm; subst c0
    replace hST := hST.perm (Tb (Tr (Tr (Tr (Tr (Tr Tn))))))
    refine LW_nil (bq_n (retQ_n ?_))
    replace hm := Option.some.inj hm; subst hm
    exact retQ_0 rfl ⟨_, _, rfl, (hST.bkM (Kb (Kr (Kr (Kr (Kr (Kr Sn))))))), e6, f2, e7, rfl, rfl, d9, e0⟩
  replace hm := if_f c3 hm
  refine CW_seq (CW_region (V (R_move rfl) (V (R_field fa53_3 rfl) (V (R_load rfl (load_boxA hST.has Mh (encRole K.B) rfl Tryz.isAgg28 Tryz.sizeOf28)) ?_))))
  obtain ⟨c5, d8, hm⟩ := bind_some hm
  refine VE (F_givesRow (args := [(.pointer (some ⟨I, 0, none⟩)), (.agg (encRole K.B).toArray)]) _ hST rfl Tryz.call119 (by exact args2 rfl rfl) ((w_model_Model_Members I f T a G k J c H u M Z K.B _ _ (a0.at (fun b o hq => hST.at_ (Mt (Mt (Ml hq))))) (N.sl lenCred (fun b o hq => hST.at_ (Mt (Mt (Ma (Ml hq)))))) (Y.at (fun b o hq => hST.at_ (Mt (Mt (Ma (Ma (Ml hq))))))) (Q.at (fun b o hq => hST.at_ (Mt (Mt (Ma (Ma (Ma (Ml hq)))))))) ((U.slL lenFact).mono (Pl.mono _) (memL_held (fun b o hq => hST.at_ (Mt (Mt (Ma (Ma (Ma (Ma (Ml hq)))))))))) (At.of (hST.at_ (Mt Mh)) _ rfl) d8)) (fun g5 f1 d4 e4 hST f4 hl24 b0 => V (R_lenRow Tryz.underlying82 rfl b0) (V (R_move rfl) (LW_nil (sq_n (CW_tail (CW_range (fun i E W => ∃ (a6 : List (Role × (List (ByteArray × Bool)))) (a2 : List (Nat × Obj)) (a4 : Value) (a7 : List Fact) (a3 : List (Nat × Obj)) (a8 : Int) (b5 : Mem) (b7 : List (Nat × Obj)), (E 13 = .int .i64 (i : Nat) ∧ E 12 = .int .i64 (c5.length : Nat)) ∧ Sub d4 b5 ∧ ST false (keys ((I, Obj.cells (#[f, a, k, c, u, (.int .i64 Z)] : Array Value) 294 (0, 0)) :: (D ++ (g ++ (t ++ (j ++ (z ++ []))))))) w W b5 ((I, Obj.cells (#[f, a, k, c, a4, (.int .i64 a8)] : Array Value) 294 (0, 0)) :: ((b1, Obj.cells ((encCred K).toArray : Array Value) 53 (0, 0)) :: (a2 ++ (g ++ (t ++ (j ++ (a3 ++ (e4 ++ b7)))))))) ∧ E 0 = (.pointer (some ⟨I, 0, none⟩)) ∧ E 3 = (.pointer (some ⟨b1, 0, none⟩)) ∧ E 11 = f1 ∧ DeepE (fun (x : Role) => (.agg (encRole x).toArray)) (MapRow Value.string (fun (x : Bool) => (Value.bool x))) f a6 a2 ∧ Que 38 encFact 3 a4 a7 a3 ∧ m_model_Model_begin_w_L1 G J H K (c5.drop i) a6 a7 a8 = some r) c5.length b0.len ⟨T, D, u, M, z, Z, d4, _, ⟨rfl, rfl⟩, (Sub.refl _), (hST.sel (Sb (Pr (Pb Pz)) (Sb (Pr Pz) (Sr (Qr Qz) (Sr (Qr Qz) (Sr (Qr Qz) (Sr (Qr Qz) (Sr (Qr Qz) St)))))))), rfl, rfl, rfl, a0, U, hm⟩ (by decide) (by decide) (by decide) (fun _ _ _ h => by obtain ⟨_, _, _, _, _, _, _, _, eIN, _⟩ := h; exact eIN) ?_ ?_)))))))
  · rintro e1 E W c7 ⟨a6, a2, a4, a7, a3, a8, b5, b7, ⟨eI, eN⟩, b6, hST, b8, a9, b9, b2, b3, B⟩
    obtain ⟨a5, f5, d0, c2, d1⟩ := drop_cons c7
    rw [d0] at B
    rw [m_model_Model_begin_w_L1] at B
    refine CW_block (CW_seq (CW_region (VQ (R_indexRow (i := (e1 : Int)) (x0 := a5) Tryz.underlying82 Tryz.sizeOf9 b9 eI b0 (Int.natCast_nonneg _) c2) (fun g1 c8 => V (R_load rfl (load_ix1 hST.has (fun p hq => (Mt (Mt (Ma (Ma (Ma (Ma (Ma (Ml hq))))))))) b0 (fun _ => rfl) c8 c2 (y := (.string a5)) rfl Tryz.isAgg9)) (V (R_assign rfl) (LW_nil (sq_n (CW_region (V (R_move b8) (V (R_load a9 (load_boxA hST.has (Mt Mh) (encCred K) rfl Tryz.isAgg53 Tryz.sizeOf53)) (V (R_field fa53_3 a9) (V (R_load rfl (load_boxA hST.has (Mt Mh) (encRole K.B) rfl Tryz.isAgg28 Tryz.sizeOf28)) (V (R_move rfl) (V (R_build (qs := #[(0, (.agg (encRole K.B).toArray)), (1, (.string a5))]) (v := (.agg (encFact ((⟨K.B, a5⟩ : Fact))).toArray)) (parts2 rfl rfl) (run_build Tryz.zeroValue38 Tryz.underlying38 (pl38 _ Tryz.underlying38) (by kernel_rfl))) ?_))))))))))))))
    obtain ⟨c1, c9, B⟩ := bind_some B
    have hsz := hST.size
    refine VE (E_callM (args := [(.pointer (some ⟨I, 0, none⟩)), (.agg (encCred K).toArray), (.agg (encFact ((⟨K.B, a5⟩ : Fact))).toArray)]) (caps := #[]) _ _ hST (Cb Pz (Cr (Qb Qz) (Cr (Qb Qz) (Cr (Qb Qz) (Cr (Qb Qz) (Cr (Qb Qz) Cn)))))) rfl Tryz.call371 (by exact args3 rfl rfl rfl) (fun hH hN hsb hmm => (w_model_Model_use_w I f a6 a2 a G g k J t c H j a4 a7 a3 a8 K ((⟨K.B, a5⟩ : Fact)) _ _ ⟨hH, hN, Sub.refl _⟩ b2 N Y Q b3 c9)) (fun f8 g2 e3 f7 hST c4 hl196 hlift c6 => ?_))
    obtain ⟨d5, e2, d6, b4, rfl, d2, d3⟩ := c6
    replace b4 := b4.symm; subst b4
    replace hST := hST.perm (Tb (Tr (Tr (Tr (Tr (Tr Tn))))))
    exact LW_nil (bq_n (sq_n ⟨eI, c1.1, d5, e2, c1.2.1, d6, c1.2.2, e3, _, ⟨rfl, eN⟩, (b6.trans c4), (hST.sel (Kb (Sb (Pr (Pr (Pr (Pr (Pr Pz))))) St))), b8, a9, b9, d2, d3, (by rw [d1]; exact B)⟩))
  rintro E W ⟨a6, a2, a4, a7, a3, a8, b5, b7, ⟨eI, eN⟩, b6, hST, b8, a9, b9, b2, b3, B⟩
  rw [List.drop_length] at B
  rw [m_model_Model_begin_w_L1] at B
  refine sq_n ?_
  replace hST := hST.sel (Kb (Db (Kr (Kr (Kr (Kr (Kr (Dr St))))))))
  refine bq_n (retQ_n ?_)
  replace B := Option.some.inj B; subst B
  exact retQ_0 rfl ⟨_, _, rfl, (hST.bkM (Kb (Kr (Kr (Kr (Kr (Kr Sn))))))), a2, a4, a3, rfl, rfl, b2, b3⟩
end Go.Proofs.YtmlncblocfcmiaaGreat
