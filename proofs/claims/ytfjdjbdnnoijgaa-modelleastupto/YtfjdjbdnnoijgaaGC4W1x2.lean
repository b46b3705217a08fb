/- a part of a proof of ModelLeast -/
import Derived.Test.YtfjdjbdnnoijgaaGC4Mx2
import Derived.Test.YtfjdjbdnnoijgaaRtOx2
import Derived.Test.YtfjdjbdnnoijgaaLsx2
import Derived.Test.YtfjdjbdnnoijgaaProg
set_option linter.all false
namespace Go.Proofs.Ytfjdjbdnnoijgaa
open Go.RowKit
set_option maxRecDepth 10000
theorem Try_mixed : Try.prog.follows .mixedOrders = true := by rfl
theorem info9 : Try.prog.info? 9 = some Try.t9 ∧ Try.t9.zero = some (.string ⟨#[]⟩) ∧ Try.t9.size = 1 ∧ Try.t9.bytes = 16 := ⟨by kernel_rfl, by kernel_rfl, by kernel_rfl, by kernel_rfl⟩
theorem info34 : Try.prog.info? 34 = some Try.t34 ∧ Try.t34.zero = some (.agg #[(.string ⟨#[]⟩), (.string ⟨#[]⟩)]) ∧ Try.t34.size = 2 ∧ Try.t34.bytes = 32 := ⟨by kernel_rfl, by kernel_rfl, by kernel_rfl, by kernel_rfl⟩
theorem info36 : Try.prog.info? 36 = some Try.t36 ∧ Try.t36.zero = some (.agg #[(.int .i64 0), (.string ⟨#[]⟩), (.string ⟨#[]⟩), (.string ⟨#[]⟩), (.string ⟨#[]⟩), (.string ⟨#[]⟩), (.string ⟨#[]⟩), (.string ⟨#[]⟩), (.string ⟨#[]⟩)]) ∧ Try.t36.size = 9 ∧ Try.t36.bytes = 136 := ⟨by kernel_rfl, by kernel_rfl, by kernel_rfl, by kernel_rfl⟩
theorem info43 : Try.prog.info? 43 = some Try.t43 ∧ Try.t43.zero = some (.agg #[(.string ⟨#[]⟩), (.string ⟨#[]⟩), (.string ⟨#[]⟩)]) ∧ Try.t43.size = 3 ∧ Try.t43.bytes = 48 := ⟨by kernel_rfl, by kernel_rfl, by kernel_rfl, by kernel_rfl⟩
theorem fa34_0 : FieldAt Try.prog 34 0 0 := FieldAt_of Try.underlying34 rfl Try.sizeOf9 (by decide) rfl
theorem fa34_1 : FieldAt Try.prog 34 1 1 := FieldAt_of Try.underlying34 rfl Try.sizeOf9 (by decide) rfl
theorem fields34 : (Try.prog.fieldsOf 34).toList = (match Try.prog.underlying 34 with | some (.struct fs) => fs.toList | _ => []) := by rw [Try.underlying34]; simp [Program.fieldsOf, Try.underlying34]
theorem eqInRole (d : Nat) (x y : Role) (W : World) : (Op.equalIn (d + 2) 34 (.agg (encRole x).toArray) (.agg (encRole y).toArray)).run Try.prog W = .ok (beqRole x y) W := by
  rw [run_equalIn_struct W (d + 1) 34 _ _ (by kernel_rfl) Try.stoodInHeld34, fields34, Try.underlying34]
  exact (eqFields_cons (by decide) (part_one Try.isAgg9 rfl) (part_one Try.isAgg9 rfl) (eqS Try.underlying9 _ _ _ _) (eqFields_cons (by decide) (part_one Try.isAgg9 rfl) (part_one Try.isAgg9 rfl) (eqS Try.underlying9 _ _ _ _) (eqFields_nil _ _ _)))
theorem pl34 : ∀ fs, Try.prog.underlying 34 = some (.struct fs) → ∀ w, (fs.mapM (fun (f : Field) => do pure (f.offset, ← sizeOf f.type)) : Sem (Array (Nat × Nat))).run Try.prog w = .ok #[(0, 1), (1, 1)] w := by
  intro fs h w
  rw [Try.underlying34] at h
  cases h
  kernel_rfl
theorem fa36_0 : FieldAt Try.prog 36 0 0 := FieldAt_of Try.underlying36 rfl Try.sizeOf3 (by decide) rfl
theorem fa36_1 : FieldAt Try.prog 36 1 1 := FieldAt_of Try.underlying36 rfl Try.sizeOf34 (by decide) rfl
theorem fa36_2 : FieldAt Try.prog 36 2 3 := FieldAt_of Try.underlying36 rfl Try.sizeOf9 (by decide) rfl
theorem fa36_3 : FieldAt Try.prog 36 3 4 := FieldAt_of Try.underlying36 rfl Try.sizeOf34 (by decide) rfl
theorem fa36_4 : FieldAt Try.prog 36 4 6 := FieldAt_of Try.underlying36 rfl Try.sizeOf34 (by decide) rfl
theorem fa36_5 : FieldAt Try.prog 36 5 8 := FieldAt_of Try.underlying36 rfl Try.sizeOf9 (by decide) rfl
theorem fields36 : (Try.prog.fieldsOf 36).toList = (match Try.prog.underlying 36 with | some (.struct fs) => fs.toList | _ => []) := by rw [Try.underlying36]; simp [Program.fieldsOf, Try.underlying36]
theorem eqInCred (d : Nat) (x y : Cred) (W : World) : (Op.equalIn (d + 3) 36 (.agg (encCred x).toArray) (.agg (encCred y).toArray)).run Try.prog W = .ok (beqCred x y) W := by
  rw [run_equalIn_struct W (d + 2) 36 _ _ (by kernel_rfl) Try.stoodInHeld36, fields36, Try.underlying36]
  exact (eqFields_cons (by decide) (part_one Try.isAgg3 rfl) (part_one Try.isAgg3 rfl) (eqI Try.underlying3 _ _ _ _) (eqFields_cons (by decide) (part_agg Try.isAgg34 Try.sizeOf34 rfl) (part_agg Try.isAgg34 Try.sizeOf34 rfl) (eqInRole _ x.Head y.Head W) (eqFields_cons (by decide) (part_one Try.isAgg9 rfl) (part_one Try.isAgg9 rfl) (eqS Try.underlying9 _ _ _ _) (eqFields_cons (by decide) (part_agg Try.isAgg34 Try.sizeOf34 rfl) (part_agg Try.isAgg34 Try.sizeOf34 rfl) (eqInRole _ x.B y.B W) (eqFields_cons (by decide) (part_agg Try.isAgg34 Try.sizeOf34 rfl) (part_agg Try.isAgg34 Try.sizeOf34 rfl) (eqInRole _ x.C y.C W) (eqFields_cons (by decide) (part_one Try.isAgg9 rfl) (part_one Try.isAgg9 rfl) (eqS Try.underlying9 _ _ _ _) (eqFields_nil _ _ _)))))))
theorem pl36 : ∀ fs, Try.prog.underlying 36 = some (.struct fs) → ∀ w, (fs.mapM (fun (f : Field) => do pure (f.offset, ← sizeOf f.type)) : Sem (Array (Nat × Nat))).run Try.prog w = .ok #[(0, 1), (1, 2), (3, 1), (4, 2), (6, 2), (8, 1)] w := by
  intro fs h w
  rw [Try.underlying36] at h
  cases h
  kernel_rfl
theorem fa43_0 : FieldAt Try.prog 43 0 0 := FieldAt_of Try.underlying43 rfl Try.sizeOf34 (by decide) rfl
theorem fa43_1 : FieldAt Try.prog 43 1 2 := FieldAt_of Try.underlying43 rfl Try.sizeOf9 (by decide) rfl
theorem fields43 : (Try.prog.fieldsOf 43).toList = (match Try.prog.underlying 43 with | some (.struct fs) => fs.toList | _ => []) := by rw [Try.underlying43]; simp [Program.fieldsOf, Try.underlying43]
theorem eqInFact (d : Nat) (x y : Fact) (W : World) : (Op.equalIn (d + 3) 43 (.agg (encFact x).toArray) (.agg (encFact y).toArray)).run Try.prog W = .ok (beqFact x y) W := by
  rw [run_equalIn_struct W (d + 2) 43 _ _ (by kernel_rfl) Try.stoodInHeld43, fields43, Try.underlying43]
  exact (eqFields_cons (by decide) (part_agg Try.isAgg34 Try.sizeOf34 rfl) (part_agg Try.isAgg34 Try.sizeOf34 rfl) (eqInRole _ x.Role y.Role W) (eqFields_cons (by decide) (part_one Try.isAgg9 rfl) (part_one Try.isAgg9 rfl) (eqS Try.underlying9 _ _ _ _) (eqFields_nil _ _ _)))
theorem pl43 : ∀ fs, Try.prog.underlying 43 = some (.struct fs) → ∀ w, (fs.mapM (fun (f : Field) => do pure (f.offset, ← sizeOf f.type)) : Sem (Array (Nat × Nat))).run Try.prog w = .ok #[(0, 2), (2, 1)] w := by
  intro fs h w
  rw [Try.underlying43] at h
  cases h
  kernel_rfl
theorem fa53_0 : FieldAt Try.prog 53 0 0 := FieldAt_of Try.underlying53 rfl Try.sizeOf49 (by decide) rfl
theorem fa53_1 : FieldAt Try.prog 53 1 1 := FieldAt_of Try.underlying53 rfl Try.sizeOf24 (by decide) rfl
theorem fa53_2 : FieldAt Try.prog 53 2 2 := FieldAt_of Try.underlying53 rfl Try.sizeOf50 (by decide) rfl
theorem fa53_3 : FieldAt Try.prog 53 3 3 := FieldAt_of Try.underlying53 rfl Try.sizeOf51 (by decide) rfl
theorem fa53_4 : FieldAt Try.prog 53 4 4 := FieldAt_of Try.underlying53 rfl Try.sizeOf28 (by decide) rfl
theorem fa53_5 : FieldAt Try.prog 53 5 5 := FieldAt_of Try.underlying53 rfl Try.sizeOf3 (by decide) rfl
theorem pl53 : ∀ fs, Try.prog.underlying 53 = some (.struct fs) → ∀ w, (fs.mapM (fun (f : Field) => do pure (f.offset, ← sizeOf f.type)) : Sem (Array (Nat × Nat))).run Try.prog w = .ok #[(0, 1), (1, 1), (2, 1), (3, 1), (4, 1), (5, 1)] w := by
  intro fs h w
  rw [Try.underlying53] at h
  cases h
  kernel_rfl
theorem kl9 : KeyLaw Try.prog 9 Value.string beqS := KeyLaw.string Try.underlying9
theorem kl34 : KeyLaw Try.prog 34 (fun (x : Role) => (.agg (encRole x).toArray)) beqRole :=
  KeyLaw.struct Try.underlying34 (fun d x y W => eqInRole (d + 8) x y W) (fun b k W => checkKey_struct Try.underlying34 rfl (List.forall_mem_cons.2 ⟨fun _ => ⟨.string k.Owner, part_one Try.isAgg9 rfl, checkKey_string Try.underlying9 _ _ _ _⟩, (List.forall_mem_cons.2 ⟨fun _ => ⟨.string k.Word, part_one Try.isAgg9 rfl, checkKey_string Try.underlying9 _ _ _ _⟩, (fun _ h => by cases h)⟩)⟩))
    (fun k x h => (beqRole_iff.1 h).symm) (fun k => by simp [Instr.sameBits, encRole, bytes_beq, beqS_iff])
theorem kl43 : KeyLaw Try.prog 43 (fun (x : Fact) => (.agg (encFact x).toArray)) beqFact :=
  KeyLaw.struct Try.underlying43 (fun d x y W => eqInFact (d + 7) x y W) (fun b k W => checkKey_struct Try.underlying43 rfl (List.forall_mem_cons.2 ⟨fun _ => ⟨.agg (encRole k.Role).toArray, part_agg Try.isAgg34 Try.sizeOf34 rfl, checkKey_struct Try.underlying34 rfl (List.forall_mem_cons.2 ⟨fun _ => ⟨.string k.Role.Owner, part_one Try.isAgg9 rfl, checkKey_string Try.underlying9 _ _ _ _⟩, (List.forall_mem_cons.2 ⟨fun _ => ⟨.string k.Role.Word, part_one Try.isAgg9 rfl, checkKey_string Try.underlying9 _ _ _ _⟩, (fun _ h => by cases h)⟩)⟩)⟩, (List.forall_mem_cons.2 ⟨fun _ => ⟨.string k.Who, part_one Try.isAgg9 rfl, checkKey_string Try.underlying9 _ _ _ _⟩, (fun _ h => by cases h)⟩)⟩))
    (fun k x h => (beqFact_iff.1 h).symm) (fun k => by simp [Instr.sameBits, encFact, bytes_beq, beqS_iff])
theorem ext97 (w : World) (s : ByteArray) (c : Int) : (callFunc 97 [Value.string s, .int .u8 c].toArray).run Try.prog w = .ok (.value (.int .i64 (xIndexByte s c))) w := run_indexByteS Try.func97 (by kernel_rfl) (by kernel_rfl) (by kernel_rfl) (by kernel_rfl) s c w
theorem w_internal_stringslite_IndexByte (a0 : ByteArray) (a1 : Int) (r : Int) (w : World)  (hm : m_internal_stringslite_IndexByte a0 a1 = some r) :
    Gives true Try.prog 79 [(.string a0), (.int .u8 a1)] w (.int .i64 r) := by
  have hST := ST.start (dd := true) w
  unfold m_internal_stringslite_IndexByte at hm
  refine calls_of_CW (n := 8) Try.func79 rfl rfl (Nat.le_of_ble_eq_true rfl) ?_
  refine CW_seq ?_
  refine CW_region ?_
  refine LV (R_assign (v := (.int .i64 0)) rfl) ?_
  refine LW_nil ?_
  refine sq_n ?_
  refine CW_seq ?_
  refine CW_region ?_
  refine LV (R_move (v := (.string a0)) rfl) ?_
  refine LV (R_move (v := (.int .u8 a1)) rfl) ?_
  refine LE (E_ext (args := [(.string a0), (.int .u8 a1)]) (v := .int .i64 (xIndexByte a0 a1)) rfl (by exact args2 rfl rfl) (ext97 _ a0 a1) ?_)
  refine LV (R_assign (v := (.int .i64 ((xIndexByte a0 a1)))) rfl) ?_
  refine LW_nil ?_
  refine sq_n ?_
  refine CW_ret ?_
  replace hm := Option.some.inj hm; subst hm
  refine retQ_1 (v := (.int .i64 ((xIndexByte a0 a1)))) rfl rfl ?_
  exact ⟨rfl, hST.ex⟩
theorem w_strings_IndexByte (a0 : ByteArray) (a1 : Int) (r : Int) (w : World)  (hm : m_strings_IndexByte a0 a1 = some r) :
    Gives true Try.prog 60 [(.string a0), (.int .u8 a1)] w (.int .i64 r) := by
  have hST := ST.start (dd := true) w
  unfold m_strings_IndexByte at hm
  refine calls_of_CW (n := 8) Try.func60 rfl rfl (Nat.le_of_ble_eq_true rfl) ?_
  refine CW_seq ?_
  refine CW_region ?_
  refine LV (R_assign (v := (.int .i64 0)) rfl) ?_
  refine LW_nil ?_
  refine sq_n ?_
  refine CW_seq ?_
  refine CW_region ?_
  refine LV (R_move (v := (.string a0)) rfl) ?_
  refine LV (R_move (v := (.int .u8 a1)) rfl) ?_
  obtain ⟨r1, hr2, hm⟩ := bind_some hm
  refine LE (E_gives (args := [(.string a0), (.int .u8 a1)]) hST rfl Try.call79 (by exact args2 rfl rfl) ((w_internal_stringslite_IndexByte a0 a1 _ _  hr2)) (fun W3 hST => ?_))
  refine LV (R_assign (v := (.int .i64 r1)) rfl) ?_
  refine LW_nil ?_
  refine sq_n ?_
  refine CW_ret ?_
  replace hm := Option.some.inj hm; subst hm
  refine retQ_1 (v := (.int .i64 r1)) rfl rfl ?_
  exact ⟨rfl, hST.ex⟩
theorem w_name_only (a0 : ByteArray) (r : Bool) (w : World)  (hm : m_name_only a0 = some r) :
    Gives true Try.prog 61 [(.string a0)] w (.bool r) := by
  have hST := ST.start (dd := true) w
  unfold m_name_only at hm
  refine calls_of_CW (n := 16) Try.func61 rfl rfl (Nat.le_of_ble_eq_true rfl) ?_
  refine CW_seq ?_
  refine CW_region ?_
  refine LV (R_assign (v := (.bool false)) rfl) ?_
  refine LW_nil ?_
  refine sq_n ?_
  refine CW_seq ?_
  refine CW_seq ?_
  refine CW_region ?_
  refine LV (R_move (v := (.string a0)) rfl) ?_
  obtain ⟨l1, hr2, hm⟩ := bind_some hm
  refine LE (E_bytesOf hST Try.underlying9 Try.underlying106 Try.underlying5 rfl hr2 (fun W3 v4 μ5 hST hle6 hs7 hf8 => ?_))
  refine LV (R_len Try.underlying106 rfl hs7) ?_
  refine LV (R_move (v := (.int .i64 0)) rfl) ?_
  refine LW_nil ?_
  refine sq_n ?_
  refine CW_range (fun i E W => ∃  (L63 : List (Nat × Obj)), (E 8 = .int .i64 (i : Nat) ∧ E 7 = .int .i64 (l1.length : Nat)) ∧ ST true NoF w W μ5 L63 ∧ E 6 = v4 ∧ m_name_only_L1 (l1.drop i) = some r) l1.length hs7.len ⟨_, ⟨rfl, rfl⟩, (hST.sublist (List.Sublist.refl _)), rfl, hm⟩ (by decide) (by decide) (by decide) (fun _ _ _ h => by obtain ⟨_, eIN, _⟩ := h; exact eIN) ?_ ?_
  · rintro i41 E W hi47 ⟨L63, ⟨eI, eN⟩, hST, e65, hm64⟩
    obtain ⟨x42, xs43, hx45, hx44, hx46⟩ := drop_cons hi47
    rw [hx45] at hm64
    rw [m_name_only_L1] at hm64
    refine CW_block ?_
    refine CW_seq ?_
    refine CW_region ?_
    refine LQ (R_indexP (enc := (encIk .u8)) (i := (i41 : Int)) (x0 := x42) Try.underlying106 Try.sizeOf5 e65 eI hs7 (Int.natCast_nonneg _) hx44) (fun p66 hp67 => ?_)
    refine LV (R_load rfl (load_at1 hST.has (y := (.int .u8 x42)) hp67 Try.isAgg5)) ?_
    refine LV (R_assign (v := (.int .u8 x42)) rfl) ?_
    refine LW_nil ?_
    refine sq_n ?_
    refine CW_seq ?_
    refine CW_region ?_
    refine LV (R_move (v := (.int .u8 x42)) rfl) ?_
    obtain ⟨r69, hr70, hm64⟩ := bind_some hm64
    refine LE (E_gives (args := [(.string ((⟨#[97, 98, 99, 100, 101, 102, 103, 104, 105, 106, 107, 108, 109, 110, 111, 112, 113, 114, 115, 116, 117, 118, 119, 120, 121, 122, 48, 49, 50, 51, 52, 53, 54, 55, 56, 57, 45]⟩ : ByteArray))), (.int .u8 x42)]) hST rfl Try.call60 (by exact args2 rfl rfl) ((w_strings_IndexByte ((⟨#[97, 98, 99, 100, 101, 102, 103, 104, 105, 106, 107, 108, 109, 110, 111, 112, 113, 114, 115, 116, 117, 118, 119, 120, 121, 122, 48, 49, 50, 51, 52, 53, 54, 55, 56, 57, 45]⟩ : ByteArray)) x42 _ _  hr70)) (fun W71 hST => ?_))
    refine LV (R_int (k := .i64) (a := r69) (b := 0) (v := (.bool ((decide (r69 < 0))))) rfl rfl rfl) ?_
    refine LW_nil ?_
    refine sq_n ?_
    refine CW_if (b := (decide (r69 < 0))) rfl (fun hb72 => ?_) (fun hb72 => ?_)
    · replace hm64 := if_t hb72 hm64
      refine CW_seq ?_
      refine CW_region ?_
      refine LV (R_assign (v := (.bool false)) rfl) ?_
      refine LW_nil ?_
      refine sq_n ?_
      refine CW_ret ?_
      refine bq_r (sq_r (bq_r (sq_r ?_)))
      replace hm64 := Option.some.inj hm64; subst hm64
      refine retQ_1 (v := (.bool false)) rfl rfl ?_
      exact ⟨rfl, hST.ex⟩
    · replace hm64 := if_f hb72 hm64
      refine CW_skip ?_
      refine bq_n ?_
      refine sq_n ?_
      exact ⟨eI, _, ⟨rfl, eN⟩, (hST.sublist (List.Sublist.refl _)), e65, (by rw [hx46]; exact hm64)⟩
  · rintro E W ⟨L63, ⟨eI, eN⟩, hST, e65, hm64⟩
    rw [List.drop_length] at hm64
    rw [m_name_only_L1] at hm64
    refine sq_n ?_
    refine CW_seq ?_
    refine CW_region ?_
    refine LV (R_assign (v := (.bool true)) rfl) ?_
    refine LW_nil ?_
    refine sq_n ?_
    refine CW_ret ?_
    replace hm64 := Option.some.inj hm64; subst hm64
    refine retQ_1 (v := (.bool true)) rfl rfl ?_
    exact ⟨rfl, hST.ex⟩
theorem w_name_Right (a0 : ByteArray) (r : Bool) (w : World)  (hm : m_name_Right a0 = some r) :
    Gives true Try.prog 42 [(.string a0)] w (.bool r) := by
  have hST := ST.start (dd := true) w
  unfold m_name_Right at hm
  refine calls_of_CW (n := 21) Try.func42 rfl rfl (Nat.le_of_ble_eq_true rfl) ?_
  refine CW_seq ?_
  refine CW_region ?_
  refine LV (R_assign (v := (.bool false)) rfl) ?_
  refine LW_nil ?_
  refine sq_n ?_
  refine CW_seq ?_
  refine CW_region ?_
  refine LV (R_move (v := (.string a0)) rfl) ?_
  refine LV (R_lenStr (s := a0) Try.underlying9 rfl) ?_
  refine LV (R_int (k := .i64) (a := ((a0.size : Int))) (b := 1) (v := (.bool ((decide (((a0.size : Int)) ≥ 1))))) rfl rfl rfl) ?_
  refine LV (R_move (v := (.bool ((decide (((a0.size : Int)) ≥ 1))))) rfl) ?_
  obtain ⟨s45, hm46, hm47⟩ := bind_some hm
  refine LW_join (J := fun E W => ∃ (x2 : Bool) (L3 : List (Nat × Obj)), ST true NoF w W (hp w) L3 ∧ E 0 = (.string a0) ∧ E 2 = (.bool false) ∧ E 10 = (.bool x2) ∧ (((if x2 then (((idxS a0 0)).bind fun c40 => (((m_strings_IndexByte ((⟨#[97, 98, 99, 100, 101, 102, 103, 104, 105, 106, 107, 108, 109, 110, 111, 112, 113, 114, 115, 116, 117, 118, 119, 120, 121, 122]⟩ : ByteArray)) ((c40.toNat : Int)))).bind fun r42 => some ((decide (r42 ≥ 0))))) else some false) : Option Bool).bind fun x14 => (((if x14 then (((m_name_only a0)).bind fun r33 => some r33) else some false) : Option Bool).bind fun x24 => some x24)) = some r) 4 ?_ (fun key48 => ?_)
  · rintro E W ⟨x2, L3, hST, e5, e6, e7, hm4⟩
    refine LV (R_move (v := (.bool x2)) e7) ?_
    obtain ⟨s36, hm37, hm38⟩ := bind_some hm4
    refine LW_join (J := fun E W => ∃ (x14 : Bool) (L15 : List (Nat × Obj)), ST true NoF w W (hp w) L15 ∧ E 0 = (.string a0) ∧ E 2 = (.bool false) ∧ E 16 = (.bool x14) ∧ (((if x14 then (((m_name_only a0)).bind fun r33 => some r33) else some false) : Option Bool).bind fun x24 => some x24) = some r) 5 ?_ (fun key39 => ?_)
    · rintro E W ⟨x14, L15, hST, e17, e18, e19, hm16⟩
      refine LV (R_move (v := (.bool x14)) e19) ?_
      obtain ⟨s29, hm30, hm31⟩ := bind_some hm16
      refine LW_join (J := fun E W => ∃ (x24 : Bool) (L25 : List (Nat × Obj)), ST true NoF w W (hp w) L25 ∧ E 2 = (.bool false) ∧ E 20 = (.bool x24) ∧ some x24 = some r) 3 ?_ (fun key32 => ?_)
      · rintro E W ⟨x24, L25, hST, e27, e28, hm26⟩
        refine LV (R_assign (v := (.bool x24)) e28) ?_
        refine LW_nil ?_
        refine sq_n ?_
        refine CW_ret ?_
        replace hm26 := Option.some.inj hm26; subst hm26
        refine retQ_1 (v := (.bool x24)) rfl rfl ?_
        exact ⟨rfl, hST.ex⟩
      · rcases bool_cases x14 with hb20 | hb20
        · replace hm30 := if_t hb20 hm30
          refine LW_v (.inr ⟨14, true, 17, rfl, rfl, by decide, (congrArg Value.bool hb20)⟩) rfl (by decide) (R_move (v := (.string a0)) e17) ?_
          obtain ⟨r33, hr34, hm30⟩ := bind_some hm30
          refine LW_e (.inr ⟨14, true, 17, rfl, rfl, by decide, (congrArg Value.bool hb20)⟩) rfl (by decide) (E_gives (args := [(.string a0)]) hST rfl Try.call61 (by exact args1 rfl) ((w_name_only a0 _ _  hr34)) (fun W35 hST => ?_))
          refine LV (R_pickT (v := (.bool r33)) (congrArg Value.bool hb20) rfl) ?_
          replace hm30 := Option.some.inj hm30; subst hm30
          exact key32 _ _ ⟨r33, _, (hST.sublist (List.Sublist.refl _)), e18, rfl, hm31⟩
        · replace hm30 := if_f hb20 hm30
          refine LW_no rfl (by decide) rfl rfl (by decide) (congrArg Value.bool hb20) ?_
          refine LW_no rfl (by decide) rfl rfl (by decide) (congrArg Value.bool hb20) ?_
          refine LV (R_pickF (v := (.bool false)) (congrArg Value.bool hb20) rfl) ?_
          replace hm30 := Option.some.inj hm30; subst hm30
          exact key32 _ _ ⟨false, _, (hST.sublist (List.Sublist.refl _)), e18, rfl, hm31⟩
    · rcases bool_cases x2 with hb8 | hb8
      · replace hm37 := if_t hb8 hm37
        refine LW_v (.inr ⟨8, true, 11, rfl, rfl, by decide, (congrArg Value.bool hb8)⟩) rfl (by decide) (R_move (v := (.string a0)) e5) ?_
        obtain ⟨c40, hx41, hm37⟩ := bind_some hm37
        refine LW_v (.inr ⟨8, true, 11, rfl, rfl, by decide, (congrArg Value.bool hb8)⟩) rfl (by decide) (R_indexStr (i := 0) Try.underlying9 rfl rfl (idxS_nonneg hx41) (idxS_get hx41)) ?_
        obtain ⟨r42, hr43, hm37⟩ := bind_some hm37
        refine LW_e (.inr ⟨8, true, 11, rfl, rfl, by decide, (congrArg Value.bool hb8)⟩) rfl (by decide) (E_gives (args := [(.string ((⟨#[97, 98, 99, 100, 101, 102, 103, 104, 105, 106, 107, 108, 109, 110, 111, 112, 113, 114, 115, 116, 117, 118, 119, 120, 121, 122]⟩ : ByteArray))), (.int .u8 ((c40.toNat : Int)))]) hST rfl Try.call60 (by exact args2 rfl rfl) ((w_strings_IndexByte ((⟨#[97, 98, 99, 100, 101, 102, 103, 104, 105, 106, 107, 108, 109, 110, 111, 112, 113, 114, 115, 116, 117, 118, 119, 120, 121, 122]⟩ : ByteArray)) ((c40.toNat : Int)) _ _  hr43)) (fun W44 hST => ?_))
        refine LW_v (.inr ⟨8, true, 11, rfl, rfl, by decide, (congrArg Value.bool hb8)⟩) rfl (by decide) (R_int (k := .i64) (a := r42) (b := 0) (v := (.bool ((decide (r42 ≥ 0))))) rfl rfl rfl) ?_
        refine LV (R_pickT (v := (.bool ((decide (r42 ≥ 0))))) (congrArg Value.bool hb8) rfl) ?_
        replace hm37 := Option.some.inj hm37; subst hm37
        exact key39 _ _ ⟨((decide (r42 ≥ 0))), _, (hST.sublist (List.Sublist.refl _)), e5, e6, rfl, hm38⟩
      · replace hm37 := if_f hb8 hm37
        refine LW_no rfl (by decide) rfl rfl (by decide) (congrArg Value.bool hb8) ?_
        refine LW_no rfl (by decide) rfl rfl (by decide) (congrArg Value.bool hb8) ?_
        refine LW_no rfl (by decide) rfl rfl (by decide) (congrArg Value.bool hb8) ?_
        refine LW_no rfl (by decide) rfl rfl (by decide) (congrArg Value.bool hb8) ?_
        refine LV (R_pickF (v := (.bool false)) (congrArg Value.bool hb8) rfl) ?_
        replace hm37 := Option.some.inj hm37; subst hm37
        exact key39 _ _ ⟨false, _, (hST.sublist (List.Sublist.refl _)), e5, e6, rfl, hm38⟩
  · rcases bool_cases ((decide (((a0.size : Int)) ≥ 1))) with hb1 | hb1
    · replace hm46 := if_t hb1 hm46
      refine LW_v (.inr ⟨3, true, 6, rfl, rfl, by decide, (congrArg Value.bool hb1)⟩) rfl (by decide) (R_move (v := (.string a0)) rfl) ?_
      refine LW_v (.inr ⟨3, true, 6, rfl, rfl, by decide, (congrArg Value.bool hb1)⟩) rfl (by decide) (R_lenStr (s := a0) Try.underlying9 rfl) ?_
      refine LW_v (.inr ⟨3, true, 6, rfl, rfl, by decide, (congrArg Value.bool hb1)⟩) rfl (by decide) (R_int (k := .i64) (a := ((a0.size : Int))) (b := 16) (v := (.bool ((decide (((a0.size : Int)) ≤ 16))))) rfl rfl rfl) ?_
      refine LV (R_pickT (v := (.bool ((decide (((a0.size : Int)) ≤ 16))))) (congrArg Value.bool hb1) rfl) ?_
      replace hm46 := Option.some.inj hm46; subst hm46
      exact key48 _ _ ⟨((decide (((a0.size : Int)) ≤ 16))), _, (hST.sublist (List.Sublist.refl _)), rfl, rfl, rfl, hm47⟩
    · replace hm46 := if_f hb1 hm46
      refine LW_no rfl (by decide) rfl rfl (by decide) (congrArg Value.bool hb1) ?_
      refine LW_no rfl (by decide) rfl rfl (by decide) (congrArg Value.bool hb1) ?_
      refine LW_no rfl (by decide) rfl rfl (by decide) (congrArg Value.bool hb1) ?_
      refine LV (R_pickF (v := (.bool false)) (congrArg Value.bool hb1) rfl) ?_
      replace hm46 := Option.some.inj hm46; subst hm46
      exact key48 _ _ ⟨false, _, (hST.sublist (List.Sublist.refl _)), rfl, rfl, rfl, hm47⟩
theorem w_role_Right (a0 : Role) (r : Bool) (w : World)  (hm : m_role_Right a0 = some r) :
    Gives true Try.prog 41 [(.agg (encRole a0).toArray)] w (.bool r) := by
  have hST := ST.start (dd := true) w
  unfold m_role_Right at hm
  refine calls_of_CW (n := 11) Try.func41 rfl rfl (Nat.le_of_ble_eq_true rfl) ?_
  refine CW_seq ?_
  refine CW_region ?_
  refine LE (E_box (v := (.agg (encRole a0).toArray)) hST rfl (fun W2 b1 hST => ?_))
  refine LV (R_assign (v := (.bool false)) rfl) ?_
  refine LW_nil ?_
  refine sq_n ?_
  refine CW_seq ?_
  refine CW_region ?_
  refine LV (R_field fa34_0 rfl) ?_
  refine LV (R_load (v := (.string a0.Owner)) rfl (load_box1 hST.has (.head _) rfl Try.isAgg9)) ?_
  obtain ⟨r3, hr4, hm⟩ := bind_some hm
  refine LE (E_gives (args := [(.string a0.Owner)]) hST rfl Try.call42 (by exact args1 rfl) ((w_name_Right a0.Owner _ _  hr4)) (fun W5 hST => ?_))
  refine LV (R_move (v := (.bool r3)) rfl) ?_
  obtain ⟨s15, hm16, hm17⟩ := bind_some hm
  refine LW_join (J := fun E W => ∃ (x10 : Bool) (L11 : List (Nat × Obj)), ST true NoF w W (hp w) L11 ∧ E 2 = (.bool false) ∧ E 10 = (.bool x10) ∧ some x10 = some r) 4 ?_ (fun key18 => ?_)
  · rintro E W ⟨x10, L11, hST, e13, e14, hm12⟩
    refine LV (R_assign (v := (.bool x10)) e14) ?_
    refine LW_nil ?_
    refine sq_n ?_
    refine CW_ret ?_
    replace hm12 := Option.some.inj hm12; subst hm12
    refine retQ_1 (v := (.bool x10)) rfl rfl ?_
    exact ⟨rfl, hST.ex⟩
  · rcases bool_cases r3 with hb6 | hb6
    · replace hm16 := if_t hb6 hm16
      refine LW_v (.inr ⟨3, true, 6, rfl, rfl, by decide, (congrArg Value.bool hb6)⟩) rfl (by decide) (R_field fa34_1 rfl) ?_
      refine LW_v (.inr ⟨3, true, 6, rfl, rfl, by decide, (congrArg Value.bool hb6)⟩) rfl (by decide) (R_load (v := (.string a0.Word)) rfl (load_box1 hST.has (.head _) rfl Try.isAgg9)) ?_
      obtain ⟨r19, hr20, hm16⟩ := bind_some hm16
      refine LW_e (.inr ⟨3, true, 6, rfl, rfl, by decide, (congrArg Value.bool hb6)⟩) rfl (by decide) (E_gives (args := [(.string a0.Word)]) hST rfl Try.call42 (by exact args1 rfl) ((w_name_Right a0.Word _ _  hr20)) (fun W21 hST => ?_))
      refine LV (R_pickT (v := (.bool r19)) (congrArg Value.bool hb6) rfl) ?_
      replace hm16 := Option.some.inj hm16; subst hm16
      exact key18 _ _ ⟨r19, _, (hST.sublist (List.Sublist.cons _ (List.Sublist.refl _))), rfl, rfl, hm17⟩
    · replace hm16 := if_f hb6 hm16
      refine LW_no rfl (by decide) rfl rfl (by decide) (congrArg Value.bool hb6) ?_
      refine LW_no rfl (by decide) rfl rfl (by decide) (congrArg Value.bool hb6) ?_
      refine LW_no rfl (by decide) rfl rfl (by decide) (congrArg Value.bool hb6) ?_
      refine LV (R_pickF (v := (.bool false)) (congrArg Value.bool hb6) rfl) ?_
      replace hm16 := Option.some.inj hm16; subst hm16
      exact key18 _ _ ⟨false, _, (hST.sublist (List.Sublist.cons _ (List.Sublist.refl _))), rfl, rfl, hm17⟩
theorem ext74 (w : World) (a b : ByteArray) : (callFunc 74 [Value.string a, .string b].toArray).run Try.prog w = .ok (.value (.int .i64 (xCompareS a b))) w := run_cmpS Try.func74 (by kernel_rfl) (by kernel_rfl) (by kernel_rfl) (by kernel_rfl) a b w
theorem w_internal_bytealg_CompareString (a0 : ByteArray) (a1 : ByteArray) (r : Int) (w : World)  (hm : m_internal_bytealg_CompareString a0 a1 = some r) :
    Gives true Try.prog 49 [(.string a0), (.string a1)] w (.int .i64 r) := by
  have hST := ST.start (dd := true) w
  unfold m_internal_bytealg_CompareString at hm
  refine calls_of_CW (n := 8) Try.func49 rfl rfl (Nat.le_of_ble_eq_true rfl) ?_
  refine CW_seq ?_
  refine CW_region ?_
  refine LV (R_assign (v := (.int .i64 0)) rfl) ?_
  refine LW_nil ?_
  refine sq_n ?_
  refine CW_seq ?_
  refine CW_region ?_
  refine LV (R_move (v := (.string a0)) rfl) ?_
  refine LV (R_move (v := (.string a1)) rfl) ?_
  refine LE (E_ext (args := [(.string a0), (.string a1)]) (v := .int .i64 (xCompareS a0 a1)) rfl (by exact args2 rfl rfl) (ext74 _ a0 a1) ?_)
  refine LV (R_assign (v := (.int .i64 ((xCompareS a0 a1)))) rfl) ?_
  refine LW_nil ?_
  refine sq_n ?_
  refine CW_ret ?_
  replace hm := Option.some.inj hm; subst hm
  refine retQ_1 (v := (.int .i64 ((xCompareS a0 a1)))) rfl rfl ?_
  exact ⟨rfl, hST.ex⟩
theorem w_strings_Compare (a0 : ByteArray) (a1 : ByteArray) (r : Int) (w : World)  (hm : m_strings_Compare a0 a1 = some r) :
    Gives true Try.prog 31 [(.string a0), (.string a1)] w (.int .i64 r) := by
  have hST := ST.start (dd := true) w
  unfold m_strings_Compare at hm
  refine calls_of_CW (n := 8) Try.func31 rfl rfl (Nat.le_of_ble_eq_true rfl) ?_
  refine CW_seq ?_
  refine CW_region ?_
  refine LV (R_assign (v := (.int .i64 0)) rfl) ?_
  refine LW_nil ?_
  refine sq_n ?_
  refine CW_seq ?_
  refine CW_region ?_
  refine LV (R_move (v := (.string a0)) rfl) ?_
  refine LV (R_move (v := (.string a1)) rfl) ?_
  obtain ⟨r1, hr2, hm⟩ := bind_some hm
  refine LE (E_gives (args := [(.string a0), (.string a1)]) hST rfl Try.call49 (by exact args2 rfl rfl) ((w_internal_bytealg_CompareString a0 a1 _ _  hr2)) (fun W3 hST => ?_))
  refine LV (R_assign (v := (.int .i64 r1)) rfl) ?_
  refine LW_nil ?_
  refine sq_n ?_
  refine CW_ret ?_
  replace hm := Option.some.inj hm; subst hm
  refine retQ_1 (v := (.int .i64 r1)) rfl rfl ?_
  exact ⟨rfl, hST.ex⟩
theorem w_cmp_Or_int (v_a0 : Value) (a0 : List Int) (r : Int) (w : World) (h_a0 : Sl (Pl (encIk .i64)) 1 (hp w) v_a0 a0) (hm : m_cmp_Or_int a0 = some r) :
    Gives true Try.prog 29 [v_a0] w (.int .i64 r) := by
  have hST := ST.start (dd := true) w
  unfold m_cmp_Or_int at hm
  refine calls_of_CW (n := 18) Try.func29 rfl rfl (Nat.le_of_ble_eq_true rfl) ?_
  refine CW_seq ?_
  refine CW_region ?_
  refine LV (R_assign (v := (.int .i64 0)) rfl) ?_
  refine LW_nil ?_
  refine sq_n ?_
  refine CW_seq ?_
  refine CW_region ?_
  refine LV (R_assign (v := (.int .i64 0)) rfl) ?_
  refine LW_nil ?_
  refine sq_n ?_
  refine CW_seq ?_
  refine CW_seq ?_
  refine CW_region ?_
  refine LV (R_move (v := v_a0) rfl) ?_
  refine LV (R_len Try.underlying83 rfl h_a0) ?_
  refine LV (R_move (v := (.int .i64 0)) rfl) ?_
  refine LW_nil ?_
  refine sq_n ?_
  refine CW_range (fun i E W => ∃  (L43 : List (Nat × Obj)), (E 8 = .int .i64 (i : Nat) ∧ E 7 = .int .i64 (a0.length : Nat)) ∧ ST true NoF w W (hp w) L43 ∧ E 3 = (.int .i64 0) ∧ E 6 = v_a0 ∧ m_cmp_Or_int_L1 (a0.drop i) = some r) a0.length h_a0.len ⟨_, ⟨rfl, rfl⟩, (hST.sublist (List.Sublist.refl _)), rfl, rfl, hm⟩ (by decide) (by decide) (by decide) (fun _ _ _ h => by obtain ⟨_, eIN, _⟩ := h; exact eIN) ?_ ?_
  · rintro i26 E W hi32 ⟨L43, ⟨eI, eN⟩, hST, e45, e46, hm44⟩
    obtain ⟨x27, xs28, hx30, hx29, hx31⟩ := drop_cons hi32
    rw [hx30] at hm44
    rw [m_cmp_Or_int_L1] at hm44
    refine CW_block ?_
    refine CW_seq ?_
    refine CW_region ?_
    refine LQ (R_indexP (enc := (encIk .i64)) (i := (i26 : Int)) (x0 := x27) Try.underlying83 Try.sizeOf3 e46 eI h_a0 (Int.natCast_nonneg _) hx29) (fun p47 hp48 => ?_)
    refine LV (R_load rfl (load_at1 hST.has (y := (.int .i64 x27)) hp48 Try.isAgg3)) ?_
    refine LV (R_assign (v := (.int .i64 x27)) rfl) ?_
    refine LW_nil ?_
    refine sq_n ?_
    refine CW_seq ?_
    refine CW_region ?_
    refine LV (R_move (v := (.int .i64 x27)) rfl) ?_
    refine LV (R_move (v := (.int .i64 0)) e45) ?_
    refine LV (R_int (k := .i64) (a := x27) (b := 0) (v := (.bool ((x27 != 0)))) rfl rfl rfl) ?_
    refine LW_nil ?_
    refine sq_n ?_
    refine CW_if (b := (x27 != 0)) rfl (fun hb50 => ?_) (fun hb50 => ?_)
    · replace hm44 := if_t hb50 hm44
      refine CW_seq ?_
      refine CW_region ?_
      refine LV (R_move (v := (.int .i64 x27)) rfl) ?_
      refine LV (R_assign (v := (.int .i64 x27)) rfl) ?_
      refine LW_nil ?_
      refine sq_n ?_
      refine CW_ret ?_
      refine bq_r (sq_r (bq_r (sq_r ?_)))
      replace hm44 := Option.some.inj hm44; subst hm44
      refine retQ_1 (v := (.int .i64 x27)) rfl rfl ?_
      exact ⟨rfl, hST.ex⟩
    · replace hm44 := if_f hb50 hm44
      refine CW_skip ?_
      refine bq_n ?_
      refine sq_n ?_
      exact ⟨eI, _, ⟨rfl, eN⟩, (hST.sublist (List.Sublist.refl _)), e45, e46, (by rw [hx31]; exact hm44)⟩
  · rintro E W ⟨L43, ⟨eI, eN⟩, hST, e45, e46, hm44⟩
    rw [List.drop_length] at hm44
    rw [m_cmp_Or_int_L1] at hm44
    refine sq_n ?_
    refine CW_seq ?_
    refine CW_region ?_
    refine LV (R_move (v := (.int .i64 0)) e45) ?_
    refine LV (R_assign (v := (.int .i64 0)) rfl) ?_
    refine LW_nil ?_
    refine sq_n ?_
    refine CW_ret ?_
    replace hm44 := Option.some.inj hm44; subst hm44
    refine retQ_1 (v := (.int .i64 0)) rfl rfl ?_
    exact ⟨rfl, hST.ex⟩
theorem w_role_Compare (a0 : Role) (a1 : Role) (r : Int) (w : World)  (hm : m_role_Compare a0 a1 = some r) :
    Gives true Try.prog 30 [(.agg (encRole a0).toArray), (.agg (encRole a1).toArray)] w (.int .i64 r) := by
  have hST := ST.start (dd := true) w
  unfold m_role_Compare at hm
  refine calls_of_CW (n := 17) Try.func30 rfl rfl (Nat.le_of_ble_eq_true rfl) ?_
  refine CW_seq ?_
  refine CW_region ?_
  refine LE (E_box (v := (.agg (encRole a0).toArray)) hST rfl (fun W2 b1 hST => ?_))
  refine LE (E_box (v := (.agg (encRole a1).toArray)) hST rfl (fun W4 b3 hST => ?_))
  refine LV (R_assign (v := (.int .i64 0)) rfl) ?_
  refine LW_nil ?_
  refine sq_n ?_
  refine CW_seq ?_
  refine PX_start (fun l W => Has (hp w) ((b3, Obj.cells ((encRole a1).toArray : Array Value) 34 (0, 0)) :: ((b1, Obj.cells ((encRole a0).toArray : Array Value) 34 (0, 0)) :: [])) W) Try_mixed ?_
  replace hST := hST.drew
  have hS0 : Has (hp w) ((b3, Obj.cells ((encRole a1).toArray : Array Value) 34 (0, 0)) :: ((b1, Obj.cells ((encRole a0).toArray : Array Value) 34 (0, 0)) :: [])) _ := hST.has.sub (Sub.refl _) (fun p hq => ((List.mem_cons.1 hq).elim (fun hq => by rw [hq]; exact (.head _)) (fun hq => ((List.mem_cons.1 hq).elim (fun hq => by rw [hq]; exact (.tail _ (.head _))) (fun hq => (absurd hq List.not_mem_nil))))))
  refine PV 0 rfl hS0 (R_field fa34_0 rfl) ?_
  refine PX_v 1 rfl (by kernel_rfl) (.inl rfl) rfl (by decide) (fun _ _ h => h) hS0 (fun l W hpd hs => have hS := hs; R_load (v := (.string a0.Owner)) rfl (load_box1 hS (.tail _ (.head _)) rfl Try.isAgg9)) ?_
  refine PV 2 rfl hS0 (R_field fa34_0 rfl) ?_
  refine PX_v 3 rfl (by kernel_rfl) (.inl rfl) rfl (by decide) (fun _ _ h => h) hS0 (fun l W hpd hs => have hS := hs; R_load (v := (.string a1.Owner)) rfl (load_box1 hS (.head _) rfl Try.isAgg9)) ?_
  refine PV 5 rfl hS0 (R_field fa34_1 rfl) ?_
  refine PX_v 6 rfl (by kernel_rfl) (.inl rfl) rfl (by decide) (fun _ _ h => h) hS0 (fun l W hpd hs => have hS := hs; R_load (v := (.string a0.Word)) rfl (load_box1 hS (.tail _ (.head _)) rfl Try.isAgg9)) ?_
  refine PV 7 rfl hS0 (R_field fa34_1 rfl) ?_
  refine PX_v 8 rfl (by kernel_rfl) (.inl rfl) rfl (by decide) (fun _ _ h => h) hS0 (fun l W hpd hs => have hS := hs; R_load (v := (.string a1.Word)) rfl (load_box1 hS (.head _) rfl Try.isAgg9)) ?_
  obtain ⟨r27, hr28, hm⟩ := bind_some hm
  refine PX_e 4 rfl (by kernel_rfl) (.inl rfl) rfl (by decide) (E_gives (args := [(.string a0.Owner), (.string a1.Owner)]) hST rfl Try.call31 (by exact args2 rfl rfl) ((w_strings_Compare a0.Owner a1.Owner _ _  hr28)) (fun W29 hST => ?_))
  have hS0 : Has (hp w) ((b3, Obj.cells ((encRole a1).toArray : Array Value) 34 (0, 0)) :: ((b1, Obj.cells ((encRole a0).toArray : Array Value) 34 (0, 0)) :: [])) _ := hST.has.sub (Sub.refl _) (fun p hq => ((List.mem_cons.1 hq).elim (fun hq => by rw [hq]; exact (.head _)) (fun hq => ((List.mem_cons.1 hq).elim (fun hq => by rw [hq]; exact (.tail _ (.head _))) (fun hq => (absurd hq List.not_mem_nil))))))
  refine ⟨hS0, ?_⟩
  obtain ⟨r30, hr31, hm⟩ := bind_some hm
  refine PX_e 9 rfl (by kernel_rfl) (.inl rfl) rfl (by decide) (E_gives (args := [(.string a0.Word), (.string a1.Word)]) hST rfl Try.call31 (by exact args2 rfl rfl) ((w_strings_Compare a0.Word a1.Word _ _  hr31)) (fun W32 hST => ?_))
  have hS0 : Has (hp w) ((b3, Obj.cells ((encRole a1).toArray : Array Value) 34 (0, 0)) :: ((b1, Obj.cells ((encRole a0).toArray : Array Value) 34 (0, 0)) :: [])) _ := hST.has.sub (Sub.refl _) (fun p hq => ((List.mem_cons.1 hq).elim (fun hq => by rw [hq]; exact (.head _)) (fun hq => ((List.mem_cons.1 hq).elim (fun hq => by rw [hq]; exact (.tail _ (.head _))) (fun hq => (absurd hq List.not_mem_nil))))))
  refine ⟨hS0, ?_⟩
  refine PX_e 10 rfl (by kernel_rfl) (.inl rfl) rfl (by decide) (E_buildSlice (qs := #[(0, (.int .i64 r27)), (1, (.int .i64 r30))]) (cs := #[(.int .i64 r27), (.int .i64 r30)]) hST (parts2 rfl rfl) (run_lit [(.int .i64 r27), (.int .i64 r30)] Try.underlying83 Try.sizeOf3 Try.zeroValue3 (by decide) rfl (by intro v hv; simp only [List.mem_cons, List.not_mem_nil, or_false] at hv; rcases hv with rfl | rfl <;> rfl) rfl rfl) (fun W34 b33 hST => ?_))
  have hS0 : Has (hp w) ((b3, Obj.cells ((encRole a1).toArray : Array Value) 34 (0, 0)) :: ((b1, Obj.cells ((encRole a0).toArray : Array Value) 34 (0, 0)) :: [])) _ := hST.has.sub (Sub.refl _) (fun p hq => ((List.mem_cons.1 hq).elim (fun hq => by rw [hq]; exact (.tail _ (.head _))) (fun hq => ((List.mem_cons.1 hq).elim (fun hq => by rw [hq]; exact (.tail _ (.tail _ (.head _)))) (fun hq => (absurd hq List.not_mem_nil))))))
  refine ⟨hS0, ?_⟩
  obtain ⟨r35, hr36, hm⟩ := bind_some hm
  refine PX_e 11 rfl (by kernel_rfl) (.inl rfl) rfl (by decide) (E_gives (args := [(.slice (some ⟨b33, 0, none⟩) 2 2)]) hST rfl Try.call29 (by exact args1 rfl) ((w_cmp_Or_int (.slice (some ⟨b33, 0, none⟩) 2 2) ([r27, r30]) _ _ (Sl.lit (enc := (encIk .i64)) (l := [r27, r30]) (fun _ => rfl) rfl (Nat.le_of_ble_eq_true rfl) rfl (hST.at_ (.head _))) hr36)) (fun W37 hST => ?_))
  have hS0 : Has (hp w) ((b3, Obj.cells ((encRole a1).toArray : Array Value) 34 (0, 0)) :: ((b1, Obj.cells ((encRole a0).toArray : Array Value) 34 (0, 0)) :: [])) _ := hST.has.sub (Sub.refl _) (fun p hq => ((List.mem_cons.1 hq).elim (fun hq => by rw [hq]; exact (.tail _ (.head _))) (fun hq => ((List.mem_cons.1 hq).elim (fun hq => by rw [hq]; exact (.tail _ (.tail _ (.head _)))) (fun hq => (absurd hq List.not_mem_nil))))))
  refine ⟨hS0, ?_⟩
  refine PV 12 rfl hS0 (R_assign (v := (.int .i64 r35)) rfl) ?_
  refine PX_done (by kernel_rfl) ?_
  refine sq_n ?_
  replace hST : ST true NoF w _ _ [] := hST.sublist (List.Sublist.cons _ (List.Sublist.cons _ (List.Sublist.cons _ (List.Sublist.refl _))))
  refine CW_ret ?_
  replace hm := Option.some.inj hm; subst hm
  refine retQ_1 (v := (.int .i64 r35)) rfl rfl ?_
  exact ⟨rfl, hST.ex⟩
theorem w_cred_Right (a0 : Cred) (r : Bool) (w : World)  (hm : m_cred_Right a0 = some r) :
    Gives true Try.prog 22 [(.agg (encCred a0).toArray)] w (.bool r) := by
  have hST := ST.start (dd := true) w
  unfold m_cred_Right at hm
  refine calls_of_CW (n := 98) Try.func22 rfl rfl (Nat.le_of_ble_eq_true rfl) ?_
  refine CW_seq ?_
  refine CW_region ?_
  refine LE (E_box (v := (.agg (encCred a0).toArray)) hST rfl (fun W2 b1 hST => ?_))
  refine LV (R_assign (v := (.bool false)) rfl) ?_
  refine LW_nil ?_
  refine sq_n ?_
  refine CW_seq ?_
  refine CW_region ?_
  refine LV (R_field fa36_0 rfl) ?_
  refine LV (R_load (v := (.int .i64 a0.Kind)) rfl (load_box1 hST.has (.head _) rfl Try.isAgg3)) ?_
  refine LV (R_field fa36_1 rfl) ?_
  refine LV (R_load (v := (.agg (encRole a0.Head).toArray)) rfl (load_boxA hST.has (.head _) (encRole a0.Head) rfl Try.isAgg34 Try.sizeOf34)) ?_
  refine LV (R_build (qs := #[(0, (.int .i64 a0.Kind)), (1, (.agg (encRole a0.Head).toArray))]) (v := (.agg (encCred ((⟨a0.Kind, a0.Head, zS, (⟨zS, zS⟩ : Role), (⟨zS, zS⟩ : Role), zS⟩ : Cred))).toArray)) (parts2 rfl rfl) (run_build Try.zeroValue36 Try.underlying36 (pl36 _ Try.underlying36) (by kernel_rfl))) ?_
  refine LE (E_alloc hST Try.zeroValue36 (fun W4 b3 hST => ?_))
  refine LW_e0 (.inl rfl) rfl (E_store [] (.agg (encCred ((⟨a0.Kind, a0.Head, zS, (⟨zS, zS⟩ : Role), (⟨zS, zS⟩ : Role), zS⟩ : Cred))).toArray) ((encCred ((⟨a0.Kind, a0.Head, zS, (⟨zS, zS⟩ : Role), (⟨zS, zS⟩ : Role), zS⟩ : Cred))).toArray) hST rfl rfl Try.sizeOf36 (oneCred ((⟨a0.Kind, a0.Head, zS, (⟨zS, zS⟩ : Role), (⟨zS, zS⟩ : Role), zS⟩ : Cred))) (Nat.le_of_ble_eq_true rfl) rfl (fun W5 hST => ?_))
  refine LW_nil ?_
  refine sq_n ?_
  refine CW_seq ?_
  refine CW_region ?_
  refine LV (R_field fa36_1 rfl) ?_
  refine LV (R_load (v := (.agg (encRole a0.Head).toArray)) rfl (load_boxA hST.has (.tail _ (.head _)) (encRole a0.Head) rfl Try.isAgg34 Try.sizeOf34)) ?_
  replace hST : ST true NoF w _ _ ((b3, Obj.cells ((encCred ((⟨a0.Kind, a0.Head, zS, (⟨zS, zS⟩ : Role), (⟨zS, zS⟩ : Role), zS⟩ : Cred))).toArray : Array Value) 36 (0, 0)) :: ((b1, Obj.cells ((encCred a0).toArray : Array Value) 36 (0, 0)) :: [])) := hST
  obtain ⟨r6, hr7, hm⟩ := bind_some hm
  refine LE (E_gives (args := [(.agg (encRole a0.Head).toArray)]) hST rfl Try.call41 (by exact args1 rfl) ((w_role_Right a0.Head _ _  hr7)) (fun W8 hST => ?_))
  refine LV (R_assign (v := (.bool r6)) rfl) ?_
  refine LW_nil ?_
  refine sq_n ?_
  refine CW_seq ?_
  obtain ⟨s267, hm268, hm269⟩ := bind_some hm
  refine CW_cut (fun E W => ∃ (x251 : Bool) (x252 : Cred) (L253 : List (Nat × Obj)), ST true NoF w W (hp w) ((b3, Obj.cells ((encCred x252).toArray : Array Value) 36 (0, 0)) :: ((b1, Obj.cells ((encCred a0).toArray : Array Value) 36 (0, 0)) :: L253)) ∧ E 1 = (.pointer (some ⟨b1, 0, none⟩)) ∧ E 3 = (.pointer (some ⟨b3, 0, none⟩)) ∧ E 4 = (.bool x251) ∧ (((if x251 then some ((beqCred x252 a0)) else some false) : Option Bool).bind fun x259 => some x259) = some r) ?_ ?_
  · refine CW_seq ?_
    refine CW_region ?_
    refine LV (R_field fa36_0 rfl) ?_
    refine LV (R_load (v := (.int .i64 a0.Kind)) rfl (load_box1 hST.has (.tail _ (.head _)) rfl Try.isAgg3)) ?_
    refine LW_nil ?_
    refine sq_n ?_
    refine CW_block ?_
    refine CW_seq ?_
    refine CW_region ?_
    refine LV (R_int (k := .i64) (a := a0.Kind) (b := 1) (v := (.bool ((a0.Kind == 1)))) rfl rfl rfl) ?_
    refine LV (R_assign (v := (.bool ((a0.Kind == 1)))) rfl) ?_
    refine LW_nil ?_
    refine sq_n ?_
    refine CW_if (b := (a0.Kind == 1)) rfl (fun hb270 => ?_) (fun hb270 => ?_)
    · replace hm268 := if_t hb270 hm268
      refine PX_start (fun l W => Has (hp w) ((b1, Obj.cells ((encCred a0).toArray : Array Value) 36 (0, 0)) :: []) W) Try_mixed ?_
      replace hST := hST.drew
      have hS0 : Has (hp w) ((b1, Obj.cells ((encCred a0).toArray : Array Value) 36 (0, 0)) :: []) _ := hST.has.sub (Sub.refl _) (fun p hq => ((List.mem_cons.1 hq).elim (fun hq => by rw [hq]; exact (.tail _ (.head _))) (fun hq => (absurd hq List.not_mem_nil))))
      refine PV 0 rfl hS0 (R_field fa36_2 rfl) ?_
      refine PX_v 1 rfl (by kernel_rfl) (.inl rfl) rfl (by decide) (fun _ _ h => h) hS0 (fun l W hpd hs => have hS := hs; R_load (v := (.string a0.Who)) rfl (load_box1 hS (.head _) rfl Try.isAgg9)) ?_
      refine PV 2 rfl hS0 (R_move (v := (.bool r6)) rfl) ?_
      refine PV 3 rfl hS0 (R_move (v := (.bool r6)) rfl) ?_
      refine PV 8 rfl hS0 (R_field fa36_2 rfl) ?_
      obtain ⟨s326, hm327, hm328⟩ := bind_some hm268
      refine PX_join (J := fun E W => ∃ (x316 : Bool) (L317 : List (Nat × Obj)), ST true NoF w W (hp w) ((b3, Obj.cells ((encCred ((⟨a0.Kind, a0.Head, zS, (⟨zS, zS⟩ : Role), (⟨zS, zS⟩ : Role), zS⟩ : Cred))).toArray : Array Value) 36 (0, 0)) :: ((b1, Obj.cells ((encCred a0).toArray : Array Value) 36 (0, 0)) :: L317)) ∧ E 1 = (.pointer (some ⟨b1, 0, none⟩)) ∧ E 3 = (.pointer (some ⟨b3, 0, none⟩)) ∧ E 4 = (.bool r6) ∧ E 18 = (.string a0.Who) ∧ E 24 = (.bool x316) ∧ E 25 = (.pointer (some ⟨b3, 3, none⟩)) ∧ some (Sum.inr (x316, ((⟨a0.Kind, a0.Head, a0.Who, (⟨zS, zS⟩ : Role), (⟨zS, zS⟩ : Role), zS⟩ : Cred)))) = some s267) #[true, true, true, true, true, true, true, true, true, false, false] 2 ?_ (fun key329 => ?_)
      · rintro E W ⟨x316, L317, hST, e319, e320, e321, e322, e323, e324, hm318⟩
        have hS0 : Has (hp w) ((b1, Obj.cells ((encCred a0).toArray : Array Value) 36 (0, 0)) :: []) _ := hST.has.sub (Sub.refl _) (fun p hq => ((List.mem_cons.1 hq).elim (fun hq => by rw [hq]; exact (.tail _ (.head _))) (fun hq => (absurd hq List.not_mem_nil))))
        refine PX_e0 9 rfl (by kernel_rfl) (.inl rfl) rfl (E_store [] (.string a0.Who) ((encCred ((⟨a0.Kind, a0.Head, a0.Who, (⟨zS, zS⟩ : Role), (⟨zS, zS⟩ : Role), zS⟩ : Cred))).toArray) hST e324 e322 Try.sizeOf9 (oneS a0.Who) (Nat.le_of_ble_eq_true rfl) rfl (fun W325 hST => ?_))
        replace hST : ST true NoF w _ _ ((b3, Obj.cells ((encCred ((⟨a0.Kind, a0.Head, a0.Who, (⟨zS, zS⟩ : Role), (⟨zS, zS⟩ : Role), zS⟩ : Cred))).toArray : Array Value) 36 (0, 0)) :: ((b1, Obj.cells ((encCred a0).toArray : Array Value) 36 (0, 0)) :: L317)) := hST
        have hS0 : Has (hp w) ((b1, Obj.cells ((encCred a0).toArray : Array Value) 36 (0, 0)) :: []) _ := hST.has.sub (Sub.refl _) (fun p hq => ((List.mem_cons.1 hq).elim (fun hq => by rw [hq]; exact (.tail _ (.head _))) (fun hq => (absurd hq List.not_mem_nil))))
        refine ⟨hS0, ?_⟩
        refine PV 10 rfl hS0 (R_assign (v := (.bool x316)) e323) ?_
        refine PX_done (by kernel_rfl) ?_
        refine bq_n ?_
        refine sq_n ?_
        replace hm318 := Option.some.inj hm318; subst hm318
        exact ⟨x316, ((⟨a0.Kind, a0.Head, a0.Who, (⟨zS, zS⟩ : Role), (⟨zS, zS⟩ : Role), zS⟩ : Cred)), _, (hST.sublist (List.Sublist.refl _)), e319, e320, rfl, hm269⟩
      · rcases bool_cases r6 with hb312 | hb312
        · replace hm327 := if_t hb312 hm327
          refine PX_v 4 rfl (by kernel_rfl) (.inr ⟨3, true, 20, rfl, rfl, by decide, (congrArg Value.bool hb312)⟩) rfl (by decide) (fun _ _ h => h) hS0 (fun _ _ _ _ => R_field fa36_2 rfl) ?_
          refine PX_v 5 rfl (by kernel_rfl) (.inr ⟨3, true, 20, rfl, rfl, by decide, (congrArg Value.bool hb312)⟩) rfl (by decide) (fun _ _ h => h) hS0 (fun l W hpd hs => have hS := hs; R_load (v := (.string a0.Who)) rfl (load_box1 hS (.head _) rfl Try.isAgg9)) ?_
          obtain ⟨r330, hr331, hm327⟩ := bind_some hm327
          refine PX_e 6 rfl (by kernel_rfl) (.inr ⟨3, true, 20, rfl, rfl, by decide, (congrArg Value.bool hb312)⟩) rfl (by decide) (E_gives (args := [(.string a0.Who)]) hST rfl Try.call42 (by exact args1 rfl) ((w_name_Right a0.Who _ _  hr331)) (fun W332 hST => ?_))
          have hS0 : Has (hp w) ((b1, Obj.cells ((encCred a0).toArray : Array Value) 36 (0, 0)) :: []) _ := hST.has.sub (Sub.refl _) (fun p hq => ((List.mem_cons.1 hq).elim (fun hq => by rw [hq]; exact (.tail _ (.head _))) (fun hq => (absurd hq List.not_mem_nil))))
          refine ⟨hS0, ?_⟩
          refine PV 7 rfl hS0 (R_pickT (v := (.bool r330)) (congrArg Value.bool hb312) rfl) ?_
          replace hm327 := Option.some.inj hm327; subst hm327
          refine PX_at (by kernel_rfl) (key329 _ _ ⟨r330, _, (hST.sublist (List.Sublist.refl _)), rfl, rfl, rfl, rfl, rfl, rfl, hm328⟩)
        · replace hm327 := if_f hb312 hm327
          refine PX_no 4 rfl (by kernel_rfl) rfl rfl (by decide) (congrArg Value.bool hb312) rfl (by decide) (fun _ _ h => h) hS0 ?_
          refine PX_no 5 rfl (by kernel_rfl) rfl rfl (by decide) (congrArg Value.bool hb312) rfl (by decide) (fun _ _ h => h) hS0 ?_
          refine PX_no 6 rfl (by kernel_rfl) rfl rfl (by decide) (congrArg Value.bool hb312) rfl (by decide) (fun _ _ h => h) hS0 ?_
          refine PV 7 rfl hS0 (R_pickF (v := (.bool false)) (congrArg Value.bool hb312) rfl) ?_
          replace hm327 := Option.some.inj hm327; subst hm327
          refine PX_at (by kernel_rfl) (key329 _ _ ⟨false, _, (hST.sublist (List.Sublist.refl _)), rfl, rfl, rfl, rfl, rfl, rfl, hm328⟩)
    · replace hm268 := if_f hb270 hm268
      refine CW_seq ?_
      refine CW_region ?_
      refine LV (R_int (k := .i64) (a := a0.Kind) (b := 2) (v := (.bool ((a0.Kind == 2)))) rfl rfl rfl) ?_
      refine LV (R_assign (v := (.bool ((a0.Kind == 2)))) rfl) ?_
      refine LW_nil ?_
      refine sq_n ?_
      refine CW_if (b := (a0.Kind == 2)) rfl (fun hb333 => ?_) (fun hb333 => ?_)
      · replace hm268 := if_t hb333 hm268
        refine PX_start (fun l W => Has (hp w) ((b1, Obj.cells ((encCred a0).toArray : Array Value) 36 (0, 0)) :: []) W) Try_mixed ?_
        replace hST := hST.drew
        have hS0 : Has (hp w) ((b1, Obj.cells ((encCred a0).toArray : Array Value) 36 (0, 0)) :: []) _ := hST.has.sub (Sub.refl _) (fun p hq => ((List.mem_cons.1 hq).elim (fun hq => by rw [hq]; exact (.tail _ (.head _))) (fun hq => (absurd hq List.not_mem_nil))))
        refine PV 0 rfl hS0 (R_field fa36_3 rfl) ?_
        refine PX_v 1 rfl (by kernel_rfl) (.inl rfl) rfl (by decide) (fun _ _ h => h) hS0 (fun l W hpd hs => have hS := hs; R_load (v := (.agg (encRole a0.B).toArray)) rfl (load_boxA hS (.head _) (encRole a0.B) rfl Try.isAgg34 Try.sizeOf34)) ?_
        refine PV 2 rfl hS0 (R_move (v := (.bool r6)) rfl) ?_
        refine PV 3 rfl hS0 (R_move (v := (.bool r6)) rfl) ?_
        refine PV 8 rfl hS0 (R_field fa36_3 rfl) ?_
        obtain ⟨s389, hm390, hm391⟩ := bind_some hm268
        refine PX_join (J := fun E W => ∃ (x379 : Bool) (L380 : List (Nat × Obj)), ST true NoF w W (hp w) ((b3, Obj.cells ((encCred ((⟨a0.Kind, a0.Head, zS, (⟨zS, zS⟩ : Role), (⟨zS, zS⟩ : Role), zS⟩ : Cred))).toArray : Array Value) 36 (0, 0)) :: ((b1, Obj.cells ((encCred a0).toArray : Array Value) 36 (0, 0)) :: L380)) ∧ E 1 = (.pointer (some ⟨b1, 0, none⟩)) ∧ E 3 = (.pointer (some ⟨b3, 0, none⟩)) ∧ E 4 = (.bool r6) ∧ E 29 = (.agg (encRole a0.B).toArray) ∧ E 35 = (.bool x379) ∧ E 36 = (.pointer (some ⟨b3, 4, none⟩)) ∧ some (Sum.inr (x379, ((⟨a0.Kind, a0.Head, zS, a0.B, (⟨zS, zS⟩ : Role), zS⟩ : Cred)))) = some s267) #[true, true, true, true, true, true, true, true, true, false, false] 2 ?_ (fun key392 => ?_)
        · rintro E W ⟨x379, L380, hST, e382, e383, e384, e385, e386, e387, hm381⟩
          have hS0 : Has (hp w) ((b1, Obj.cells ((encCred a0).toArray : Array Value) 36 (0, 0)) :: []) _ := hST.has.sub (Sub.refl _) (fun p hq => ((List.mem_cons.1 hq).elim (fun hq => by rw [hq]; exact (.tail _ (.head _))) (fun hq => (absurd hq List.not_mem_nil))))
          refine PX_e0 9 rfl (by kernel_rfl) (.inl rfl) rfl (E_store [] (.agg (encRole a0.B).toArray) ((encCred ((⟨a0.Kind, a0.Head, zS, a0.B, (⟨zS, zS⟩ : Role), zS⟩ : Cred))).toArray) hST e387 e385 Try.sizeOf34 (oneRole a0.B) (Nat.le_of_ble_eq_true rfl) rfl (fun W388 hST => ?_))
          replace hST : ST true NoF w _ _ ((b3, Obj.cells ((encCred ((⟨a0.Kind, a0.Head, zS, a0.B, (⟨zS, zS⟩ : Role), zS⟩ : Cred))).toArray : Array Value) 36 (0, 0)) :: ((b1, Obj.cells ((encCred a0).toArray : Array Value) 36 (0, 0)) :: L380)) := hST
          have hS0 : Has (hp w) ((b1, Obj.cells ((encCred a0).toArray : Array Value) 36 (0, 0)) :: []) _ := hST.has.sub (Sub.refl _) (fun p hq => ((List.mem_cons.1 hq).elim (fun hq => by rw [hq]; exact (.tail _ (.head _))) (fun hq => (absurd hq List.not_mem_nil))))
          refine ⟨hS0, ?_⟩
          refine PV 10 rfl hS0 (R_assign (v := (.bool x379)) e386) ?_
          refine PX_done (by kernel_rfl) ?_
          refine bq_n ?_
          refine sq_n ?_
          replace hm381 := Option.some.inj hm381; subst hm381
          exact ⟨x379, ((⟨a0.Kind, a0.Head, zS, a0.B, (⟨zS, zS⟩ : Role), zS⟩ : Cred)), _, (hST.sublist (List.Sublist.refl _)), e382, e383, rfl, hm269⟩
        · rcases bool_cases r6 with hb375 | hb375
          · replace hm390 := if_t hb375 hm390
            refine PX_v 4 rfl (by kernel_rfl) (.inr ⟨3, true, 31, rfl, rfl, by decide, (congrArg Value.bool hb375)⟩) rfl (by decide) (fun _ _ h => h) hS0 (fun _ _ _ _ => R_field fa36_3 rfl) ?_
            refine PX_v 5 rfl (by kernel_rfl) (.inr ⟨3, true, 31, rfl, rfl, by decide, (congrArg Value.bool hb375)⟩) rfl (by decide) (fun _ _ h => h) hS0 (fun l W hpd hs => have hS := hs; R_load (v := (.agg (encRole a0.B).toArray)) rfl (load_boxA hS (.head _) (encRole a0.B) rfl Try.isAgg34 Try.sizeOf34)) ?_
            obtain ⟨r393, hr394, hm390⟩ := bind_some hm390
            refine PX_e 6 rfl (by kernel_rfl) (.inr ⟨3, true, 31, rfl, rfl, by decide, (congrArg Value.bool hb375)⟩) rfl (by decide) (E_gives (args := [(.agg (encRole a0.B).toArray)]) hST rfl Try.call41 (by exact args1 rfl) ((w_role_Right a0.B _ _  hr394)) (fun W395 hST => ?_))
            have hS0 : Has (hp w) ((b1, Obj.cells ((encCred a0).toArray : Array Value) 36 (0, 0)) :: []) _ := hST.has.sub (Sub.refl _) (fun p hq => ((List.mem_cons.1 hq).elim (fun hq => by rw [hq]; exact (.tail _ (.head _))) (fun hq => (absurd hq List.not_mem_nil))))
            refine ⟨hS0, ?_⟩
            refine PV 7 rfl hS0 (R_pickT (v := (.bool r393)) (congrArg Value.bool hb375) rfl) ?_
            replace hm390 := Option.some.inj hm390; subst hm390
            refine PX_at (by kernel_rfl) (key392 _ _ ⟨r393, _, (hST.sublist (List.Sublist.refl _)), rfl, rfl, rfl, rfl, rfl, rfl, hm391⟩)
          · replace hm390 := if_f hb375 hm390
            refine PX_no 4 rfl (by kernel_rfl) rfl rfl (by decide) (congrArg Value.bool hb375) rfl (by decide) (fun _ _ h => h) hS0 ?_
            refine PX_no 5 rfl (by kernel_rfl) rfl rfl (by decide) (congrArg Value.bool hb375) rfl (by decide) (fun _ _ h => h) hS0 ?_
            refine PX_no 6 rfl (by kernel_rfl) rfl rfl (by decide) (congrArg Value.bool hb375) rfl (by decide) (fun _ _ h => h) hS0 ?_
            refine PV 7 rfl hS0 (R_pickF (v := (.bool false)) (congrArg Value.bool hb375) rfl) ?_
            replace hm390 := Option.some.inj hm390; subst hm390
            refine PX_at (by kernel_rfl) (key392 _ _ ⟨false, _, (hST.sublist (List.Sublist.refl _)), rfl, rfl, rfl, rfl, rfl, rfl, hm391⟩)
      · replace hm268 := if_f hb333 hm268
        refine CW_seq ?_
        refine CW_region ?_
        refine LV (R_int (k := .i64) (a := a0.Kind) (b := 3) (v := (.bool ((a0.Kind == 3)))) rfl rfl rfl) ?_
        refine LV (R_assign (v := (.bool ((a0.Kind == 3)))) rfl) ?_
        refine LW_nil ?_
        refine sq_n ?_
        refine CW_if (b := (a0.Kind == 3)) rfl (fun hb396 => ?_) (fun hb396 => ?_)
        · replace hm268 := if_t hb396 hm268
          refine CW_seq ?_
          refine PX_start (fun l W => Has (hp w) ((b1, Obj.cells ((encCred a0).toArray : Array Value) 36 (0, 0)) :: []) W) Try_mixed ?_
          replace hST := hST.drew
          have hS0 : Has (hp w) ((b1, Obj.cells ((encCred a0).toArray : Array Value) 36 (0, 0)) :: []) _ := hST.has.sub (Sub.refl _) (fun p hq => ((List.mem_cons.1 hq).elim (fun hq => by rw [hq]; exact (.tail _ (.head _))) (fun hq => (absurd hq List.not_mem_nil))))
          refine PV 0 rfl hS0 (R_field fa36_3 rfl) ?_
          refine PX_v 1 rfl (by kernel_rfl) (.inl rfl) rfl (by decide) (fun _ _ h => h) hS0 (fun l W hpd hs => have hS := hs; R_load (v := (.agg (encRole a0.B).toArray)) rfl (load_boxA hS (.head _) (encRole a0.B) rfl Try.isAgg34 Try.sizeOf34)) ?_
          refine PV 2 rfl hS0 (R_field fa36_5 rfl) ?_
          refine PX_v 3 rfl (by kernel_rfl) (.inl rfl) rfl (by decide) (fun _ _ h => h) hS0 (fun l W hpd hs => have hS := hs; R_load (v := (.string a0.Word2)) rfl (load_box1 hS (.head _) rfl Try.isAgg9)) ?_
          refine PV 4 rfl hS0 (R_field fa36_3 rfl) ?_
          refine PX_e0 5 rfl (by kernel_rfl) (.inl rfl) rfl (E_store [] (.agg (encRole a0.B).toArray) ((encCred ((⟨a0.Kind, a0.Head, zS, a0.B, (⟨zS, zS⟩ : Role), zS⟩ : Cred))).toArray) hST rfl rfl Try.sizeOf34 (oneRole a0.B) (Nat.le_of_ble_eq_true rfl) rfl (fun W401 hST => ?_))
          replace hST : ST true NoF w _ _ ((b3, Obj.cells ((encCred ((⟨a0.Kind, a0.Head, zS, a0.B, (⟨zS, zS⟩ : Role), zS⟩ : Cred))).toArray : Array Value) 36 (0, 0)) :: ((b1, Obj.cells ((encCred a0).toArray : Array Value) 36 (0, 0)) :: [])) := hST
          have hS0 : Has (hp w) ((b1, Obj.cells ((encCred a0).toArray : Array Value) 36 (0, 0)) :: []) _ := hST.has.sub (Sub.refl _) (fun p hq => ((List.mem_cons.1 hq).elim (fun hq => by rw [hq]; exact (.tail _ (.head _))) (fun hq => (absurd hq List.not_mem_nil))))
          refine ⟨hS0, ?_⟩
          refine PV 6 rfl hS0 (R_field fa36_5 rfl) ?_
          refine PX_e0 7 rfl (by kernel_rfl) (.inl rfl) rfl (E_store [] (.string a0.Word2) ((encCred ((⟨a0.Kind, a0.Head, zS, a0.B, (⟨zS, zS⟩ : Role), a0.Word2⟩ : Cred))).toArray) hST rfl rfl Try.sizeOf9 (oneS a0.Word2) (Nat.le_of_ble_eq_true rfl) rfl (fun W402 hST => ?_))
          replace hST : ST true NoF w _ _ ((b3, Obj.cells ((encCred ((⟨a0.Kind, a0.Head, zS, a0.B, (⟨zS, zS⟩ : Role), a0.Word2⟩ : Cred))).toArray : Array Value) 36 (0, 0)) :: ((b1, Obj.cells ((encCred a0).toArray : Array Value) 36 (0, 0)) :: [])) := hST
          have hS0 : Has (hp w) ((b1, Obj.cells ((encCred a0).toArray : Array Value) 36 (0, 0)) :: []) _ := hST.has.sub (Sub.refl _) (fun p hq => ((List.mem_cons.1 hq).elim (fun hq => by rw [hq]; exact (.tail _ (.head _))) (fun hq => (absurd hq List.not_mem_nil))))
          refine ⟨hS0, ?_⟩
          refine PX_done (by kernel_rfl) ?_
          refine sq_n ?_
          refine CW_region ?_
          refine LV (R_move (v := (.bool r6)) rfl) ?_
          refine LV (R_move (v := (.bool r6)) rfl) ?_
          obtain ⟨s444, hm445, hm446⟩ := bind_some hm268
          refine LW_join (J := fun E W => ∃ (x407 : Bool) (L408 : List (Nat × Obj)), ST true NoF w W (hp w) ((b3, Obj.cells ((encCred ((⟨a0.Kind, a0.Head, zS, a0.B, (⟨zS, zS⟩ : Role), a0.Word2⟩ : Cred))).toArray : Array Value) 36 (0, 0)) :: ((b1, Obj.cells ((encCred a0).toArray : Array Value) 36 (0, 0)) :: L408)) ∧ E 1 = (.pointer (some ⟨b1, 0, none⟩)) ∧ E 3 = (.pointer (some ⟨b3, 0, none⟩)) ∧ E 4 = (.bool r6) ∧ E 50 = (.bool x407) ∧ (((if x407 then some ((beqS a0.B.Owner a0.Head.Owner)) else some false) : Option Bool).bind fun x415 => (((if x415 then (((m_name_Right a0.Word2)).bind fun r437 => some r437) else some false) : Option Bool).bind fun x426 => some (Sum.inr (x426, ((⟨a0.Kind, a0.Head, zS, a0.B, (⟨zS, zS⟩ : Role), a0.Word2⟩ : Cred)))))) = some s267) 4 ?_ (fun key447 => ?_)
          · rintro E W ⟨x407, L408, hST, e410, e411, e412, e413, hm409⟩
            refine LV (R_move (v := (.bool x407)) e413) ?_
            obtain ⟨s440, hm441, hm442⟩ := bind_some hm409
            refine LW_join (J := fun E W => ∃ (x415 : Bool) (L416 : List (Nat × Obj)), ST true NoF w W (hp w) ((b3, Obj.cells ((encCred ((⟨a0.Kind, a0.Head, zS, a0.B, (⟨zS, zS⟩ : Role), a0.Word2⟩ : Cred))).toArray : Array Value) 36 (0, 0)) :: ((b1, Obj.cells ((encCred a0).toArray : Array Value) 36 (0, 0)) :: L416)) ∧ E 1 = (.pointer (some ⟨b1, 0, none⟩)) ∧ E 3 = (.pointer (some ⟨b3, 0, none⟩)) ∧ E 4 = (.bool r6) ∧ E 59 = (.bool x415) ∧ (((if x415 then (((m_name_Right a0.Word2)).bind fun r437 => some r437) else some false) : Option Bool).bind fun x426 => some (Sum.inr (x426, ((⟨a0.Kind, a0.Head, zS, a0.B, (⟨zS, zS⟩ : Role), a0.Word2⟩ : Cred))))) = some s267) 8 ?_ (fun key443 => ?_)
            · rintro E W ⟨x415, L416, hST, e418, e419, e420, e421, hm417⟩
              refine LV (R_move (v := (.bool x415)) e421) ?_
              obtain ⟨s433, hm434, hm435⟩ := bind_some hm417
              refine LW_join (J := fun E W => ∃ (x426 : Bool) (L427 : List (Nat × Obj)), ST true NoF w W (hp w) ((b3, Obj.cells ((encCred ((⟨a0.Kind, a0.Head, zS, a0.B, (⟨zS, zS⟩ : Role), a0.Word2⟩ : Cred))).toArray : Array Value) 36 (0, 0)) :: ((b1, Obj.cells ((encCred a0).toArray : Array Value) 36 (0, 0)) :: L427)) ∧ E 1 = (.pointer (some ⟨b1, 0, none⟩)) ∧ E 3 = (.pointer (some ⟨b3, 0, none⟩)) ∧ E 4 = (.bool r6) ∧ E 64 = (.bool x426) ∧ some (Sum.inr (x426, ((⟨a0.Kind, a0.Head, zS, a0.B, (⟨zS, zS⟩ : Role), a0.Word2⟩ : Cred)))) = some s267) 4 ?_ (fun key436 => ?_)
              · rintro E W ⟨x426, L427, hST, e429, e430, e431, e432, hm428⟩
                refine LV (R_assign (v := (.bool x426)) e432) ?_
                refine LW_nil ?_
                refine bq_n ?_
                refine sq_n ?_
                replace hm428 := Option.some.inj hm428; subst hm428
                exact ⟨x426, ((⟨a0.Kind, a0.Head, zS, a0.B, (⟨zS, zS⟩ : Role), a0.Word2⟩ : Cred)), _, (hST.sublist (List.Sublist.refl _)), e429, e430, rfl, hm269⟩
              · rcases bool_cases x415 with hb422 | hb422
                · replace hm434 := if_t hb422 hm434
                  refine LW_v (.inr ⟨15, true, 60, rfl, rfl, by decide, (congrArg Value.bool hb422)⟩) rfl (by decide) (R_field fa36_5 e418) ?_
                  refine LW_v (.inr ⟨15, true, 60, rfl, rfl, by decide, (congrArg Value.bool hb422)⟩) rfl (by decide) (R_load (v := (.string a0.Word2)) rfl (load_box1 hST.has (.tail _ (.head _)) rfl Try.isAgg9)) ?_
                  obtain ⟨r437, hr438, hm434⟩ := bind_some hm434
                  refine LW_e (.inr ⟨15, true, 60, rfl, rfl, by decide, (congrArg Value.bool hb422)⟩) rfl (by decide) (E_gives (args := [(.string a0.Word2)]) hST rfl Try.call42 (by exact args1 rfl) ((w_name_Right a0.Word2 _ _  hr438)) (fun W439 hST => ?_))
                  refine LV (R_pickT (v := (.bool r437)) (congrArg Value.bool hb422) rfl) ?_
                  replace hm434 := Option.some.inj hm434; subst hm434
                  exact key436 _ _ ⟨r437, _, (hST.sublist (List.Sublist.refl _)), e418, e419, e420, rfl, hm435⟩
                · replace hm434 := if_f hb422 hm434
                  refine LW_no rfl (by decide) rfl rfl (by decide) (congrArg Value.bool hb422) ?_
                  refine LW_no rfl (by decide) rfl rfl (by decide) (congrArg Value.bool hb422) ?_
                  refine LW_no rfl (by decide) rfl rfl (by decide) (congrArg Value.bool hb422) ?_
                  refine LV (R_pickF (v := (.bool false)) (congrArg Value.bool hb422) rfl) ?_
                  replace hm434 := Option.some.inj hm434; subst hm434
                  exact key436 _ _ ⟨false, _, (hST.sublist (List.Sublist.refl _)), e418, e419, e420, rfl, hm435⟩
            · rcases bool_cases x407 with hb414 | hb414
              · replace hm441 := if_t hb414 hm441
                refine LW_v (.inr ⟨6, true, 51, rfl, rfl, by decide, (congrArg Value.bool hb414)⟩) rfl (by decide) (R_field fa36_3 e410) ?_
                refine LW_v (.inr ⟨6, true, 51, rfl, rfl, by decide, (congrArg Value.bool hb414)⟩) rfl (by decide) (R_field fa34_0 rfl) ?_
                refine LW_v (.inr ⟨6, true, 51, rfl, rfl, by decide, (congrArg Value.bool hb414)⟩) rfl (by decide) (R_load (v := (.string a0.B.Owner)) rfl (load_box1 hST.has (.tail _ (.head _)) rfl Try.isAgg9)) ?_
                refine LW_v (.inr ⟨6, true, 51, rfl, rfl, by decide, (congrArg Value.bool hb414)⟩) rfl (by decide) (R_field fa36_1 e410) ?_
                refine LW_v (.inr ⟨6, true, 51, rfl, rfl, by decide, (congrArg Value.bool hb414)⟩) rfl (by decide) (R_field fa34_0 rfl) ?_
                refine LW_v (.inr ⟨6, true, 51, rfl, rfl, by decide, (congrArg Value.bool hb414)⟩) rfl (by decide) (R_load (v := (.string a0.Head.Owner)) rfl (load_box1 hST.has (.tail _ (.head _)) rfl Try.isAgg9)) ?_
                refine LW_v (.inr ⟨6, true, 51, rfl, rfl, by decide, (congrArg Value.bool hb414)⟩) rfl (by decide) (R_str (a := a0.B.Owner) (b := a0.Head.Owner) (v := (.bool ((beqS a0.B.Owner a0.Head.Owner)))) rfl rfl rfl) ?_
                refine LV (R_pickT (v := (.bool ((beqS a0.B.Owner a0.Head.Owner)))) (congrArg Value.bool hb414) rfl) ?_
                replace hm441 := Option.some.inj hm441; subst hm441
                exact key443 _ _ ⟨((beqS a0.B.Owner a0.Head.Owner)), _, (hST.sublist (List.Sublist.refl _)), e410, e411, e412, rfl, hm442⟩
              · replace hm441 := if_f hb414 hm441
                refine LW_no rfl (by decide) rfl rfl (by decide) (congrArg Value.bool hb414) ?_
                refine LW_no rfl (by decide) rfl rfl (by decide) (congrArg Value.bool hb414) ?_
                refine LW_no rfl (by decide) rfl rfl (by decide) (congrArg Value.bool hb414) ?_
                refine LW_no rfl (by decide) rfl rfl (by decide) (congrArg Value.bool hb414) ?_
                refine LW_no rfl (by decide) rfl rfl (by decide) (congrArg Value.bool hb414) ?_
                refine LW_no rfl (by decide) rfl rfl (by decide) (congrArg Value.bool hb414) ?_
                refine LW_no rfl (by decide) rfl rfl (by decide) (congrArg Value.bool hb414) ?_
                refine LV (R_pickF (v := (.bool false)) (congrArg Value.bool hb414) rfl) ?_
                replace hm441 := Option.some.inj hm441; subst hm441
                exact key443 _ _ ⟨false, _, (hST.sublist (List.Sublist.refl _)), e410, e411, e412, rfl, hm442⟩
          · rcases bool_cases r6 with hb403 | hb403
            · replace hm445 := if_t hb403 hm445
              refine LW_v (.inr ⟨1, true, 46, rfl, rfl, by decide, (congrArg Value.bool hb403)⟩) rfl (by decide) (R_field fa36_3 rfl) ?_
              refine LW_v (.inr ⟨1, true, 46, rfl, rfl, by decide, (congrArg Value.bool hb403)⟩) rfl (by decide) (R_load (v := (.agg (encRole a0.B).toArray)) rfl (load_boxA hST.has (.tail _ (.head _)) (encRole a0.B) rfl Try.isAgg34 Try.sizeOf34)) ?_
              obtain ⟨r448, hr449, hm445⟩ := bind_some hm445
              refine LW_e (.inr ⟨1, true, 46, rfl, rfl, by decide, (congrArg Value.bool hb403)⟩) rfl (by decide) (E_gives (args := [(.agg (encRole a0.B).toArray)]) hST rfl Try.call41 (by exact args1 rfl) ((w_role_Right a0.B _ _  hr449)) (fun W450 hST => ?_))
              refine LV (R_pickT (v := (.bool r448)) (congrArg Value.bool hb403) rfl) ?_
              replace hm445 := Option.some.inj hm445; subst hm445
              exact key447 _ _ ⟨r448, _, (hST.sublist (List.Sublist.refl _)), rfl, rfl, rfl, rfl, hm446⟩
            · replace hm445 := if_f hb403 hm445
              refine LW_no rfl (by decide) rfl rfl (by decide) (congrArg Value.bool hb403) ?_
              refine LW_no rfl (by decide) rfl rfl (by decide) (congrArg Value.bool hb403) ?_
              refine LW_no rfl (by decide) rfl rfl (by decide) (congrArg Value.bool hb403) ?_
              refine LV (R_pickF (v := (.bool false)) (congrArg Value.bool hb403) rfl) ?_
              replace hm445 := Option.some.inj hm445; subst hm445
              exact key447 _ _ ⟨false, _, (hST.sublist (List.Sublist.refl _)), rfl, rfl, rfl, rfl, hm446⟩
        · replace hm268 := if_f hb396 hm268
          refine CW_seq ?_
          refine CW_region ?_
          refine LV (R_int (k := .i64) (a := a0.Kind) (b := 4) (v := (.bool ((a0.Kind == 4)))) rfl rfl rfl) ?_
          refine LV (R_assign (v := (.bool ((a0.Kind == 4)))) rfl) ?_
          refine LW_nil ?_
          refine sq_n ?_
          refine CW_if (b := (a0.Kind == 4)) rfl (fun hb451 => ?_) (fun hb451 => ?_)
          · replace hm268 := if_t hb451 hm268
            refine CW_seq ?_
            refine PX_start (fun l W => Has (hp w) ((b1, Obj.cells ((encCred a0).toArray : Array Value) 36 (0, 0)) :: []) W) Try_mixed ?_
            replace hST := hST.drew
            have hS0 : Has (hp w) ((b1, Obj.cells ((encCred a0).toArray : Array Value) 36 (0, 0)) :: []) _ := hST.has.sub (Sub.refl _) (fun p hq => ((List.mem_cons.1 hq).elim (fun hq => by rw [hq]; exact (.tail _ (.head _))) (fun hq => (absurd hq List.not_mem_nil))))
            refine PV 0 rfl hS0 (R_field fa36_3 rfl) ?_
            refine PX_v 1 rfl (by kernel_rfl) (.inl rfl) rfl (by decide) (fun _ _ h => h) hS0 (fun l W hpd hs => have hS := hs; R_load (v := (.agg (encRole a0.B).toArray)) rfl (load_boxA hS (.head _) (encRole a0.B) rfl Try.isAgg34 Try.sizeOf34)) ?_
            refine PV 2 rfl hS0 (R_field fa36_4 rfl) ?_
            refine PX_v 3 rfl (by kernel_rfl) (.inl rfl) rfl (by decide) (fun _ _ h => h) hS0 (fun l W hpd hs => have hS := hs; R_load (v := (.agg (encRole a0.C).toArray)) rfl (load_boxA hS (.head _) (encRole a0.C) rfl Try.isAgg34 Try.sizeOf34)) ?_
            refine PV 4 rfl hS0 (R_field fa36_3 rfl) ?_
            refine PX_e0 5 rfl (by kernel_rfl) (.inl rfl) rfl (E_store [] (.agg (encRole a0.B).toArray) ((encCred ((⟨a0.Kind, a0.Head, zS, a0.B, (⟨zS, zS⟩ : Role), zS⟩ : Cred))).toArray) hST rfl rfl Try.sizeOf34 (oneRole a0.B) (Nat.le_of_ble_eq_true rfl) rfl (fun W456 hST => ?_))
            replace hST : ST true NoF w _ _ ((b3, Obj.cells ((encCred ((⟨a0.Kind, a0.Head, zS, a0.B, (⟨zS, zS⟩ : Role), zS⟩ : Cred))).toArray : Array Value) 36 (0, 0)) :: ((b1, Obj.cells ((encCred a0).toArray : Array Value) 36 (0, 0)) :: [])) := hST
            have hS0 : Has (hp w) ((b1, Obj.cells ((encCred a0).toArray : Array Value) 36 (0, 0)) :: []) _ := hST.has.sub (Sub.refl _) (fun p hq => ((List.mem_cons.1 hq).elim (fun hq => by rw [hq]; exact (.tail _ (.head _))) (fun hq => (absurd hq List.not_mem_nil))))
            refine ⟨hS0, ?_⟩
            refine PV 6 rfl hS0 (R_field fa36_4 rfl) ?_
            refine PX_e0 7 rfl (by kernel_rfl) (.inl rfl) rfl (E_store [] (.agg (encRole a0.C).toArray) ((encCred ((⟨a0.Kind, a0.Head, zS, a0.B, a0.C, zS⟩ : Cred))).toArray) hST rfl rfl Try.sizeOf34 (oneRole a0.C) (Nat.le_of_ble_eq_true rfl) rfl (fun W457 hST => ?_))
            replace hST : ST true NoF w _ _ ((b3, Obj.cells ((encCred ((⟨a0.Kind, a0.Head, zS, a0.B, a0.C, zS⟩ : Cred))).toArray : Array Value) 36 (0, 0)) :: ((b1, Obj.cells ((encCred a0).toArray : Array Value) 36 (0, 0)) :: [])) := hST
            have hS0 : Has (hp w) ((b1, Obj.cells ((encCred a0).toArray : Array Value) 36 (0, 0)) :: []) _ := hST.has.sub (Sub.refl _) (fun p hq => ((List.mem_cons.1 hq).elim (fun hq => by rw [hq]; exact (.tail _ (.head _))) (fun hq => (absurd hq List.not_mem_nil))))
            refine ⟨hS0, ?_⟩
            refine PX_done (by kernel_rfl) ?_
            refine sq_n ?_
            refine CW_region ?_
            refine LV (R_move (v := (.bool r6)) rfl) ?_
            refine LV (R_move (v := (.bool r6)) rfl) ?_
            obtain ⟨s505, hm506, hm507⟩ := bind_some hm268
            refine LW_join (J := fun E W => ∃ (x462 : Bool) (L463 : List (Nat × Obj)), ST true NoF w W (hp w) ((b3, Obj.cells ((encCred ((⟨a0.Kind, a0.Head, zS, a0.B, a0.C, zS⟩ : Cred))).toArray : Array Value) 36 (0, 0)) :: ((b1, Obj.cells ((encCred a0).toArray : Array Value) 36 (0, 0)) :: L463)) ∧ E 1 = (.pointer (some ⟨b1, 0, none⟩)) ∧ E 3 = (.pointer (some ⟨b3, 0, none⟩)) ∧ E 4 = (.bool r6) ∧ E 78 = (.bool x462) ∧ (((if x462 then (((m_role_Right a0.C)).bind fun r502 => some r502) else some false) : Option Bool).bind fun x473 => (((if x473 then (((m_role_Compare a0.B a0.C)).bind fun r495 => some ((decide (r495 < 0)))) else some false) : Option Bool).bind fun x484 => some (Sum.inr (x484, ((⟨a0.Kind, a0.Head, zS, a0.B, a0.C, zS⟩ : Cred)))))) = some s267) 4 ?_ (fun key508 => ?_)
            · rintro E W ⟨x462, L463, hST, e465, e466, e467, e468, hm464⟩
              refine LV (R_move (v := (.bool x462)) e468) ?_
              obtain ⟨s498, hm499, hm500⟩ := bind_some hm464
              refine LW_join (J := fun E W => ∃ (x473 : Bool) (L474 : List (Nat × Obj)), ST true NoF w W (hp w) ((b3, Obj.cells ((encCred ((⟨a0.Kind, a0.Head, zS, a0.B, a0.C, zS⟩ : Cred))).toArray : Array Value) 36 (0, 0)) :: ((b1, Obj.cells ((encCred a0).toArray : Array Value) 36 (0, 0)) :: L474)) ∧ E 1 = (.pointer (some ⟨b1, 0, none⟩)) ∧ E 3 = (.pointer (some ⟨b3, 0, none⟩)) ∧ E 4 = (.bool r6) ∧ E 83 = (.bool x473) ∧ (((if x473 then (((m_role_Compare a0.B a0.C)).bind fun r495 => some ((decide (r495 < 0)))) else some false) : Option Bool).bind fun x484 => some (Sum.inr (x484, ((⟨a0.Kind, a0.Head, zS, a0.B, a0.C, zS⟩ : Cred))))) = some s267) 4 ?_ (fun key501 => ?_)
              · rintro E W ⟨x473, L474, hST, e476, e477, e478, e479, hm475⟩
                refine LV (R_move (v := (.bool x473)) e479) ?_
                obtain ⟨s491, hm492, hm493⟩ := bind_some hm475
                refine LW_join (J := fun E W => ∃ (x484 : Bool) (L485 : List (Nat × Obj)), ST true NoF w W (hp w) ((b3, Obj.cells ((encCred ((⟨a0.Kind, a0.Head, zS, a0.B, a0.C, zS⟩ : Cred))).toArray : Array Value) 36 (0, 0)) :: ((b1, Obj.cells ((encCred a0).toArray : Array Value) 36 (0, 0)) :: L485)) ∧ E 1 = (.pointer (some ⟨b1, 0, none⟩)) ∧ E 3 = (.pointer (some ⟨b3, 0, none⟩)) ∧ E 4 = (.bool r6) ∧ E 91 = (.bool x484) ∧ some (Sum.inr (x484, ((⟨a0.Kind, a0.Head, zS, a0.B, a0.C, zS⟩ : Cred)))) = some s267) 7 ?_ (fun key494 => ?_)
                · rintro E W ⟨x484, L485, hST, e487, e488, e489, e490, hm486⟩
                  refine LV (R_assign (v := (.bool x484)) e490) ?_
                  refine LW_nil ?_
                  refine bq_n ?_
                  refine sq_n ?_
                  replace hm486 := Option.some.inj hm486; subst hm486
                  exact ⟨x484, ((⟨a0.Kind, a0.Head, zS, a0.B, a0.C, zS⟩ : Cred)), _, (hST.sublist (List.Sublist.refl _)), e487, e488, rfl, hm269⟩
                · rcases bool_cases x473 with hb480 | hb480
                  · replace hm492 := if_t hb480 hm492
                    refine LW_v (.inr ⟨11, true, 84, rfl, rfl, by decide, (congrArg Value.bool hb480)⟩) rfl (by decide) (R_field fa36_3 e476) ?_
                    refine LW_v (.inr ⟨11, true, 84, rfl, rfl, by decide, (congrArg Value.bool hb480)⟩) rfl (by decide) (R_load (v := (.agg (encRole a0.B).toArray)) rfl (load_boxA hST.has (.tail _ (.head _)) (encRole a0.B) rfl Try.isAgg34 Try.sizeOf34)) ?_
                    refine LW_v (.inr ⟨11, true, 84, rfl, rfl, by decide, (congrArg Value.bool hb480)⟩) rfl (by decide) (R_field fa36_4 e476) ?_
                    refine LW_v (.inr ⟨11, true, 84, rfl, rfl, by decide, (congrArg Value.bool hb480)⟩) rfl (by decide) (R_load (v := (.agg (encRole a0.C).toArray)) rfl (load_boxA hST.has (.tail _ (.head _)) (encRole a0.C) rfl Try.isAgg34 Try.sizeOf34)) ?_
                    obtain ⟨r495, hr496, hm492⟩ := bind_some hm492
                    refine LW_e (.inr ⟨11, true, 84, rfl, rfl, by decide, (congrArg Value.bool hb480)⟩) rfl (by decide) (E_gives (args := [(.agg (encRole a0.B).toArray), (.agg (encRole a0.C).toArray)]) hST rfl Try.call30 (by exact args2 rfl rfl) ((w_role_Compare a0.B a0.C _ _  hr496)) (fun W497 hST => ?_))
                    refine LW_v (.inr ⟨11, true, 84, rfl, rfl, by decide, (congrArg Value.bool hb480)⟩) rfl (by decide) (R_int (k := .i64) (a := r495) (b := 0) (v := (.bool ((decide (r495 < 0))))) rfl rfl rfl) ?_
                    refine LV (R_pickT (v := (.bool ((decide (r495 < 0))))) (congrArg Value.bool hb480) rfl) ?_
                    replace hm492 := Option.some.inj hm492; subst hm492
                    exact key494 _ _ ⟨((decide (r495 < 0))), _, (hST.sublist (List.Sublist.refl _)), e476, e477, e478, rfl, hm493⟩
                  · replace hm492 := if_f hb480 hm492
                    refine LW_no rfl (by decide) rfl rfl (by decide) (congrArg Value.bool hb480) ?_
                    refine LW_no rfl (by decide) rfl rfl (by decide) (congrArg Value.bool hb480) ?_
                    refine LW_no rfl (by decide) rfl rfl (by decide) (congrArg Value.bool hb480) ?_
                    refine LW_no rfl (by decide) rfl rfl (by decide) (congrArg Value.bool hb480) ?_
                    refine LW_no rfl (by decide) rfl rfl (by decide) (congrArg Value.bool hb480) ?_
                    refine LW_no rfl (by decide) rfl rfl (by decide) (congrArg Value.bool hb480) ?_
                    refine LV (R_pickF (v := (.bool false)) (congrArg Value.bool hb480) rfl) ?_
                    replace hm492 := Option.some.inj hm492; subst hm492
                    exact key494 _ _ ⟨false, _, (hST.sublist (List.Sublist.refl _)), e476, e477, e478, rfl, hm493⟩
              · rcases bool_cases x462 with hb469 | hb469
                · replace hm499 := if_t hb469 hm499
                  refine LW_v (.inr ⟨6, true, 79, rfl, rfl, by decide, (congrArg Value.bool hb469)⟩) rfl (by decide) (R_field fa36_4 e465) ?_
                  refine LW_v (.inr ⟨6, true, 79, rfl, rfl, by decide, (congrArg Value.bool hb469)⟩) rfl (by decide) (R_load (v := (.agg (encRole a0.C).toArray)) rfl (load_boxA hST.has (.tail _ (.head _)) (encRole a0.C) rfl Try.isAgg34 Try.sizeOf34)) ?_
                  obtain ⟨r502, hr503, hm499⟩ := bind_some hm499
                  refine LW_e (.inr ⟨6, true, 79, rfl, rfl, by decide, (congrArg Value.bool hb469)⟩) rfl (by decide) (E_gives (args := [(.agg (encRole a0.C).toArray)]) hST rfl Try.call41 (by exact args1 rfl) ((w_role_Right a0.C _ _  hr503)) (fun W504 hST => ?_))
                  refine LV (R_pickT (v := (.bool r502)) (congrArg Value.bool hb469) rfl) ?_
                  replace hm499 := Option.some.inj hm499; subst hm499
                  exact key501 _ _ ⟨r502, _, (hST.sublist (List.Sublist.refl _)), e465, e466, e467, rfl, hm500⟩
                · replace hm499 := if_f hb469 hm499
                  refine LW_no rfl (by decide) rfl rfl (by decide) (congrArg Value.bool hb469) ?_
                  refine LW_no rfl (by decide) rfl rfl (by decide) (congrArg Value.bool hb469) ?_
                  refine LW_no rfl (by decide) rfl rfl (by decide) (congrArg Value.bool hb469) ?_
                  refine LV (R_pickF (v := (.bool false)) (congrArg Value.bool hb469) rfl) ?_
                  replace hm499 := Option.some.inj hm499; subst hm499
                  exact key501 _ _ ⟨false, _, (hST.sublist (List.Sublist.refl _)), e465, e466, e467, rfl, hm500⟩
            · rcases bool_cases r6 with hb458 | hb458
              · replace hm506 := if_t hb458 hm506
                refine LW_v (.inr ⟨1, true, 74, rfl, rfl, by decide, (congrArg Value.bool hb458)⟩) rfl (by decide) (R_field fa36_3 rfl) ?_
                refine LW_v (.inr ⟨1, true, 74, rfl, rfl, by decide, (congrArg Value.bool hb458)⟩) rfl (by decide) (R_load (v := (.agg (encRole a0.B).toArray)) rfl (load_boxA hST.has (.tail _ (.head _)) (encRole a0.B) rfl Try.isAgg34 Try.sizeOf34)) ?_
                obtain ⟨r509, hr510, hm506⟩ := bind_some hm506
                refine LW_e (.inr ⟨1, true, 74, rfl, rfl, by decide, (congrArg Value.bool hb458)⟩) rfl (by decide) (E_gives (args := [(.agg (encRole a0.B).toArray)]) hST rfl Try.call41 (by exact args1 rfl) ((w_role_Right a0.B _ _  hr510)) (fun W511 hST => ?_))
                refine LV (R_pickT (v := (.bool r509)) (congrArg Value.bool hb458) rfl) ?_
                replace hm506 := Option.some.inj hm506; subst hm506
                exact key508 _ _ ⟨r509, _, (hST.sublist (List.Sublist.refl _)), rfl, rfl, rfl, rfl, hm507⟩
              · replace hm506 := if_f hb458 hm506
                refine LW_no rfl (by decide) rfl rfl (by decide) (congrArg Value.bool hb458) ?_
                refine LW_no rfl (by decide) rfl rfl (by decide) (congrArg Value.bool hb458) ?_
                refine LW_no rfl (by decide) rfl rfl (by decide) (congrArg Value.bool hb458) ?_
                refine LV (R_pickF (v := (.bool false)) (congrArg Value.bool hb458) rfl) ?_
                replace hm506 := Option.some.inj hm506; subst hm506
                exact key508 _ _ ⟨false, _, (hST.sublist (List.Sublist.refl _)), rfl, rfl, rfl, rfl, hm507⟩
          · replace hm268 := if_f hb451 hm268
            refine CW_seq ?_
            refine CW_region ?_
            refine LV (R_assign (v := (.bool false)) rfl) ?_
            refine LW_nil ?_
            refine sq_n ?_
            replace hST : ST true NoF w _ _ [] := hST.sublist (List.Sublist.cons _ (List.Sublist.cons _ (List.Sublist.refl _)))
            refine CW_ret ?_
            refine bq_r (sq_r ?_)
            replace hm268 := Option.some.inj hm268; subst hm268
            replace hm269 : some false = some r := hm269
            replace hm269 := Option.some.inj hm269; subst hm269
            refine retQ_1 (v := (.bool false)) rfl rfl ?_
            exact ⟨rfl, hST.ex⟩
  · rintro E W ⟨x251, x252, L253, hST, e255, e256, e257, hm254⟩
    refine CW_seq ?_
    refine CW_region ?_
    refine LV (R_move (v := (.bool x251)) e257) ?_
    refine LV (R_move (v := (.bool x251)) rfl) ?_
    obtain ⟨s263, hm264, hm265⟩ := bind_some hm254
    refine LW_join (J := fun E W => ∃ (x259 : Bool) (L260 : List (Nat × Obj)), ST true NoF w W (hp w) L260 ∧ E 97 = (.bool x259) ∧ some x259 = some r) 4 ?_ (fun key266 => ?_)
    · rintro E W ⟨x259, L260, hST, e262, hm261⟩
      refine LV (R_assign (v := (.bool x259)) e262) ?_
      refine LW_nil ?_
      refine sq_n ?_
      refine CW_ret ?_
      replace hm261 := Option.some.inj hm261; subst hm261
      refine retQ_1 (v := (.bool x259)) rfl rfl ?_
      exact ⟨rfl, hST.ex⟩
    · rcases bool_cases x251 with hb258 | hb258
      · replace hm264 := if_t hb258 hm264
        refine LW_v (.inr ⟨1, true, 93, rfl, rfl, by decide, (congrArg Value.bool hb258)⟩) rfl (by decide) (R_load (v := (.agg (encCred x252).toArray)) e256 (load_boxA hST.has (.head _) (encCred x252) rfl Try.isAgg36 Try.sizeOf36)) ?_
        refine LW_v (.inr ⟨1, true, 93, rfl, rfl, by decide, (congrArg Value.bool hb258)⟩) rfl (by decide) (R_load (v := (.agg (encCred a0).toArray)) e255 (load_boxA hST.has (.tail _ (.head _)) (encCred a0) rfl Try.isAgg36 Try.sizeOf36)) ?_
        refine LW_v (.inr ⟨1, true, 93, rfl, rfl, by decide, (congrArg Value.bool hb258)⟩) rfl (by decide) (R_eql (a := (encCred x252).toArray) (b := (encCred a0).toArray) rfl rfl (guard_agg Try.eqGuardType36) (bin_eql (eqInCred _ x252 a0))) ?_
        refine LV (R_pickT (v := (.bool ((beqCred x252 a0)))) (congrArg Value.bool hb258) rfl) ?_
        replace hm264 := Option.some.inj hm264; subst hm264
        exact key266 _ _ ⟨((beqCred x252 a0)), _, (hST.sublist (List.Sublist.cons _ (List.Sublist.cons _ (List.Sublist.refl _)))), rfl, hm265⟩
      · replace hm264 := if_f hb258 hm264
        refine LW_no rfl (by decide) rfl rfl (by decide) (congrArg Value.bool hb258) ?_
        refine LW_no rfl (by decide) rfl rfl (by decide) (congrArg Value.bool hb258) ?_
        refine LW_no rfl (by decide) rfl rfl (by decide) (congrArg Value.bool hb258) ?_
        refine LV (R_pickF (v := (.bool false)) (congrArg Value.bool hb258) rfl) ?_
        replace hm264 := Option.some.inj hm264; subst hm264
        exact key266 _ _ ⟨false, _, (hST.sublist (List.Sublist.cons _ (List.Sublist.cons _ (List.Sublist.refl _)))), rfl, hm265⟩
theorem w_slices_Index_Cred (v_a0 : Value) (a0 : List Cred) (a1 : Cred) (r : Int) (w : World) (h_a0 : Sl (Pl encCred) 9 (hp w) v_a0 a0) (hm : m_slices_Index_Cred a0 a1 = some r) :
    Gives true Try.prog 62 [v_a0, (.agg (encCred a1).toArray)] w (.int .i64 r) := by
  have hST := ST.start (dd := true) w
  unfold m_slices_Index_Cred at hm
  refine calls_of_CW (n := 19) Try.func62 rfl rfl (Nat.le_of_ble_eq_true rfl) ?_
  refine CW_seq ?_
  refine CW_region ?_
  refine LE (E_box (v := (.agg (encCred a1).toArray)) hST rfl (fun W2 b1 hST => ?_))
  refine LV (R_assign (v := (.int .i64 0)) rfl) ?_
  refine LW_nil ?_
  refine sq_n ?_
  refine CW_seq ?_
  refine CW_seq ?_
  refine CW_region ?_
  refine LV (R_move (v := v_a0) rfl) ?_
  refine LV (R_len Try.underlying24 rfl h_a0) ?_
  refine LV (R_move (v := (.int .i64 0)) rfl) ?_
  refine LW_nil ?_
  refine sq_n ?_
  refine CW_range (fun i E W => ∃  (L75 : List (Nat × Obj)), (E 8 = .int .i64 (i : Nat) ∧ E 7 = .int .i64 (a0.length : Nat)) ∧ ST true NoF w W (hp w) ((b1, Obj.cells ((encCred a1).toArray : Array Value) 36 (0, 0)) :: L75) ∧ E 0 = v_a0 ∧ E 3 = (.pointer (some ⟨b1, 0, none⟩)) ∧ m_slices_Index_Cred_L1 a1 (a0.drop i) i = some r) a0.length h_a0.len ⟨_, ⟨rfl, rfl⟩, (hST.sublist (List.Sublist.refl _)), rfl, rfl, hm⟩ (by decide) (by decide) (by decide) (fun _ _ _ h => by obtain ⟨_, eIN, _⟩ := h; exact eIN) ?_ ?_
  · rintro i46 E W hi52 ⟨L75, ⟨eI, eN⟩, hST, e77, e78, hm76⟩
    obtain ⟨x47, xs48, hx50, hx49, hx51⟩ := drop_cons hi52
    rw [hx50] at hm76
    rw [m_slices_Index_Cred_L1] at hm76
    refine CW_block ?_
    refine CW_seq ?_
    refine CW_region ?_
    refine LV (R_move (v := (.int .i64 ((i46 : Int)))) eI) ?_
    refine LV (R_assign (v := (.int .i64 ((i46 : Int)))) rfl) ?_
    refine LW_nil ?_
    refine sq_n ?_
    refine CW_seq ?_
    refine PX_start (fun l W => Has (hp w) ((b1, Obj.cells ((encCred a1).toArray : Array Value) 36 (0, 0)) :: []) W) Try_mixed ?_
    replace hST := hST.drew
    have hS0 : Has (hp w) ((b1, Obj.cells ((encCred a1).toArray : Array Value) 36 (0, 0)) :: []) _ := hST.has.sub (Sub.refl _) (fun p hq => ((List.mem_cons.1 hq).elim (fun hq => by rw [hq]; exact (.head _)) (fun hq => (absurd hq List.not_mem_nil))))
    refine PX_v 0 rfl (by kernel_rfl) (.inl rfl) rfl (by decide) (fun _ _ h => h) hS0 (fun l W hpd hs => have hS := hs; R_load (v := (.agg (encCred a1).toArray)) e78 (load_boxA hS (.head _) (encCred a1) rfl Try.isAgg36 Try.sizeOf36)) ?_
    refine PV 1 rfl hS0 (R_move (v := v_a0) e77) ?_
    refine PV 2 rfl hS0 (R_move (v := (.int .i64 ((i46 : Int)))) rfl) ?_
    refine PX_q 3 rfl (by kernel_rfl) (.inl rfl) rfl (by decide) (fun _ _ h => h) hS0 (R_indexP (enc := encCred) (i := (i46 : Int)) (x0 := x47) Try.underlying24 Try.sizeOf36 rfl rfl h_a0 (Int.natCast_nonneg _) hx49) (fun p85 hp86 => ?_)
    refine PX_v 4 rfl (by kernel_rfl) (.inl rfl) rfl (by decide) (fun _ _ h => h) hS0 (fun l W hpd hs => have hS := hs; R_load rfl (load_atA hS hp86 Try.isAgg36 Try.sizeOf36)) ?_
    refine PV 5 rfl hS0 (R_eql (a := (encCred a1).toArray) (b := (encCred x47).toArray) rfl rfl (guard_agg Try.eqGuardType36) (bin_eql (eqInCred _ a1 x47))) ?_
    refine PX_done (by kernel_rfl) ?_
    refine sq_n ?_
    refine CW_if (b := (beqCred a1 x47)) rfl (fun hb88 => ?_) (fun hb88 => ?_)
    · replace hm76 := if_t hb88 hm76
      refine CW_seq ?_
      refine CW_region ?_
      refine LV (R_move (v := (.int .i64 ((i46 : Int)))) rfl) ?_
      refine LV (R_assign (v := (.int .i64 ((i46 : Int)))) rfl) ?_
      refine LW_nil ?_
      refine sq_n ?_
      replace hST : ST true NoF w _ _ L75 := hST.sublist (List.Sublist.cons _ (List.Sublist.refl _))
      refine CW_ret ?_
      refine bq_r (sq_r (bq_r (sq_r ?_)))
      replace hm76 := Option.some.inj hm76; subst hm76
      refine retQ_1 (v := (.int .i64 ((i46 : Int)))) rfl rfl ?_
      exact ⟨rfl, hST.ex⟩
    · replace hm76 := if_f hb88 hm76
      refine CW_skip ?_
      refine bq_n ?_
      refine sq_n ?_
      exact ⟨eI, _, ⟨rfl, eN⟩, (hST.sublist (List.Sublist.refl _)), e77, e78, (by rw [hx51]; exact hm76)⟩
  · rintro E W ⟨L75, ⟨eI, eN⟩, hST, e77, e78, hm76⟩
    rw [List.drop_length] at hm76
    rw [m_slices_Index_Cred_L1] at hm76
    refine sq_n ?_
    replace hST : ST true NoF w _ _ L75 := hST.sublist (List.Sublist.cons _ (List.Sublist.refl _))
    refine CW_seq ?_
    refine CW_region ?_
    refine LV (R_assign (v := (.int .i64 ((-1)))) rfl) ?_
    refine LW_nil ?_
    refine sq_n ?_
    refine CW_ret ?_
    replace hm76 := Option.some.inj hm76; subst hm76
    refine retQ_1 (v := (.int .i64 ((-1)))) rfl rfl ?_
    exact ⟨rfl, hST.ex⟩
theorem w_slices_Contains_Cred (v_a0 : Value) (a0 : List Cred) (a1 : Cred) (r : Bool) (w : World) (h_a0 : Sl (Pl encCred) 9 (hp w) v_a0 a0) (hm : m_slices_Contains_Cred a0 a1 = some r) :
    Gives true Try.prog 43 [v_a0, (.agg (encCred a1).toArray)] w (.bool r) := by
  have hST := ST.start (dd := true) w
  unfold m_slices_Contains_Cred at hm
  refine calls_of_CW (n := 9) Try.func43 rfl rfl (Nat.le_of_ble_eq_true rfl) ?_
  refine CW_seq ?_
  refine CW_region ?_
  refine LE (E_box (v := (.agg (encCred a1).toArray)) hST rfl (fun W2 b1 hST => ?_))
  refine LV (R_assign (v := (.bool false)) rfl) ?_
  refine LW_nil ?_
  refine sq_n ?_
  refine CW_seq ?_
  refine CW_region ?_
  refine LV (R_move (v := v_a0) rfl) ?_
  refine LV (R_load (v := (.agg (encCred a1).toArray)) rfl (load_boxA hST.has (.head _) (encCred a1) rfl Try.isAgg36 Try.sizeOf36)) ?_
  obtain ⟨r3, hr4, hm⟩ := bind_some hm
  refine LE (E_gives (args := [v_a0, (.agg (encCred a1).toArray)]) hST rfl Try.call62 (by exact args2 rfl rfl) ((w_slices_Index_Cred v_a0 a0 a1 _ _ (h_a0.mono (Pl.mono _) hST.sub_hp) hr4)) (fun W5 hST => ?_))
  refine LV (R_int (k := .i64) (a := r3) (b := 0) (v := (.bool ((decide (r3 ≥ 0))))) rfl rfl rfl) ?_
  refine LV (R_assign (v := (.bool ((decide (r3 ≥ 0))))) rfl) ?_
  refine LW_nil ?_
  refine sq_n ?_
  replace hST : ST true NoF w _ _ [] := hST.sublist (List.Sublist.cons _ (List.Sublist.refl _))
  refine CW_ret ?_
  replace hm := Option.some.inj hm; subst hm
  refine retQ_1 (v := (.bool ((decide (r3 ≥ 0))))) rfl rfl ?_
  exact ⟨rfl, hST.ex⟩
theorem w_cred_Has (v_a0 : Value) (a0 : List Cred) (a1 : Cred) (r : Bool) (w : World) (h_a0 : Sl (Pl encCred) 9 (hp w) v_a0 a0) (hm : m_cred_Has a0 a1 = some r) :
    Gives true Try.prog 23 [v_a0, (.agg (encCred a1).toArray)] w (.bool r) := by
  have hST := ST.start (dd := true) w
  unfold m_cred_Has at hm
  refine calls_of_CW (n := 8) Try.func23 rfl rfl (Nat.le_of_ble_eq_true rfl) ?_
  refine CW_seq ?_
  refine CW_region ?_
  refine LE (E_box (v := (.agg (encCred a1).toArray)) hST rfl (fun W2 b1 hST => ?_))
  refine LV (R_assign (v := (.bool false)) rfl) ?_
  refine LW_nil ?_
  refine sq_n ?_
  refine CW_seq ?_
  refine CW_region ?_
  refine LV (R_move (v := v_a0) rfl) ?_
  refine LV (R_load (v := (.agg (encCred a1).toArray)) rfl (load_boxA hST.has (.head _) (encCred a1) rfl Try.isAgg36 Try.sizeOf36)) ?_
  obtain ⟨r3, hr4, hm⟩ := bind_some hm
  refine LE (E_gives (args := [v_a0, (.agg (encCred a1).toArray)]) hST rfl Try.call43 (by exact args2 rfl rfl) ((w_slices_Contains_Cred v_a0 a0 a1 _ _ (h_a0.mono (Pl.mono _) hST.sub_hp) hr4)) (fun W5 hST => ?_))
  refine LV (R_assign (v := (.bool r3)) rfl) ?_
  refine LW_nil ?_
  refine sq_n ?_
  replace hST : ST true NoF w _ _ [] := hST.sublist (List.Sublist.cons _ (List.Sublist.refl _))
  refine CW_ret ?_
  replace hm := Option.some.inj hm; subst hm
  refine retQ_1 (v := (.bool r3)) rfl rfl ?_
  exact ⟨rfl, hST.ex⟩
theorem w_cred_Roles (a0 : Cred) (r : List Role) (w : World)  (hm : m_cred_Roles a0 = some r) :
    GivesRow true Try.prog 44 [(.agg (encCred a0).toArray)] w 34 encRole 2 r := by
  have hST := ST.start (dd := true) w
  unfold m_cred_Roles at hm
  refine calls_of_CW (n := 27) Try.func44 rfl rfl (Nat.le_of_ble_eq_true rfl) ?_
  refine CW_seq ?_
  refine CW_region ?_
  refine LE (E_box (v := (.agg (encCred a0).toArray)) hST rfl (fun W2 b1 hST => ?_))
  refine LV (R_assign (v := (.slice none 0 0)) rfl) ?_
  refine LW_nil ?_
  refine sq_n ?_
  refine CW_seq ?_
  refine CW_seq ?_
  refine CW_region ?_
  refine LV (R_load (v := (.agg (encCred a0).toArray)) rfl (load_boxA hST.has (.head _) (encCred a0) rfl Try.isAgg36 Try.sizeOf36)) ?_
  obtain ⟨r3, hr4, hm⟩ := bind_some hm
  refine LE (E_gives (args := [(.agg (encCred a0).toArray)]) hST rfl Try.call22 (by exact args1 rfl) ((w_cred_Right a0 _ _  hr4)) (fun W5 hST => ?_))
  refine LV (R_not (b := r3) rfl) ?_
  refine LW_nil ?_
  refine sq_n ?_
  refine CW_if (b := (!r3)) rfl (fun hb6 => ?_) (fun hb6 => ?_)
  · replace hm := if_t hb6 hm
    refine CW_seq ?_
    refine CW_region ?_
    refine LV (R_assign (v := (.slice none 0 0)) rfl) ?_
    refine LW_nil ?_
    refine sq_n ?_
    replace hST : ST true NoF w _ _ [] := hST.sublist (List.Sublist.cons _ (List.Sublist.refl _))
    refine CW_ret ?_
    refine sq_r ?_
    replace hm := Option.some.inj hm; subst hm
    refine retQ_1 (v := (.slice none 0 0)) rfl rfl ?_
    exact ⟨_, [], rfl, hST.backRow (fun p hq => by cases hq) (by simp), Row.nil _ _ _⟩
  · replace hm := if_f hb6 hm
    refine CW_skip ?_
    refine sq_n ?_
    refine CW_seq ?_
    refine CW_region ?_
    refine LV (R_field fa36_1 rfl) ?_
    refine LV (R_load (v := (.agg (encRole a0.Head).toArray)) rfl (load_boxA hST.has (.head _) (encRole a0.Head) rfl Try.isAgg34 Try.sizeOf34)) ?_
    refine LE (E_buildSlice (qs := #[(0, (.agg (encRole a0.Head).toArray))]) (cs := (encRole a0.Head).toArray) hST (parts1 rfl) (run_lit [(.agg (encRole a0.Head).toArray)] Try.underlying47 Try.sizeOf34 Try.zeroValue34 (by decide) rfl (by intro v hv; simp only [List.mem_cons, List.not_mem_nil, or_false] at hv; rcases hv with rfl <;> rfl) rfl rfl) (fun W8 b7 hST => ?_))
    refine LV (R_assign (v := (.slice (some ⟨b7, 0, none⟩) 1 1)) rfl) ?_
    refine LW_nil ?_
    refine sq_n ?_
    refine CW_seq ?_
    obtain ⟨s54, hm55, hm56⟩ := bind_some hm
    refine CW_cut (fun E W => ∃ (v18 : Value) (l19 : List Role) (R21 : List (Nat × Obj)) (L22 : List (Nat × Obj)), ST true NoF w W (hp w) ((b1, Obj.cells ((encCred a0).toArray : Array Value) 36 (0, 0)) :: (R21 ++ L22)) ∧ E 1 = (.pointer (some ⟨b1, 0, none⟩)) ∧ E 3 = v18 ∧ Row 34 encRole 2 v18 l19 R21 ∧ (((if (a0.Kind == 4) then (((appB 32 l19 ([a0.C]))).bind fun l48 => some l48) else some l19) : Option (List Role)).bind fun l36 => some l36) = some r) ?_ ?_
    · refine CW_seq ?_
      refine CW_region ?_
      refine LV (R_field fa36_0 rfl) ?_
      refine LV (R_load (v := (.int .i64 a0.Kind)) rfl (load_box1 hST.has (.tail _ (.head _)) rfl Try.isAgg3)) ?_
      refine LV (R_int (k := .i64) (a := a0.Kind) (b := 1) (v := (.bool ((a0.Kind != 1)))) rfl rfl rfl) ?_
      refine LW_nil ?_
      refine sq_n ?_
      refine CW_if (b := (a0.Kind != 1)) rfl (fun hb57 => ?_) (fun hb57 => ?_)
      · replace hm55 := if_t hb57 hm55
        refine CW_region ?_
        refine LV (R_move (v := (.slice (some ⟨b7, 0, none⟩) 1 1)) rfl) ?_
        refine LV (R_field fa36_3 rfl) ?_
        refine LV (R_load (v := (.agg (encRole a0.B).toArray)) rfl (load_boxA hST.has (.tail _ (.head _)) (encRole a0.B) rfl Try.isAgg34 Try.sizeOf34)) ?_
        refine LE (E_buildSlice (qs := #[(0, (.agg (encRole a0.B).toArray))]) (cs := (encRole a0.B).toArray) hST (parts1 rfl) (run_lit [(.agg (encRole a0.B).toArray)] Try.underlying47 Try.sizeOf34 Try.zeroValue34 (by decide) rfl (by intro v hv; simp only [List.mem_cons, List.not_mem_nil, or_false] at hv; rcases hv with rfl <;> rfl) rfl rfl) (fun W59 b58 hST => ?_))
        obtain ⟨l60, hb61, hm55⟩ := bind_some hm55
        replace hST := hST.perm (List.Perm.append_left [_] (List.perm_middle (l₁ := [_])).symm)
        refine LE (E_append (enc := encRole) (v := (.slice (some ⟨b7, 0, none⟩) 1 1)) (vs := (.slice (some ⟨b58, 0, none⟩) 1 1)) (R := [(b7, Obj.cells ((encRole a0.Head).toArray : Array Value) 34 (0, 0))]) [_, _] hST lenRole (by decide) oneRole Try.underlying47 info34.1 info34.2.1 rfl info34.2.2.1 info34.2.2.2 rfl rfl (Row.lit (l := [a0.Head]) (enc := encRole) rfl (by decide) rfl rfl) (Sl.lit (enc := encRole) (l := [a0.B]) lenRole rfl (Nat.le_of_ble_eq_true rfl) rfl (hST.at_ (.head _))) hb61 (fun W62 v65 R63 hST hR64 => ?_))
        refine LV (R_assign (v := v65) rfl) ?_
        refine LW_nil ?_
        refine sq_n ?_
        replace hm55 := Option.some.inj hm55; subst hm55
        replace hST : ST true NoF w _ _ ((b58, Obj.cells ((encRole a0.B).toArray : Array Value) 34 (0, 0)) :: ((b1, Obj.cells ((encCred a0).toArray : Array Value) 36 (0, 0)) :: (R63 ++ []))) := hST
        exact ⟨v65, l60, R63, _, (hST.sublist (List.Sublist.cons _ (List.Sublist.refl _))), rfl, rfl, hR64, hm56⟩
      · replace hm55 := if_f hb57 hm55
        refine CW_skip ?_
        refine sq_n ?_
        replace hm55 := Option.some.inj hm55; subst hm55
        replace hST := hST.perm (List.Perm.append_left [] (List.perm_middle (l₁ := [_])).symm)
        exact ⟨(.slice (some ⟨b7, 0, none⟩) 1 1), ([a0.Head]), [(b7, Obj.cells ((encRole a0.Head).toArray : Array Value) 34 (0, 0))], _, (hST.sublist (List.Sublist.refl _)), rfl, rfl, (Row.lit (l := [a0.Head]) (enc := encRole) rfl (by decide) rfl rfl), hm56⟩
    · rintro E W ⟨v18, l19, R21, L22, hST, e24, e25, hs20, hm23⟩
      refine CW_seq ?_
      obtain ⟨s42, hm43, hm44⟩ := bind_some hm23
      refine CW_cut (fun E W => ∃ (v35 : Value) (l36 : List Role) (R38 : List (Nat × Obj)) (L39 : List (Nat × Obj)), ST true NoF w W (hp w) (R38 ++ L39) ∧ E 3 = v35 ∧ Row 34 encRole 2 v35 l36 R38 ∧ some l36 = some r) ?_ ?_
      · refine CW_seq ?_
        refine CW_region ?_
        refine LV (R_field fa36_0 e24) ?_
        refine LV (R_load (v := (.int .i64 a0.Kind)) rfl (load_box1 hST.has (.head _) rfl Try.isAgg3)) ?_
        refine LV (R_int (k := .i64) (a := a0.Kind) (b := 4) (v := (.bool ((a0.Kind == 4)))) rfl rfl rfl) ?_
        refine LW_nil ?_
        refine sq_n ?_
        refine CW_if (b := (a0.Kind == 4)) rfl (fun hb45 => ?_) (fun hb45 => ?_)
        · replace hm43 := if_t hb45 hm43
          refine CW_region ?_
          refine LV (R_move (v := v18) e25) ?_
          refine LV (R_field fa36_4 e24) ?_
          refine LV (R_load (v := (.agg (encRole a0.C).toArray)) rfl (load_boxA hST.has (.head _) (encRole a0.C) rfl Try.isAgg34 Try.sizeOf34)) ?_
          refine LE (E_buildSlice (qs := #[(0, (.agg (encRole a0.C).toArray))]) (cs := (encRole a0.C).toArray) hST (parts1 rfl) (run_lit [(.agg (encRole a0.C).toArray)] Try.underlying47 Try.sizeOf34 Try.zeroValue34 (by decide) rfl (by intro v hv; simp only [List.mem_cons, List.not_mem_nil, or_false] at hv; rcases hv with rfl <;> rfl) rfl rfl) (fun W47 b46 hST => ?_))
          obtain ⟨l48, hb49, hm43⟩ := bind_some hm43
          refine LE (E_append (enc := encRole) (v := v18) (vs := (.slice (some ⟨b46, 0, none⟩) 1 1)) (R := R21) [_, _] hST lenRole (by decide) oneRole Try.underlying47 info34.1 info34.2.1 rfl info34.2.2.1 info34.2.2.2 rfl rfl hs20 (Sl.lit (enc := encRole) (l := [a0.C]) lenRole rfl (Nat.le_of_ble_eq_true rfl) rfl (hST.at_ (.head _))) hb49 (fun W50 v53 R51 hST hR52 => ?_))
          refine LV (R_assign (v := v53) rfl) ?_
          refine LW_nil ?_
          refine sq_n ?_
          replace hm43 := Option.some.inj hm43; subst hm43
          replace hST : ST true NoF w _ _ ((b46, Obj.cells ((encRole a0.C).toArray : Array Value) 34 (0, 0)) :: ((b1, Obj.cells ((encCred a0).toArray : Array Value) 36 (0, 0)) :: (R51 ++ L22))) := hST
          exact ⟨v53, l48, R51, _, (hST.sublist (List.Sublist.cons _ (List.Sublist.cons _ (List.Sublist.refl _)))), rfl, hR52, hm44⟩
        · replace hm43 := if_f hb45 hm43
          refine CW_skip ?_
          refine sq_n ?_
          replace hm43 := Option.some.inj hm43; subst hm43
          exact ⟨v18, l19, R21, _, (hST.sublist (List.Sublist.cons _ (List.Sublist.refl _))), e25, hs20, hm44⟩
      · rintro E W ⟨v35, l36, R38, L39, hST, e41, hs37, hm40⟩
        refine CW_seq ?_
        refine CW_region ?_
        refine LV (R_move (v := v35) e41) ?_
        refine LV (R_assign (v := v35) rfl) ?_
        refine LW_nil ?_
        refine sq_n ?_
        refine CW_ret ?_
        replace hm40 := Option.some.inj hm40; subst hm40
        refine retQ_1 (v := v35) rfl rfl ?_
        exact ⟨_, R38, rfl, hST.backRow (fun p hq => by simp [hq]) hs37.nd, hs37⟩
theorem w_model_Model_note_w (b_a0 : Nat) (v_a0_in_ : Value) (a0_in_ : List (Role × (List (ByteArray × Bool)))) (R_a0_in_ : List (Nat × Obj)) (v_a0_creds : Value) (a0_creds : List Cred) (R_a0_creds : List (Nat × Obj)) (v_a0_uses : Value) (a0_uses : List (Role × (List Cred))) (R_a0_uses : List (Nat × Obj)) (v_a0_words : Value) (a0_words : List (ByteArray × (List Cred))) (R_a0_words : List (Nat × Obj)) (v_a0_todo : Value) (a0_todo : List Fact) (R_a0_todo : List (Nat × Obj)) (a0_n : Int) (a1 : Cred) (r : ((List Cred) × (List (Role × (List Cred))) × (List (ByteArray × (List Cred))))) (w : World) {μ0 : Mem} (hH : Held ((b_a0, Obj.cells (#[v_a0_in_, v_a0_creds, v_a0_uses, v_a0_words, v_a0_todo, (.int .i64 a0_n)] : Array Value) 53 (0, 0)) :: (R_a0_in_ ++ (R_a0_creds ++ (R_a0_uses ++ (R_a0_words ++ (R_a0_todo ++ [])))))) w) (hN : ((((b_a0, Obj.cells (#[v_a0_in_, v_a0_creds, v_a0_uses, v_a0_words, v_a0_todo, (.int .i64 a0_n)] : Array Value) 53 (0, 0)) :: (R_a0_in_ ++ (R_a0_creds ++ (R_a0_uses ++ (R_a0_words ++ (R_a0_todo ++ [])))))) : List (Nat × Obj)).map (·.1)).Nodup) (hS0 : Sub μ0 (hpx w ((b_a0, Obj.cells (#[v_a0_in_, v_a0_creds, v_a0_uses, v_a0_words, v_a0_todo, (.int .i64 a0_n)] : Array Value) 53 (0, 0)) :: (R_a0_in_ ++ (R_a0_creds ++ (R_a0_uses ++ (R_a0_words ++ (R_a0_todo ++ [])))))))) (h_a0_in_ : DeepE (fun (x : Role) => (.agg (encRole x).toArray)) (MapRow Value.string (fun (x : Bool) => (Value.bool x))) v_a0_in_ a0_in_ R_a0_in_) (h_a0_creds : Row 36 encCred 9 v_a0_creds a0_creds R_a0_creds) (h_a0_uses : DeepE (fun (x : Role) => (.agg (encRole x).toArray)) (Row 36 encCred 9) v_a0_uses a0_uses R_a0_uses) (h_a0_words : DeepE Value.string (Row 36 encCred 9) v_a0_words a0_words R_a0_words) (h_a0_todo : Que 43 encFact 3 v_a0_todo a0_todo R_a0_todo) (hm : m_model_Model_note_w a0_in_ a0_creds a0_uses a0_words a0_todo a0_n a1 = some r) :
    GivesM true Try.prog 24 [(.pointer (some ⟨b_a0, 0, none⟩)), (.agg (encCred a1).toArray)] w ((b_a0, Obj.cells (#[v_a0_in_, v_a0_creds, v_a0_uses, v_a0_words, v_a0_todo, (.int .i64 a0_n)] : Array Value) 53 (0, 0)) :: (R_a0_in_ ++ (R_a0_creds ++ (R_a0_uses ++ (R_a0_words ++ (R_a0_todo ++ [])))))) (fun v L1 W' => ∃ (y1 : Value) (S2 : List (Nat × Obj)) (S4 : List (Nat × Obj)) (S6 : List (Nat × Obj)), v = (.tuple #[]) ∧ L1 = ((b_a0, Obj.cells (#[v_a0_in_, y1, v_a0_uses, v_a0_words, v_a0_todo, (.int .i64 a0_n)] : Array Value) 53 (0, 0)) :: (R_a0_in_ ++ (S2 ++ (S4 ++ (S6 ++ (R_a0_todo ++ [])))))) ∧ Row 36 encCred 9 y1 r.1 S2 ∧ DeepE (fun (x : Role) => (.agg (encRole x).toArray)) (Row 36 encCred 9) v_a0_uses r.2.1 S4 ∧ DeepE Value.string (Row 36 encCred 9) v_a0_words r.2.2 S6) := by
  have hST := (ST.startM (dd := true) hH hN).weak hS0
  unfold m_model_Model_note_w at hm
  refine calls_of_CW (n := 55) Try.func24 rfl rfl (Nat.le_of_ble_eq_true rfl) ?_
  refine CW_seq ?_
  refine CW_region ?_
  refine LE (E_box (v := (.agg (encCred a1).toArray)) hST rfl (fun W2 b1 hST => ?_))
  refine LW_nil ?_
  refine sq_n ?_
  refine CW_seq ?_
  refine PX_start (fun l W => Has μ0 ((b1, Obj.cells ((encCred a1).toArray : Array Value) 36 (0, 0)) :: []) W ∧ (l.getD 10 true = false → Has μ0 ((b_a0, Obj.cells (#[v_a0_in_, v_a0_creds, v_a0_uses, v_a0_words, v_a0_todo, (.int .i64 a0_n)] : Array Value) 53 (0, 0)) :: []) W)) Try_mixed ?_
  replace hST := hST.drew
  have hS0 : Has μ0 ((b1, Obj.cells ((encCred a1).toArray : Array Value) 36 (0, 0)) :: []) _ := hST.has.sub (Sub.refl _) (fun p hq => ((List.mem_cons.1 hq).elim (fun hq => by rw [hq]; exact (.head _)) (fun hq => (absurd hq List.not_mem_nil))))
  have hS1 : Has μ0 ((b_a0, Obj.cells (#[v_a0_in_, v_a0_creds, v_a0_uses, v_a0_words, v_a0_todo, (.int .i64 a0_n)] : Array Value) 53 (0, 0)) :: []) _ := hST.has.sub (Sub.refl _) (fun p hq => ((List.mem_cons.1 hq).elim (fun hq => by rw [hq]; exact (.tail _ (.head _))) (fun hq => (absurd hq List.not_mem_nil))))
  refine PX_v 0 rfl (by kernel_rfl) (.inl rfl) rfl (by decide) (fun _ _ h => ⟨h.1, til (by rfl) h.2⟩) ⟨hS0, fun _ => hS1⟩ (fun _ _ _ _ => R_move (v := (.pointer (some ⟨b_a0, 0, none⟩))) rfl) ?_
  refine PX_v 1 rfl (by kernel_rfl) (.inl rfl) rfl (by decide) (fun _ _ h => ⟨h.1, til (by rfl) h.2⟩) ⟨hS0, fun _ => hS1⟩ (fun _ _ _ _ => R_move (v := (.pointer (some ⟨b_a0, 0, none⟩))) rfl) ?_
  refine PX_v 2 rfl (by kernel_rfl) (.inl rfl) rfl (by decide) (fun _ _ h => ⟨h.1, til (by rfl) h.2⟩) ⟨hS0, fun _ => hS1⟩ (fun _ _ _ _ => R_nilCheck rfl) ?_
  refine PX_v 3 rfl (by kernel_rfl) (.inl rfl) rfl (by decide) (fun _ _ h => ⟨h.1, til (by rfl) h.2⟩) ⟨hS0, fun _ => hS1⟩ (fun _ _ _ _ => R_field fa53_1 rfl) ?_
  refine PX_v 4 rfl (by kernel_rfl) (.inl rfl) rfl (by decide) (fun _ _ h => ⟨h.1, til (by rfl) h.2⟩) ⟨hS0, fun _ => hS1⟩ (fun l W hpd hs => have hS := (hs.2 (hpd.bar 10 [4] (by kernel_rfl) rfl)); R_load (v := v_a0_creds) rfl (load_box1 hS (.head _) rfl Try.isAgg24)) ?_
  refine PX_v 5 rfl (by kernel_rfl) (.inl rfl) rfl (by decide) (fun _ _ h => ⟨h.1, til (by rfl) h.2⟩) ⟨hS0, fun _ => hS1⟩ (fun l W hpd hs => have hS := hs.1; R_load (v := (.agg (encCred a1).toArray)) rfl (load_boxA hS (.head _) (encCred a1) rfl Try.isAgg36 Try.sizeOf36)) ?_
  refine PX_e 6 rfl (by kernel_rfl) (.inl rfl) rfl (by decide) (E_buildSlice (qs := #[(0, (.agg (encCred a1).toArray))]) (cs := (encCred a1).toArray) hST (parts1 rfl) (run_lit [(.agg (encCred a1).toArray)] Try.underlying24 Try.sizeOf36 Try.zeroValue36 (by decide) rfl (by intro v hv; simp only [List.mem_cons, List.not_mem_nil, or_false] at hv; rcases hv with rfl <;> rfl) rfl rfl) (fun W26 b25 hST => ?_))
  have hS0 : Has μ0 ((b1, Obj.cells ((encCred a1).toArray : Array Value) 36 (0, 0)) :: []) _ := hST.has.sub (Sub.refl _) (fun p hq => ((List.mem_cons.1 hq).elim (fun hq => by rw [hq]; exact (.tail _ (.head _))) (fun hq => (absurd hq List.not_mem_nil))))
  have hS1 : Has μ0 ((b_a0, Obj.cells (#[v_a0_in_, v_a0_creds, v_a0_uses, v_a0_words, v_a0_todo, (.int .i64 a0_n)] : Array Value) 53 (0, 0)) :: []) _ := hST.has.sub (Sub.refl _) (fun p hq => ((List.mem_cons.1 hq).elim (fun hq => by rw [hq]; exact (.tail _ (.tail _ (.head _)))) (fun hq => (absurd hq List.not_mem_nil))))
  refine ⟨⟨hS0, fun _ => hS1⟩, ?_⟩
  replace hST : ST true (keys ((b_a0, Obj.cells (#[v_a0_in_, v_a0_creds, v_a0_uses, v_a0_words, v_a0_todo, (.int .i64 a0_n)] : Array Value) 53 (0, 0)) :: (R_a0_in_ ++ (R_a0_creds ++ (R_a0_uses ++ (R_a0_words ++ (R_a0_todo ++ []))))))) w _ _ ((b25, Obj.cells ((encCred a1).toArray : Array Value) 36 (0, 0)) :: ((b1, Obj.cells ((encCred a1).toArray : Array Value) 36 (0, 0)) :: ((b_a0, Obj.cells (#[v_a0_in_, v_a0_creds, v_a0_uses, v_a0_words, v_a0_todo, (.int .i64 a0_n)] : Array Value) 53 (0, 0)) :: (R_a0_creds ++ (R_a0_in_ ++ (R_a0_uses ++ (R_a0_words ++ (R_a0_todo ++ [])))))))) := hST.perm (permD [[(b25, Obj.cells ((encCred a1).toArray : Array Value) 36 (0, 0))], [(b1, Obj.cells ((encCred a1).toArray : Array Value) 36 (0, 0))], [(b_a0, Obj.cells (#[v_a0_in_, v_a0_creds, v_a0_uses, v_a0_words, v_a0_todo, (.int .i64 a0_n)] : Array Value) 53 (0, 0))], R_a0_in_, R_a0_creds] [0, 1, 2, 3, 4] [0, 1, 2, 4, 3] ((R_a0_uses ++ (R_a0_words ++ (R_a0_todo ++ [])))) (by decide) rfl rfl)
  obtain ⟨l27, hb28, hm⟩ := bind_some hm
  refine PX_e 7 rfl (by kernel_rfl) (.inl rfl) rfl (by decide) (E_append (enc := encCred) (v := v_a0_creds) (vs := (.slice (some ⟨b25, 0, none⟩) 1 1)) (R := R_a0_creds) [_, _, _] hST lenCred (by decide) oneCred Try.underlying24 info36.1 info36.2.1 rfl info36.2.2.1 info36.2.2.2 rfl rfl h_a0_creds (Sl.lit (enc := encCred) (l := [a1]) lenCred rfl (Nat.le_of_ble_eq_true rfl) rfl (hST.at_ (.head _))) hb28 (fun W29 v32 R30 hST hR31 => ?_))
  replace hST : ST true (keys ((b_a0, Obj.cells (#[v_a0_in_, v_a0_creds, v_a0_uses, v_a0_words, v_a0_todo, (.int .i64 a0_n)] : Array Value) 53 (0, 0)) :: (R_a0_in_ ++ (R_a0_creds ++ (R_a0_uses ++ (R_a0_words ++ (R_a0_todo ++ []))))))) w _ _ ((b25, Obj.cells ((encCred a1).toArray : Array Value) 36 (0, 0)) :: ((b1, Obj.cells ((encCred a1).toArray : Array Value) 36 (0, 0)) :: ((b_a0, Obj.cells (#[v_a0_in_, v_a0_creds, v_a0_uses, v_a0_words, v_a0_todo, (.int .i64 a0_n)] : Array Value) 53 (0, 0)) :: (R30 ++ (R_a0_in_ ++ (R_a0_uses ++ (R_a0_words ++ (R_a0_todo ++ [])))))))) := hST
  have hS0 : Has μ0 ((b1, Obj.cells ((encCred a1).toArray : Array Value) 36 (0, 0)) :: []) _ := hST.has.sub (Sub.refl _) (fun p hq => ((List.mem_cons.1 hq).elim (fun hq => by rw [hq]; exact (.tail _ (.head _))) (fun hq => (absurd hq List.not_mem_nil))))
  have hS1 : Has μ0 ((b_a0, Obj.cells (#[v_a0_in_, v_a0_creds, v_a0_uses, v_a0_words, v_a0_todo, (.int .i64 a0_n)] : Array Value) 53 (0, 0)) :: []) _ := hST.has.sub (Sub.refl _) (fun p hq => ((List.mem_cons.1 hq).elim (fun hq => by rw [hq]; exact (.tail _ (.tail _ (.head _)))) (fun hq => (absurd hq List.not_mem_nil))))
  refine ⟨⟨hS0, fun _ => hS1⟩, ?_⟩
  refine PX_v 8 rfl (by kernel_rfl) (.inl rfl) rfl (by decide) (fun _ _ h => ⟨h.1, til (by rfl) h.2⟩) ⟨hS0, fun _ => hS1⟩ (fun _ _ _ _ => R_nilCheck rfl) ?_
  refine PX_v 9 rfl (by kernel_rfl) (.inl rfl) rfl (by decide) (fun _ _ h => ⟨h.1, til (by rfl) h.2⟩) ⟨hS0, fun _ => hS1⟩ (fun _ _ _ _ => R_field fa53_1 rfl) ?_
  obtain ⟨A33, c34, rfl⟩ := hR31.form
  refine PX_e0 10 rfl (by kernel_rfl) (.inl rfl) rfl (E_store [_, _] (.slice A33 l27.length c34) (#[v_a0_in_, (.slice A33 l27.length c34), v_a0_uses, v_a0_words, v_a0_todo, (.int .i64 a0_n)]) hST rfl rfl Try.sizeOf24 (by simp [Value.cells, Value.oneCell']) (Nat.le_of_ble_eq_true rfl) rfl (fun W35 hST => ?_))
  replace hST : ST true (keys ((b_a0, Obj.cells (#[v_a0_in_, v_a0_creds, v_a0_uses, v_a0_words, v_a0_todo, (.int .i64 a0_n)] : Array Value) 53 (0, 0)) :: (R_a0_in_ ++ (R_a0_creds ++ (R_a0_uses ++ (R_a0_words ++ (R_a0_todo ++ []))))))) w _ _ ((b25, Obj.cells ((encCred a1).toArray : Array Value) 36 (0, 0)) :: ((b1, Obj.cells ((encCred a1).toArray : Array Value) 36 (0, 0)) :: ((b_a0, Obj.cells (#[v_a0_in_, (.slice A33 l27.length c34), v_a0_uses, v_a0_words, v_a0_todo, (.int .i64 a0_n)] : Array Value) 53 (0, 0)) :: (R30 ++ (R_a0_in_ ++ (R_a0_uses ++ (R_a0_words ++ (R_a0_todo ++ [])))))))) := hST
  have hS0 : Has μ0 ((b1, Obj.cells ((encCred a1).toArray : Array Value) 36 (0, 0)) :: []) _ := hST.has.sub (Sub.refl _) (fun p hq => ((List.mem_cons.1 hq).elim (fun hq => by rw [hq]; exact (.tail _ (.head _))) (fun hq => (absurd hq List.not_mem_nil))))
  refine ⟨⟨hS0, fun h => ffl (by kernel_rfl) h⟩, ?_⟩
  refine PX_done (by kernel_rfl) ?_
  refine sq_n ?_
  replace hST : ST true (keys ((b_a0, Obj.cells (#[v_a0_in_, v_a0_creds, v_a0_uses, v_a0_words, v_a0_todo, (.int .i64 a0_n)] : Array Value) 53 (0, 0)) :: (R_a0_in_ ++ (R_a0_creds ++ (R_a0_uses ++ (R_a0_words ++ (R_a0_todo ++ []))))))) w _ _ ((b1, Obj.cells ((encCred a1).toArray : Array Value) 36 (0, 0)) :: ((b_a0, Obj.cells (#[v_a0_in_, (.slice A33 l27.length c34), v_a0_uses, v_a0_words, v_a0_todo, (.int .i64 a0_n)] : Array Value) 53 (0, 0)) :: (R30 ++ (R_a0_in_ ++ (R_a0_uses ++ (R_a0_words ++ (R_a0_todo ++ []))))))) := hST.sublist (List.Sublist.cons _ (List.Sublist.refl _))
  refine CW_seq ?_
  refine CW_seq ?_
  refine CW_region ?_
  refine LV (R_load (v := (.agg (encCred a1).toArray)) rfl (load_boxA hST.has (.head _) (encCred a1) rfl Try.isAgg36 Try.sizeOf36)) ?_
  obtain ⟨r36, hr37, hm⟩ := bind_some hm
  refine LE (E_givesRow (args := [(.agg (encCred a1).toArray)]) [_, _] _ hST rfl Try.call44 (by exact args1 rfl) ((w_cred_Roles a1 _ _  hr37)) (fun W38 v41 μ39 R42 hST hle40 hR43 => ?_))
  replace hST : ST true (keys ((b_a0, Obj.cells (#[v_a0_in_, v_a0_creds, v_a0_uses, v_a0_words, v_a0_todo, (.int .i64 a0_n)] : Array Value) 53 (0, 0)) :: (R_a0_in_ ++ (R_a0_creds ++ (R_a0_uses ++ (R_a0_words ++ (R_a0_todo ++ []))))))) w _ _ ((b1, Obj.cells ((encCred a1).toArray : Array Value) 36 (0, 0)) :: ((b_a0, Obj.cells (#[v_a0_in_, (.slice A33 l27.length c34), v_a0_uses, v_a0_words, v_a0_todo, (.int .i64 a0_n)] : Array Value) 53 (0, 0)) :: (R42 ++ (R30 ++ (R_a0_in_ ++ (R_a0_uses ++ (R_a0_words ++ (R_a0_todo ++ [])))))))) := hST
  obtain ⟨μ46, hST, hle47, hs48⟩ := ST.pubRow (X := [_, _]) hST hR43 lenRole
  simp only [List.cons_append, List.nil_append] at hST
  obtain ⟨_, hg49, hm⟩ := bind_some hm
  refine LQ (R_sliceFrom (i := 1) Try.underlying47 Try.sizeOf34 rfl rfl hs48 (chk_1 hg49) (chk_2 hg49)) (fun v44 hs45 => ?_)
  refine LV (R_len Try.underlying47 rfl hs45.1) ?_
  refine LV (R_move (v := (.int .i64 0)) rfl) ?_
  refine LW_nil ?_
  refine sq_n ?_
  replace hST : ST true (keys ((b_a0, Obj.cells (#[v_a0_in_, v_a0_creds, v_a0_uses, v_a0_words, v_a0_todo, (.int .i64 a0_n)] : Array Value) 53 (0, 0)) :: (R_a0_in_ ++ (R_a0_creds ++ (R_a0_uses ++ (R_a0_words ++ (R_a0_todo ++ []))))))) w _ _ ((b1, Obj.cells ((encCred a1).toArray : Array Value) 36 (0, 0)) :: ((b_a0, Obj.cells (#[v_a0_in_, (.slice A33 l27.length c34), v_a0_uses, v_a0_words, v_a0_todo, (.int .i64 a0_n)] : Array Value) 53 (0, 0)) :: (R30 ++ (R_a0_in_ ++ (R_a0_uses ++ (R_a0_words ++ (R_a0_todo ++ []))))))) := hST
  replace hST : ST true (keys ((b_a0, Obj.cells (#[v_a0_in_, v_a0_creds, v_a0_uses, v_a0_words, v_a0_todo, (.int .i64 a0_n)] : Array Value) 53 (0, 0)) :: (R_a0_in_ ++ (R_a0_creds ++ (R_a0_uses ++ (R_a0_words ++ (R_a0_todo ++ []))))))) w _ _ ((b1, Obj.cells ((encCred a1).toArray : Array Value) 36 (0, 0)) :: ((b_a0, Obj.cells (#[v_a0_in_, (.slice A33 l27.length c34), v_a0_uses, v_a0_words, v_a0_todo, (.int .i64 a0_n)] : Array Value) 53 (0, 0)) :: (R_a0_uses ++ (R30 ++ (R_a0_in_ ++ (R_a0_words ++ (R_a0_todo ++ []))))))) := hST.perm (permD [[(b1, Obj.cells ((encCred a1).toArray : Array Value) 36 (0, 0))], [(b_a0, Obj.cells (#[v_a0_in_, (.slice A33 l27.length c34), v_a0_uses, v_a0_words, v_a0_todo, (.int .i64 a0_n)] : Array Value) 53 (0, 0))], R30, R_a0_in_, R_a0_uses] [0, 1, 2, 3, 4] [0, 1, 4, 2, 3] ((R_a0_words ++ (R_a0_todo ++ []))) (by decide) rfl rfl)
  refine CW_range (fun i E W => ∃ (l354 : List (Role × (List Cred))) (R356 : List (Nat × Obj)) (L432 : List (Nat × Obj)), (E 20 = .int .i64 (i : Nat) ∧ E 19 = .int .i64 (((r36.drop (Int.toNat 1))).length : Nat)) ∧ ST true (keys ((b_a0, Obj.cells (#[v_a0_in_, v_a0_creds, v_a0_uses, v_a0_words, v_a0_todo, (.int .i64 a0_n)] : Array Value) 53 (0, 0)) :: (R_a0_in_ ++ (R_a0_creds ++ (R_a0_uses ++ (R_a0_words ++ (R_a0_todo ++ []))))))) w W μ46 ((b1, Obj.cells ((encCred a1).toArray : Array Value) 36 (0, 0)) :: ((b_a0, Obj.cells (#[v_a0_in_, (.slice A33 l27.length c34), v_a0_uses, v_a0_words, v_a0_todo, (.int .i64 a0_n)] : Array Value) 53 (0, 0)) :: (R356 ++ (R30 ++ (R_a0_in_ ++ (R_a0_words ++ (R_a0_todo ++ L432))))))) ∧ E 0 = (.pointer (some ⟨b_a0, 0, none⟩)) ∧ E 3 = (.pointer (some ⟨b1, 0, none⟩)) ∧ E 18 = v44 ∧ DeepE (fun (x : Role) => (.agg (encRole x).toArray)) (Row 36 encCred 9) v_a0_uses l354 R356 ∧ m_model_Model_note_w_L1 a1 a0_words l27 (((r36.drop (Int.toNat 1))).drop i) l354 = some r) ((r36.drop (Int.toNat 1))).length hs45.1.len ⟨a0_uses, R_a0_uses, _, ⟨rfl, rfl⟩, (hST.sublist (List.Sublist.refl _)), rfl, rfl, rfl, h_a0_uses, hm⟩ (by decide) (by decide) (by decide) (fun _ _ _ h => by obtain ⟨_, _, _, eIN, _⟩ := h; exact eIN) ?_ ?_
  · rintro i278 E W hi284 ⟨l354, R356, L432, ⟨eI, eN⟩, hST, e434, e435, e436, hs355, hm433⟩
    obtain ⟨x279, xs280, hx282, hx281, hx283⟩ := drop_cons hi284
    rw [hx282] at hm433
    rw [m_model_Model_note_w_L1] at hm433
    refine CW_block ?_
    refine CW_seq ?_
    refine CW_region ?_
    refine LQ (R_indexP (enc := encRole) (i := (i278 : Int)) (x0 := x279) Try.underlying47 Try.sizeOf34 e436 eI hs45.1 (Int.natCast_nonneg _) hx281) (fun p437 hp438 => ?_)
    refine LV (R_load rfl (load_atA hST.has hp438 Try.isAgg34 Try.sizeOf34)) ?_
    refine LE (E_alloc hST Try.zeroValue34 (fun W441 b440 hST => ?_))
    refine LW_e0 (.inl rfl) rfl (E_store [] (.agg (encRole x279).toArray) ((encRole x279).toArray) hST rfl rfl Try.sizeOf34 (oneRole x279) (Nat.le_of_ble_eq_true rfl) rfl (fun W442 hST => ?_))
    refine LW_nil ?_
    refine sq_n ?_
    refine PX_start (fun l W => Has μ46 ((b440, Obj.cells ((encRole x279).toArray : Array Value) 34 (0, 0)) :: ((b1, Obj.cells ((encCred a1).toArray : Array Value) 36 (0, 0)) :: ((b_a0, Obj.cells (#[v_a0_in_, (.slice A33 l27.length c34), v_a0_uses, v_a0_words, v_a0_todo, (.int .i64 a0_n)] : Array Value) 53 (0, 0)) :: []))) W) Try_mixed ?_
    replace hST := hST.drew
    replace hST : ST true (keys ((b_a0, Obj.cells (#[v_a0_in_, v_a0_creds, v_a0_uses, v_a0_words, v_a0_todo, (.int .i64 a0_n)] : Array Value) 53 (0, 0)) :: (R_a0_in_ ++ (R_a0_creds ++ (R_a0_uses ++ (R_a0_words ++ (R_a0_todo ++ []))))))) w _ _ ((b440, Obj.cells ((encRole x279).toArray : Array Value) 34 (0, 0)) :: ((b1, Obj.cells ((encCred a1).toArray : Array Value) 36 (0, 0)) :: ((b_a0, Obj.cells (#[v_a0_in_, (.slice A33 l27.length c34), v_a0_uses, v_a0_words, v_a0_todo, (.int .i64 a0_n)] : Array Value) 53 (0, 0)) :: (R356 ++ (R30 ++ (R_a0_in_ ++ (R_a0_words ++ (R_a0_todo ++ L432)))))))) := hST
    have hS0 : Has μ46 ((b440, Obj.cells ((encRole x279).toArray : Array Value) 34 (0, 0)) :: ((b1, Obj.cells ((encCred a1).toArray : Array Value) 36 (0, 0)) :: ((b_a0, Obj.cells (#[v_a0_in_, (.slice A33 l27.length c34), v_a0_uses, v_a0_words, v_a0_todo, (.int .i64 a0_n)] : Array Value) 53 (0, 0)) :: []))) _ := hST.has.sub (Sub.refl _) (fun p hq => ((List.mem_cons.1 hq).elim (fun hq => by rw [hq]; exact (.head _)) (fun hq => ((List.mem_cons.1 hq).elim (fun hq => by rw [hq]; exact (.tail _ (.head _))) (fun hq => ((List.mem_cons.1 hq).elim (fun hq => by rw [hq]; exact (.tail _ (.tail _ (.head _)))) (fun hq => (absurd hq List.not_mem_nil))))))))
    refine PV 0 rfl hS0 (R_move (v := (.pointer (some ⟨b_a0, 0, none⟩))) e434) ?_
    refine PV 1 rfl hS0 (R_nilCheck rfl) ?_
    refine PV 2 rfl hS0 (R_field fa53_2 rfl) ?_
    refine PX_v 3 rfl (by kernel_rfl) (.inl rfl) rfl (by decide) (fun _ _ h => h) hS0 (fun l W hpd hs => have hS := hs; R_load (v := v_a0_uses) rfl (load_box1 hS (.tail _ (.tail _ (.head _))) rfl Try.isAgg50)) ?_
    refine PX_v 4 rfl (by kernel_rfl) (.inl rfl) rfl (by decide) (fun _ _ h => h) hS0 (fun l W hpd hs => have hS := hs; R_load (v := (.agg (encRole x279).toArray)) rfl (load_boxA hS (.head _) (encRole x279) rfl Try.isAgg34 Try.sizeOf34)) ?_
    refine PX_v 5 rfl (by kernel_rfl) (.inl rfl) rfl (by decide) (fun _ _ h => h) hS0 (fun l W hpd hs => have hS := hs; R_load (v := (.agg (encCred a1).toArray)) e435 (load_boxA hS (.tail _ (.head _)) (encCred a1) rfl Try.isAgg36 Try.sizeOf36)) ?_
    refine PX_e 6 rfl (by kernel_rfl) (.inl rfl) rfl (by decide) (E_buildSlice (qs := #[(0, (.agg (encCred a1).toArray))]) (cs := (encCred a1).toArray) hST (parts1 rfl) (run_lit [(.agg (encCred a1).toArray)] Try.underlying24 Try.sizeOf36 Try.zeroValue36 (by decide) rfl (by intro v hv; simp only [List.mem_cons, List.not_mem_nil, or_false] at hv; rcases hv with rfl <;> rfl) rfl rfl) (fun W486 b485 hST => ?_))
    have hS0 : Has μ46 ((b440, Obj.cells ((encRole x279).toArray : Array Value) 34 (0, 0)) :: ((b1, Obj.cells ((encCred a1).toArray : Array Value) 36 (0, 0)) :: ((b_a0, Obj.cells (#[v_a0_in_, (.slice A33 l27.length c34), v_a0_uses, v_a0_words, v_a0_todo, (.int .i64 a0_n)] : Array Value) 53 (0, 0)) :: []))) _ := hST.has.sub (Sub.refl _) (fun p hq => ((List.mem_cons.1 hq).elim (fun hq => by rw [hq]; exact (.tail _ (.head _))) (fun hq => ((List.mem_cons.1 hq).elim (fun hq => by rw [hq]; exact (.tail _ (.tail _ (.head _)))) (fun hq => ((List.mem_cons.1 hq).elim (fun hq => by rw [hq]; exact (.tail _ (.tail _ (.tail _ (.head _))))) (fun hq => (absurd hq List.not_mem_nil))))))))
    refine ⟨hS0, ?_⟩
    obtain ⟨lv487, hd488⟩ := hs355
    refine PX_e 7 rfl (by kernel_rfl) (.inl rfl) rfl (by decide) (E_mapEntry (k := x279) (x0 := []) [_, _, _, _] beqRole_iff kl34 Try.underlying50 Try.zeroValue24 (Row.nil _ _ _) hST hd488 rfl rfl (fun W490 v491 st489 R492 R493 hST hR495 hR494 => ?_))
    replace hST : ST true (keys ((b_a0, Obj.cells (#[v_a0_in_, v_a0_creds, v_a0_uses, v_a0_words, v_a0_todo, (.int .i64 a0_n)] : Array Value) 53 (0, 0)) :: (R_a0_in_ ++ (R_a0_creds ++ (R_a0_uses ++ (R_a0_words ++ (R_a0_todo ++ []))))))) w _ _ ((b485, Obj.cells ((encCred a1).toArray : Array Value) 36 (0, 0)) :: ((b440, Obj.cells ((encRole x279).toArray : Array Value) 34 (0, 0)) :: ((b1, Obj.cells ((encCred a1).toArray : Array Value) 36 (0, 0)) :: ((b_a0, Obj.cells (#[v_a0_in_, (.slice A33 l27.length c34), v_a0_uses, v_a0_words, v_a0_todo, (.int .i64 a0_n)] : Array Value) 53 (0, 0)) :: (R492 ++ (R493 ++ (R30 ++ (R_a0_in_ ++ (R_a0_words ++ (R_a0_todo ++ L432)))))))))) := hST
    have hS0 : Has μ46 ((b440, Obj.cells ((encRole x279).toArray : Array Value) 34 (0, 0)) :: ((b1, Obj.cells ((encCred a1).toArray : Array Value) 36 (0, 0)) :: ((b_a0, Obj.cells (#[v_a0_in_, (.slice A33 l27.length c34), v_a0_uses, v_a0_words, v_a0_todo, (.int .i64 a0_n)] : Array Value) 53 (0, 0)) :: []))) _ := hST.has.sub (Sub.refl _) (fun p hq => ((List.mem_cons.1 hq).elim (fun hq => by rw [hq]; exact (.tail _ (.head _))) (fun hq => ((List.mem_cons.1 hq).elim (fun hq => by rw [hq]; exact (.tail _ (.tail _ (.head _)))) (fun hq => ((List.mem_cons.1 hq).elim (fun hq => by rw [hq]; exact (.tail _ (.tail _ (.tail _ (.head _))))) (fun hq => (absurd hq List.not_mem_nil))))))))
    refine ⟨hS0, ?_⟩
    refine PV 8 rfl hS0 (R_extract (v := v491) rfl rfl) ?_
    refine PV 10 rfl hS0 (R_extract (v := (.int .i64 ((st489 : Int)))) rfl rfl) ?_
    replace hST : ST true (keys ((b_a0, Obj.cells (#[v_a0_in_, v_a0_creds, v_a0_uses, v_a0_words, v_a0_todo, (.int .i64 a0_n)] : Array Value) 53 (0, 0)) :: (R_a0_in_ ++ (R_a0_creds ++ (R_a0_uses ++ (R_a0_words ++ (R_a0_todo ++ []))))))) w _ _ ((b485, Obj.cells ((encCred a1).toArray : Array Value) 36 (0, 0)) :: ((b440, Obj.cells ((encRole x279).toArray : Array Value) 34 (0, 0)) :: ((b1, Obj.cells ((encCred a1).toArray : Array Value) 36 (0, 0)) :: ((b_a0, Obj.cells (#[v_a0_in_, (.slice A33 l27.length c34), v_a0_uses, v_a0_words, v_a0_todo, (.int .i64 a0_n)] : Array Value) 53 (0, 0)) :: (R493 ++ (R492 ++ (R30 ++ (R_a0_in_ ++ (R_a0_words ++ (R_a0_todo ++ L432)))))))))) := hST.perm (permD [[(b485, Obj.cells ((encCred a1).toArray : Array Value) 36 (0, 0))], [(b440, Obj.cells ((encRole x279).toArray : Array Value) 34 (0, 0))], [(b1, Obj.cells ((encCred a1).toArray : Array Value) 36 (0, 0))], [(b_a0, Obj.cells (#[v_a0_in_, (.slice A33 l27.length c34), v_a0_uses, v_a0_words, v_a0_todo, (.int .i64 a0_n)] : Array Value) 53 (0, 0))], R492, R493] [0, 1, 2, 3, 4, 5] [0, 1, 2, 3, 5, 4] ((R30 ++ (R_a0_in_ ++ (R_a0_words ++ (R_a0_todo ++ L432))))) (by decide) rfl rfl)
    obtain ⟨l496, hb497, hm433⟩ := bind_some hm433
    refine PX_e 9 rfl (by kernel_rfl) (.inl rfl) rfl (by decide) (E_append (enc := encCred) (v := v491) (vs := (.slice (some ⟨b485, 0, none⟩) 1 1)) (R := R493) [_, _, _, _] hST lenCred (by decide) oneCred Try.underlying24 info36.1 info36.2.1 rfl info36.2.2.1 info36.2.2.2 rfl rfl hR495 (Sl.lit (enc := encCred) (l := [a1]) lenCred rfl (Nat.le_of_ble_eq_true rfl) rfl (hST.at_ (.head _))) hb497 (fun W498 v501 R499 hST hR500 => ?_))
    replace hST : ST true (keys ((b_a0, Obj.cells (#[v_a0_in_, v_a0_creds, v_a0_uses, v_a0_words, v_a0_todo, (.int .i64 a0_n)] : Array Value) 53 (0, 0)) :: (R_a0_in_ ++ (R_a0_creds ++ (R_a0_uses ++ (R_a0_words ++ (R_a0_todo ++ []))))))) w _ _ ((b485, Obj.cells ((encCred a1).toArray : Array Value) 36 (0, 0)) :: ((b440, Obj.cells ((encRole x279).toArray : Array Value) 34 (0, 0)) :: ((b1, Obj.cells ((encCred a1).toArray : Array Value) 36 (0, 0)) :: ((b_a0, Obj.cells (#[v_a0_in_, (.slice A33 l27.length c34), v_a0_uses, v_a0_words, v_a0_todo, (.int .i64 a0_n)] : Array Value) 53 (0, 0)) :: (R499 ++ (R492 ++ (R30 ++ (R_a0_in_ ++ (R_a0_words ++ (R_a0_todo ++ L432)))))))))) := hST
    have hS0 : Has μ46 ((b440, Obj.cells ((encRole x279).toArray : Array Value) 34 (0, 0)) :: ((b1, Obj.cells ((encCred a1).toArray : Array Value) 36 (0, 0)) :: ((b_a0, Obj.cells (#[v_a0_in_, (.slice A33 l27.length c34), v_a0_uses, v_a0_words, v_a0_todo, (.int .i64 a0_n)] : Array Value) 53 (0, 0)) :: []))) _ := hST.has.sub (Sub.refl _) (fun p hq => ((List.mem_cons.1 hq).elim (fun hq => by rw [hq]; exact (.tail _ (.head _))) (fun hq => ((List.mem_cons.1 hq).elim (fun hq => by rw [hq]; exact (.tail _ (.tail _ (.head _)))) (fun hq => ((List.mem_cons.1 hq).elim (fun hq => by rw [hq]; exact (.tail _ (.tail _ (.tail _ (.head _))))) (fun hq => (absurd hq List.not_mem_nil))))))))
    refine ⟨hS0, ?_⟩
    replace hST : ST true (keys ((b_a0, Obj.cells (#[v_a0_in_, v_a0_creds, v_a0_uses, v_a0_words, v_a0_todo, (.int .i64 a0_n)] : Array Value) 53 (0, 0)) :: (R_a0_in_ ++ (R_a0_creds ++ (R_a0_uses ++ (R_a0_words ++ (R_a0_todo ++ []))))))) w _ _ ((b485, Obj.cells ((encCred a1).toArray : Array Value) 36 (0, 0)) :: ((b440, Obj.cells ((encRole x279).toArray : Array Value) 34 (0, 0)) :: ((b1, Obj.cells ((encCred a1).toArray : Array Value) 36 (0, 0)) :: ((b_a0, Obj.cells (#[v_a0_in_, (.slice A33 l27.length c34), v_a0_uses, v_a0_words, v_a0_todo, (.int .i64 a0_n)] : Array Value) 53 (0, 0)) :: (R492 ++ (R499 ++ (R30 ++ (R_a0_in_ ++ (R_a0_words ++ (R_a0_todo ++ L432)))))))))) := hST.perm (permD [[(b485, Obj.cells ((encCred a1).toArray : Array Value) 36 (0, 0))], [(b440, Obj.cells ((encRole x279).toArray : Array Value) 34 (0, 0))], [(b1, Obj.cells ((encCred a1).toArray : Array Value) 36 (0, 0))], [(b_a0, Obj.cells (#[v_a0_in_, (.slice A33 l27.length c34), v_a0_uses, v_a0_words, v_a0_todo, (.int .i64 a0_n)] : Array Value) 53 (0, 0))], R499, R492] [0, 1, 2, 3, 4, 5] [0, 1, 2, 3, 5, 4] ((R30 ++ (R_a0_in_ ++ (R_a0_words ++ (R_a0_todo ++ L432))))) (by decide) rfl rfl)
    refine PX_e0 11 rfl (by kernel_rfl) (.inl rfl) rfl (E_entryStore (e := 0) (z := l496) [_, _, _, _] beqRole_iff kl34 hST hR494 rfl rfl rfl hR500 (fun W502 lv503 R504 hST hR505 => ?_))
    replace hST : ST true (keys ((b_a0, Obj.cells (#[v_a0_in_, v_a0_creds, v_a0_uses, v_a0_words, v_a0_todo, (.int .i64 a0_n)] : Array Value) 53 (0, 0)) :: (R_a0_in_ ++ (R_a0_creds ++ (R_a0_uses ++ (R_a0_words ++ (R_a0_todo ++ []))))))) w _ _ ((b485, Obj.cells ((encCred a1).toArray : Array Value) 36 (0, 0)) :: ((b440, Obj.cells ((encRole x279).toArray : Array Value) 34 (0, 0)) :: ((b1, Obj.cells ((encCred a1).toArray : Array Value) 36 (0, 0)) :: ((b_a0, Obj.cells (#[v_a0_in_, (.slice A33 l27.length c34), v_a0_uses, v_a0_words, v_a0_todo, (.int .i64 a0_n)] : Array Value) 53 (0, 0)) :: (R504 ++ (R30 ++ (R_a0_in_ ++ (R_a0_words ++ (R_a0_todo ++ L432))))))))) := hST
    have hS0 : Has μ46 ((b440, Obj.cells ((encRole x279).toArray : Array Value) 34 (0, 0)) :: ((b1, Obj.cells ((encCred a1).toArray : Array Value) 36 (0, 0)) :: ((b_a0, Obj.cells (#[v_a0_in_, (.slice A33 l27.length c34), v_a0_uses, v_a0_words, v_a0_todo, (.int .i64 a0_n)] : Array Value) 53 (0, 0)) :: []))) _ := hST.has.sub (Sub.refl _) (fun p hq => ((List.mem_cons.1 hq).elim (fun hq => by rw [hq]; exact (.tail _ (.head _))) (fun hq => ((List.mem_cons.1 hq).elim (fun hq => by rw [hq]; exact (.tail _ (.tail _ (.head _)))) (fun hq => ((List.mem_cons.1 hq).elim (fun hq => by rw [hq]; exact (.tail _ (.tail _ (.tail _ (.head _))))) (fun hq => (absurd hq List.not_mem_nil))))))))
    refine ⟨hS0, ?_⟩
    refine PX_done (by kernel_rfl) ?_
    refine bq_n ?_
    refine sq_n ?_
    replace hST : ST true (keys ((b_a0, Obj.cells (#[v_a0_in_, v_a0_creds, v_a0_uses, v_a0_words, v_a0_todo, (.int .i64 a0_n)] : Array Value) 53 (0, 0)) :: (R_a0_in_ ++ (R_a0_creds ++ (R_a0_uses ++ (R_a0_words ++ (R_a0_todo ++ []))))))) w _ _ ((b1, Obj.cells ((encCred a1).toArray : Array Value) 36 (0, 0)) :: ((b_a0, Obj.cells (#[v_a0_in_, (.slice A33 l27.length c34), v_a0_uses, v_a0_words, v_a0_todo, (.int .i64 a0_n)] : Array Value) 53 (0, 0)) :: (R504 ++ (R30 ++ (R_a0_in_ ++ (R_a0_words ++ (R_a0_todo ++ L432))))))) := hST.sublist (List.Sublist.cons _ (List.Sublist.cons _ (List.Sublist.refl _)))
    exact ⟨eI, ((mput beqRole l354 x279 l496)), R504, _, ⟨rfl, eN⟩, (hST.sublist (List.Sublist.refl _)), e434, e435, e436, hR505.e, (by rw [hx283]; exact hm433)⟩
  · rintro E W ⟨l354, R356, L432, ⟨eI, eN⟩, hST, e434, e435, e436, hs355, hm433⟩
    rw [List.drop_length] at hm433
    rw [m_model_Model_note_w_L1] at hm433
    refine sq_n ?_
    refine CW_seq ?_
    refine CW_region ?_
    refine LV (R_field fa36_0 e435) ?_
    refine LV (R_load (v := (.int .i64 a1.Kind)) rfl (load_box1 hST.has (.head _) rfl Try.isAgg3)) ?_
    refine LV (R_int (k := .i64) (a := a1.Kind) (b := 3) (v := (.bool ((a1.Kind == 3)))) rfl rfl rfl) ?_
    refine LW_nil ?_
    refine sq_n ?_
    refine CW_if (b := (a1.Kind == 3)) rfl (fun hb506 => ?_) (fun hb506 => ?_)
    · replace hm433 := if_t hb506 hm433
      refine PX_start (fun l W => Has μ46 ((b1, Obj.cells ((encCred a1).toArray : Array Value) 36 (0, 0)) :: ((b_a0, Obj.cells (#[v_a0_in_, (.slice A33 l27.length c34), v_a0_uses, v_a0_words, v_a0_todo, (.int .i64 a0_n)] : Array Value) 53 (0, 0)) :: [])) W ∧ (l.getD 15 true = false → Has μ46 (R_a0_words ++ []) W)) Try_mixed ?_
      replace hST := hST.drew
      have hS0 : Has μ46 ((b1, Obj.cells ((encCred a1).toArray : Array Value) 36 (0, 0)) :: ((b_a0, Obj.cells (#[v_a0_in_, (.slice A33 l27.length c34), v_a0_uses, v_a0_words, v_a0_todo, (.int .i64 a0_n)] : Array Value) 53 (0, 0)) :: [])) _ := hST.has.sub (Sub.refl _) (fun p hq => ((List.mem_cons.1 hq).elim (fun hq => by rw [hq]; exact (.head _)) (fun hq => ((List.mem_cons.1 hq).elim (fun hq => by rw [hq]; exact (.tail _ (.head _))) (fun hq => (absurd hq List.not_mem_nil))))))
      have hS1 : Has μ46 (R_a0_words ++ []) _ := hST.has.sub (Sub.refl _) (fun p hq => ((List.mem_append.1 hq).elim (fun hq => (.tail _ (.tail _ (List.mem_append_right _ (List.mem_append_right _ (List.mem_append_right _ (List.mem_append_left _ hq))))))) (fun hq => (absurd hq List.not_mem_nil))))
      refine PX_v 0 rfl (by kernel_rfl) (.inl rfl) rfl (by decide) (fun _ _ h => ⟨h.1, til (by rfl) h.2⟩) ⟨hS0, fun _ => hS1⟩ (fun _ _ _ _ => R_move (v := (.pointer (some ⟨b_a0, 0, none⟩))) e434) ?_
      refine PX_v 1 rfl (by kernel_rfl) (.inl rfl) rfl (by decide) (fun _ _ h => ⟨h.1, til (by rfl) h.2⟩) ⟨hS0, fun _ => hS1⟩ (fun _ _ _ _ => R_nilCheck rfl) ?_
      refine PX_v 2 rfl (by kernel_rfl) (.inl rfl) rfl (by decide) (fun _ _ h => ⟨h.1, til (by rfl) h.2⟩) ⟨hS0, fun _ => hS1⟩ (fun _ _ _ _ => R_field fa53_3 rfl) ?_
      refine PX_v 3 rfl (by kernel_rfl) (.inl rfl) rfl (by decide) (fun _ _ h => ⟨h.1, til (by rfl) h.2⟩) ⟨hS0, fun _ => hS1⟩ (fun l W hpd hs => have hS := hs.1; R_load (v := v_a0_words) rfl (load_box1 hS (.tail _ (.head _)) rfl Try.isAgg51)) ?_
      refine PX_v 4 rfl (by kernel_rfl) (.inl rfl) rfl (by decide) (fun _ _ h => ⟨h.1, til (by rfl) h.2⟩) ⟨hS0, fun _ => hS1⟩ (fun _ _ _ _ => R_field fa36_5 e435) ?_
      refine PX_v 5 rfl (by kernel_rfl) (.inl rfl) rfl (by decide) (fun _ _ h => ⟨h.1, til (by rfl) h.2⟩) ⟨hS0, fun _ => hS1⟩ (fun l W hpd hs => have hS := hs.1; R_load (v := (.string a1.Word2)) rfl (load_box1 hS (.head _) rfl Try.isAgg9)) ?_
      refine PX_v 6 rfl (by kernel_rfl) (.inl rfl) rfl (by decide) (fun _ _ h => ⟨h.1, til (by rfl) h.2⟩) ⟨hS0, fun _ => hS1⟩ (fun _ _ _ _ => R_move (v := (.pointer (some ⟨b_a0, 0, none⟩))) e434) ?_
      refine PX_v 7 rfl (by kernel_rfl) (.inl rfl) rfl (by decide) (fun _ _ h => ⟨h.1, til (by rfl) h.2⟩) ⟨hS0, fun _ => hS1⟩ (fun _ _ _ _ => R_nilCheck rfl) ?_
      refine PX_v 8 rfl (by kernel_rfl) (.inl rfl) rfl (by decide) (fun _ _ h => ⟨h.1, til (by rfl) h.2⟩) ⟨hS0, fun _ => hS1⟩ (fun _ _ _ _ => R_field fa53_3 rfl) ?_
      refine PX_v 9 rfl (by kernel_rfl) (.inl rfl) rfl (by decide) (fun _ _ h => ⟨h.1, til (by rfl) h.2⟩) ⟨hS0, fun _ => hS1⟩ (fun l W hpd hs => have hS := hs.1; R_load (v := v_a0_words) rfl (load_box1 hS (.tail _ (.head _)) rfl Try.isAgg51)) ?_
      refine PX_v 10 rfl (by kernel_rfl) (.inl rfl) rfl (by decide) (fun _ _ h => ⟨h.1, til (by rfl) h.2⟩) ⟨hS0, fun _ => hS1⟩ (fun _ _ _ _ => R_field fa36_5 e435) ?_
      refine PX_v 11 rfl (by kernel_rfl) (.inl rfl) rfl (by decide) (fun _ _ h => ⟨h.1, til (by rfl) h.2⟩) ⟨hS0, fun _ => hS1⟩ (fun l W hpd hs => have hS := hs.1; R_load (v := (.string a1.Word2)) rfl (load_box1 hS (.head _) rfl Try.isAgg9)) ?_
      obtain ⟨lv553, hd554⟩ := h_a0_words
      obtain ⟨R555, hr556, hs557⟩ := DeepV.rowAt beqS_iff.1 hd554 a1.Word2
      refine PX_v 12 rfl (by kernel_rfl) (.inl rfl) rfl (by decide) (fun _ _ h => ⟨h.1, til (by rfl) h.2⟩) ⟨hS0, fun _ => hS1⟩ (fun l W hpd hs => have hS := (hs.2 (hpd.bar 15 [12] (by kernel_rfl) rfl)); R_lookupDeep (k := a1.Word2) (z := (.slice none 0 0)) kl9 Try.underlying51 Try.zeroValue24 rfl rfl hd554 (fun b o hq => hS.2 b o (List.mem_append_left _ hq))) ?_
      refine PX_v 13 rfl (by kernel_rfl) (.inl rfl) rfl (by decide) (fun _ _ h => ⟨h.1, til (by rfl) h.2⟩) ⟨hS0, fun _ => hS1⟩ (fun l W hpd hs => have hS := hs.1; R_load (v := (.agg (encCred a1).toArray)) e435 (load_boxA hS (.head _) (encCred a1) rfl Try.isAgg36 Try.sizeOf36)) ?_
      refine PX_e 14 rfl (by kernel_rfl) (.inl rfl) rfl (by decide) (E_buildSlice (qs := #[(0, (.agg (encCred a1).toArray))]) (cs := (encCred a1).toArray) hST (parts1 rfl) (run_lit [(.agg (encCred a1).toArray)] Try.underlying24 Try.sizeOf36 Try.zeroValue36 (by decide) rfl (by intro v hv; simp only [List.mem_cons, List.not_mem_nil, or_false] at hv; rcases hv with rfl <;> rfl) rfl rfl) (fun W559 b558 hST => ?_))
      have hS0 : Has μ46 ((b1, Obj.cells ((encCred a1).toArray : Array Value) 36 (0, 0)) :: ((b_a0, Obj.cells (#[v_a0_in_, (.slice A33 l27.length c34), v_a0_uses, v_a0_words, v_a0_todo, (.int .i64 a0_n)] : Array Value) 53 (0, 0)) :: [])) _ := hST.has.sub (Sub.refl _) (fun p hq => ((List.mem_cons.1 hq).elim (fun hq => by rw [hq]; exact (.tail _ (.head _))) (fun hq => ((List.mem_cons.1 hq).elim (fun hq => by rw [hq]; exact (.tail _ (.tail _ (.head _)))) (fun hq => (absurd hq List.not_mem_nil))))))
      have hS1 : Has μ46 (R_a0_words ++ []) _ := hST.has.sub (Sub.refl _) (fun p hq => ((List.mem_append.1 hq).elim (fun hq => (.tail _ (.tail _ (.tail _ (List.mem_append_right _ (List.mem_append_right _ (List.mem_append_right _ (List.mem_append_left _ hq)))))))) (fun hq => (absurd hq List.not_mem_nil))))
      refine ⟨⟨hS0, fun _ => hS1⟩, ?_⟩
      replace hST : ST true (keys ((b_a0, Obj.cells (#[v_a0_in_, v_a0_creds, v_a0_uses, v_a0_words, v_a0_todo, (.int .i64 a0_n)] : Array Value) 53 (0, 0)) :: (R_a0_in_ ++ (R_a0_creds ++ (R_a0_uses ++ (R_a0_words ++ (R_a0_todo ++ []))))))) w _ _ ((b558, Obj.cells ((encCred a1).toArray : Array Value) 36 (0, 0)) :: ((b1, Obj.cells ((encCred a1).toArray : Array Value) 36 (0, 0)) :: ((b_a0, Obj.cells (#[v_a0_in_, (.slice A33 l27.length c34), v_a0_uses, v_a0_words, v_a0_todo, (.int .i64 a0_n)] : Array Value) 53 (0, 0)) :: (R_a0_words ++ (R356 ++ (R30 ++ (R_a0_in_ ++ (R_a0_todo ++ L432)))))))) := hST.perm (permD [[(b558, Obj.cells ((encCred a1).toArray : Array Value) 36 (0, 0))], [(b1, Obj.cells ((encCred a1).toArray : Array Value) 36 (0, 0))], [(b_a0, Obj.cells (#[v_a0_in_, (.slice A33 l27.length c34), v_a0_uses, v_a0_words, v_a0_todo, (.int .i64 a0_n)] : Array Value) 53 (0, 0))], R356, R30, R_a0_in_, R_a0_words] [0, 1, 2, 3, 4, 5, 6] [0, 1, 2, 6, 3, 4, 5] ((R_a0_todo ++ L432)) (by decide) rfl rfl)
      obtain ⟨R560, R561, hp562, hq563, hh564⟩ := DeepV.open beqS_iff.1 (Row.nil _ _ _) hd554 a1.Word2
      replace hST : ST true (keys ((b_a0, Obj.cells (#[v_a0_in_, v_a0_creds, v_a0_uses, v_a0_words, v_a0_todo, (.int .i64 a0_n)] : Array Value) 53 (0, 0)) :: (R_a0_in_ ++ (R_a0_creds ++ (R_a0_uses ++ (R_a0_words ++ (R_a0_todo ++ []))))))) w _ _ ((b558, Obj.cells ((encCred a1).toArray : Array Value) 36 (0, 0)) :: ((b1, Obj.cells ((encCred a1).toArray : Array Value) 36 (0, 0)) :: ((b_a0, Obj.cells (#[v_a0_in_, (.slice A33 l27.length c34), v_a0_uses, v_a0_words, v_a0_todo, (.int .i64 a0_n)] : Array Value) 53 (0, 0)) :: (R560 ++ (R561 ++ (R356 ++ (R30 ++ (R_a0_in_ ++ (R_a0_todo ++ L432))))))))) := hST.perm (List.Perm.append_left [_, _, _] ((List.Perm.append_right _ hp562).trans (List.Perm.of_eq (List.append_assoc _ _ _))))
      replace hST : ST true (keys ((b_a0, Obj.cells (#[v_a0_in_, v_a0_creds, v_a0_uses, v_a0_words, v_a0_todo, (.int .i64 a0_n)] : Array Value) 53 (0, 0)) :: (R_a0_in_ ++ (R_a0_creds ++ (R_a0_uses ++ (R_a0_words ++ (R_a0_todo ++ []))))))) w _ _ ((b558, Obj.cells ((encCred a1).toArray : Array Value) 36 (0, 0)) :: ((b1, Obj.cells ((encCred a1).toArray : Array Value) 36 (0, 0)) :: ((b_a0, Obj.cells (#[v_a0_in_, (.slice A33 l27.length c34), v_a0_uses, v_a0_words, v_a0_todo, (.int .i64 a0_n)] : Array Value) 53 (0, 0)) :: (R561 ++ (R560 ++ (R356 ++ (R30 ++ (R_a0_in_ ++ (R_a0_todo ++ L432))))))))) := hST.perm (permD [[(b558, Obj.cells ((encCred a1).toArray : Array Value) 36 (0, 0))], [(b1, Obj.cells ((encCred a1).toArray : Array Value) 36 (0, 0))], [(b_a0, Obj.cells (#[v_a0_in_, (.slice A33 l27.length c34), v_a0_uses, v_a0_words, v_a0_todo, (.int .i64 a0_n)] : Array Value) 53 (0, 0))], R560, R561] [0, 1, 2, 3, 4] [0, 1, 2, 4, 3] ((R356 ++ (R30 ++ (R_a0_in_ ++ (R_a0_todo ++ L432))))) (by decide) rfl rfl)
      obtain ⟨l565, hb566, hm433⟩ := bind_some hm433
      refine PX_e 15 rfl (by kernel_rfl) (.inl rfl) rfl (by decide) (E_append (enc := encCred) (v := (valAt beqS lv553 a1.Word2 (.slice none 0 0))) (vs := (.slice (some ⟨b558, 0, none⟩) 1 1)) (R := R561) [_, _, _] hST lenCred (by decide) oneCred Try.underlying24 info36.1 info36.2.1 rfl info36.2.2.1 info36.2.2.2 rfl rfl hq563 (Sl.lit (enc := encCred) (l := [a1]) lenCred rfl (Nat.le_of_ble_eq_true rfl) rfl (hST.at_ (.head _))) hb566 (fun W567 v570 R568 hST hR569 => ?_))
      replace hST : ST true (keys ((b_a0, Obj.cells (#[v_a0_in_, v_a0_creds, v_a0_uses, v_a0_words, v_a0_todo, (.int .i64 a0_n)] : Array Value) 53 (0, 0)) :: (R_a0_in_ ++ (R_a0_creds ++ (R_a0_uses ++ (R_a0_words ++ (R_a0_todo ++ []))))))) w _ _ ((b558, Obj.cells ((encCred a1).toArray : Array Value) 36 (0, 0)) :: ((b1, Obj.cells ((encCred a1).toArray : Array Value) 36 (0, 0)) :: ((b_a0, Obj.cells (#[v_a0_in_, (.slice A33 l27.length c34), v_a0_uses, v_a0_words, v_a0_todo, (.int .i64 a0_n)] : Array Value) 53 (0, 0)) :: (R568 ++ (R560 ++ (R356 ++ (R30 ++ (R_a0_in_ ++ (R_a0_todo ++ L432))))))))) := hST
      have hS0 : Has μ46 ((b1, Obj.cells ((encCred a1).toArray : Array Value) 36 (0, 0)) :: ((b_a0, Obj.cells (#[v_a0_in_, (.slice A33 l27.length c34), v_a0_uses, v_a0_words, v_a0_todo, (.int .i64 a0_n)] : Array Value) 53 (0, 0)) :: [])) _ := hST.has.sub (Sub.refl _) (fun p hq => ((List.mem_cons.1 hq).elim (fun hq => by rw [hq]; exact (.tail _ (.head _))) (fun hq => ((List.mem_cons.1 hq).elim (fun hq => by rw [hq]; exact (.tail _ (.tail _ (.head _)))) (fun hq => (absurd hq List.not_mem_nil))))))
      refine ⟨⟨hS0, fun h => ffl (by kernel_rfl) h⟩, ?_⟩
      replace hST : ST true (keys ((b_a0, Obj.cells (#[v_a0_in_, v_a0_creds, v_a0_uses, v_a0_words, v_a0_todo, (.int .i64 a0_n)] : Array Value) 53 (0, 0)) :: (R_a0_in_ ++ (R_a0_creds ++ (R_a0_uses ++ (R_a0_words ++ (R_a0_todo ++ []))))))) w _ _ ((b558, Obj.cells ((encCred a1).toArray : Array Value) 36 (0, 0)) :: ((b1, Obj.cells ((encCred a1).toArray : Array Value) 36 (0, 0)) :: ((b_a0, Obj.cells (#[v_a0_in_, (.slice A33 l27.length c34), v_a0_uses, v_a0_words, v_a0_todo, (.int .i64 a0_n)] : Array Value) 53 (0, 0)) :: (R560 ++ (R568 ++ (R356 ++ (R30 ++ (R_a0_in_ ++ (R_a0_todo ++ L432))))))))) := hST.perm (permD [[(b558, Obj.cells ((encCred a1).toArray : Array Value) 36 (0, 0))], [(b1, Obj.cells ((encCred a1).toArray : Array Value) 36 (0, 0))], [(b_a0, Obj.cells (#[v_a0_in_, (.slice A33 l27.length c34), v_a0_uses, v_a0_words, v_a0_todo, (.int .i64 a0_n)] : Array Value) 53 (0, 0))], R568, R560] [0, 1, 2, 3, 4] [0, 1, 2, 4, 3] ((R356 ++ (R30 ++ (R_a0_in_ ++ (R_a0_todo ++ L432))))) (by decide) rfl rfl)
      refine PX_e0 16 rfl (by kernel_rfl) (.inl rfl) rfl (E_fill (k := a1.Word2) (z := l565) [_, _, _] kl9 Try.underlying51 hST hh564 rfl rfl rfl hR569 (fun W571 R572 hST hR573 => ?_))
      replace hST : ST true (keys ((b_a0, Obj.cells (#[v_a0_in_, v_a0_creds, v_a0_uses, v_a0_words, v_a0_todo, (.int .i64 a0_n)] : Array Value) 53 (0, 0)) :: (R_a0_in_ ++ (R_a0_creds ++ (R_a0_uses ++ (R_a0_words ++ (R_a0_todo ++ []))))))) w _ _ ((b558, Obj.cells ((encCred a1).toArray : Array Value) 36 (0, 0)) :: ((b1, Obj.cells ((encCred a1).toArray : Array Value) 36 (0, 0)) :: ((b_a0, Obj.cells (#[v_a0_in_, (.slice A33 l27.length c34), v_a0_uses, v_a0_words, v_a0_todo, (.int .i64 a0_n)] : Array Value) 53 (0, 0)) :: (R572 ++ (R356 ++ (R30 ++ (R_a0_in_ ++ (R_a0_todo ++ L432)))))))) := hST
      have hS0 : Has μ46 ((b1, Obj.cells ((encCred a1).toArray : Array Value) 36 (0, 0)) :: ((b_a0, Obj.cells (#[v_a0_in_, (.slice A33 l27.length c34), v_a0_uses, v_a0_words, v_a0_todo, (.int .i64 a0_n)] : Array Value) 53 (0, 0)) :: [])) _ := hST.has.sub (Sub.refl _) (fun p hq => ((List.mem_cons.1 hq).elim (fun hq => by rw [hq]; exact (.tail _ (.head _))) (fun hq => ((List.mem_cons.1 hq).elim (fun hq => by rw [hq]; exact (.tail _ (.tail _ (.head _)))) (fun hq => (absurd hq List.not_mem_nil))))))
      refine ⟨⟨hS0, fun h => ffl (by kernel_rfl) h⟩, ?_⟩
      refine PX_done (by kernel_rfl) ?_
      refine retQ_n ?_
      replace hm433 := Option.some.inj hm433; subst hm433
      refine retQ_0 rfl ?_
      replace hST : ST true (keys ((b_a0, Obj.cells (#[v_a0_in_, v_a0_creds, v_a0_uses, v_a0_words, v_a0_todo, (.int .i64 a0_n)] : Array Value) 53 (0, 0)) :: (R_a0_in_ ++ (R_a0_creds ++ (R_a0_uses ++ (R_a0_words ++ (R_a0_todo ++ []))))))) w _ _ ((b558, Obj.cells ((encCred a1).toArray : Array Value) 36 (0, 0)) :: ((b1, Obj.cells ((encCred a1).toArray : Array Value) 36 (0, 0)) :: ((b_a0, Obj.cells (#[v_a0_in_, (.slice A33 l27.length c34), v_a0_uses, v_a0_words, v_a0_todo, (.int .i64 a0_n)] : Array Value) 53 (0, 0)) :: (R572 ++ (R356 ++ (R30 ++ (R_a0_in_ ++ (R_a0_todo ++ L432)))))))) := hST
      exact ⟨_, ((b_a0, Obj.cells (#[v_a0_in_, (.slice A33 l27.length c34), v_a0_uses, v_a0_words, v_a0_todo, (.int .i64 a0_n)] : Array Value) 53 (0, 0)) :: (R_a0_in_ ++ (R30 ++ (R356 ++ (R572 ++ (R_a0_todo ++ [])))))), rfl, (ST.backM (L1 := ((b_a0, Obj.cells (#[v_a0_in_, (.slice A33 l27.length c34), v_a0_uses, v_a0_words, v_a0_todo, (.int .i64 a0_n)] : Array Value) 53 (0, 0)) :: (R_a0_in_ ++ (R30 ++ (R356 ++ (R572 ++ (R_a0_todo ++ []))))))) (by have hh : ST true (keys ((b_a0, Obj.cells (#[v_a0_in_, v_a0_creds, v_a0_uses, v_a0_words, v_a0_todo, (.int .i64 a0_n)] : Array Value) 53 (0, 0)) :: (R_a0_in_ ++ (R_a0_creds ++ (R_a0_uses ++ (R_a0_words ++ (R_a0_todo ++ []))))))) w _ _ ((b_a0, Obj.cells (#[v_a0_in_, (.slice A33 l27.length c34), v_a0_uses, v_a0_words, v_a0_todo, (.int .i64 a0_n)] : Array Value) 53 (0, 0)) :: (R_a0_in_ ++ (R30 ++ (R356 ++ (R572 ++ (R_a0_todo ++ ((b558, Obj.cells ((encCred a1).toArray : Array Value) 36 (0, 0)) :: ((b1, Obj.cells ((encCred a1).toArray : Array Value) 36 (0, 0)) :: L432)))))))) := hST.perm (permD [[(b558, Obj.cells ((encCred a1).toArray : Array Value) 36 (0, 0))], [(b1, Obj.cells ((encCred a1).toArray : Array Value) 36 (0, 0))], [(b_a0, Obj.cells (#[v_a0_in_, (.slice A33 l27.length c34), v_a0_uses, v_a0_words, v_a0_todo, (.int .i64 a0_n)] : Array Value) 53 (0, 0))], R572, R356, R30, R_a0_in_, R_a0_todo] [0, 1, 2, 3, 4, 5, 6, 7] [2, 6, 5, 4, 3, 7, 0, 1] L432 (by decide) rfl rfl); simpa only [List.append_assoc, List.cons_append, List.nil_append] using hh)), (.slice A33 l27.length c34), R30, R356, R572, rfl, rfl, hR31, hs355, hR573.e⟩
    · replace hm433 := if_f hb506 hm433
      refine CW_skip ?_
      refine retQ_n ?_
      replace hm433 := Option.some.inj hm433; subst hm433
      refine retQ_0 rfl ?_
      replace hST : ST true (keys ((b_a0, Obj.cells (#[v_a0_in_, v_a0_creds, v_a0_uses, v_a0_words, v_a0_todo, (.int .i64 a0_n)] : Array Value) 53 (0, 0)) :: (R_a0_in_ ++ (R_a0_creds ++ (R_a0_uses ++ (R_a0_words ++ (R_a0_todo ++ []))))))) w _ _ ((b1, Obj.cells ((encCred a1).toArray : Array Value) 36 (0, 0)) :: ((b_a0, Obj.cells (#[v_a0_in_, (.slice A33 l27.length c34), v_a0_uses, v_a0_words, v_a0_todo, (.int .i64 a0_n)] : Array Value) 53 (0, 0)) :: (R356 ++ (R30 ++ (R_a0_in_ ++ (R_a0_words ++ (R_a0_todo ++ L432))))))) := hST
      exact ⟨_, ((b_a0, Obj.cells (#[v_a0_in_, (.slice A33 l27.length c34), v_a0_uses, v_a0_words, v_a0_todo, (.int .i64 a0_n)] : Array Value) 53 (0, 0)) :: (R_a0_in_ ++ (R30 ++ (R356 ++ (R_a0_words ++ (R_a0_todo ++ [])))))), rfl, (ST.backM (L1 := ((b_a0, Obj.cells (#[v_a0_in_, (.slice A33 l27.length c34), v_a0_uses, v_a0_words, v_a0_todo, (.int .i64 a0_n)] : Array Value) 53 (0, 0)) :: (R_a0_in_ ++ (R30 ++ (R356 ++ (R_a0_words ++ (R_a0_todo ++ []))))))) (by have hh : ST true (keys ((b_a0, Obj.cells (#[v_a0_in_, v_a0_creds, v_a0_uses, v_a0_words, v_a0_todo, (.int .i64 a0_n)] : Array Value) 53 (0, 0)) :: (R_a0_in_ ++ (R_a0_creds ++ (R_a0_uses ++ (R_a0_words ++ (R_a0_todo ++ []))))))) w _ _ ((b_a0, Obj.cells (#[v_a0_in_, (.slice A33 l27.length c34), v_a0_uses, v_a0_words, v_a0_todo, (.int .i64 a0_n)] : Array Value) 53 (0, 0)) :: (R_a0_in_ ++ (R30 ++ (R356 ++ (R_a0_words ++ (R_a0_todo ++ ((b1, Obj.cells ((encCred a1).toArray : Array Value) 36 (0, 0)) :: L432))))))) := hST.perm (permD [[(b1, Obj.cells ((encCred a1).toArray : Array Value) 36 (0, 0))], [(b_a0, Obj.cells (#[v_a0_in_, (.slice A33 l27.length c34), v_a0_uses, v_a0_words, v_a0_todo, (.int .i64 a0_n)] : Array Value) 53 (0, 0))], R356, R30, R_a0_in_, R_a0_words, R_a0_todo] [0, 1, 2, 3, 4, 5, 6] [1, 4, 3, 2, 5, 6, 0] L432 (by decide) rfl rfl); simpa only [List.append_assoc, List.cons_append, List.nil_append] using hh)), (.slice A33 l27.length c34), R30, R356, R_a0_words, rfl, rfl, hR31, hs355, h_a0_words⟩
theorem w_model_Model_tell_w (b_a0 : Nat) (v_a0_in_ : Value) (a0_in_ : List (Role × (List (ByteArray × Bool)))) (R_a0_in_ : List (Nat × Obj)) (v_a0_creds : Value) (a0_creds : List Cred) (R_a0_creds : List (Nat × Obj)) (v_a0_uses : Value) (a0_uses : List (Role × (List Cred))) (R_a0_uses : List (Nat × Obj)) (v_a0_words : Value) (a0_words : List (ByteArray × (List Cred))) (R_a0_words : List (Nat × Obj)) (v_a0_todo : Value) (a0_todo : List Fact) (R_a0_todo : List (Nat × Obj)) (a0_n : Int) (a1 : Role) (a2 : ByteArray) (r : ((List (Role × (List (ByteArray × Bool)))) × (List Fact) × Int)) (w : World) {μ0 : Mem} (hH : Held ((b_a0, Obj.cells (#[v_a0_in_, v_a0_creds, v_a0_uses, v_a0_words, v_a0_todo, (.int .i64 a0_n)] : Array Value) 53 (0, 0)) :: (R_a0_in_ ++ (R_a0_creds ++ (R_a0_uses ++ (R_a0_words ++ (R_a0_todo ++ [])))))) w) (hN : ((((b_a0, Obj.cells (#[v_a0_in_, v_a0_creds, v_a0_uses, v_a0_words, v_a0_todo, (.int .i64 a0_n)] : Array Value) 53 (0, 0)) :: (R_a0_in_ ++ (R_a0_creds ++ (R_a0_uses ++ (R_a0_words ++ (R_a0_todo ++ [])))))) : List (Nat × Obj)).map (·.1)).Nodup) (hS0 : Sub μ0 (hpx w ((b_a0, Obj.cells (#[v_a0_in_, v_a0_creds, v_a0_uses, v_a0_words, v_a0_todo, (.int .i64 a0_n)] : Array Value) 53 (0, 0)) :: (R_a0_in_ ++ (R_a0_creds ++ (R_a0_uses ++ (R_a0_words ++ (R_a0_todo ++ [])))))))) (h_a0_in_ : DeepE (fun (x : Role) => (.agg (encRole x).toArray)) (MapRow Value.string (fun (x : Bool) => (Value.bool x))) v_a0_in_ a0_in_ R_a0_in_) (h_a0_creds : Row 36 encCred 9 v_a0_creds a0_creds R_a0_creds) (h_a0_uses : DeepE (fun (x : Role) => (.agg (encRole x).toArray)) (Row 36 encCred 9) v_a0_uses a0_uses R_a0_uses) (h_a0_words : DeepE Value.string (Row 36 encCred 9) v_a0_words a0_words R_a0_words) (h_a0_todo : Que 43 encFact 3 v_a0_todo a0_todo R_a0_todo) (hm : m_model_Model_tell_w a0_in_ a0_creds a0_uses a0_words a0_todo a0_n a1 a2 = some r) :
    GivesM true Try.prog 45 [(.pointer (some ⟨b_a0, 0, none⟩)), (.agg (encRole a1).toArray), (.string a2)] w ((b_a0, Obj.cells (#[v_a0_in_, v_a0_creds, v_a0_uses, v_a0_words, v_a0_todo, (.int .i64 a0_n)] : Array Value) 53 (0, 0)) :: (R_a0_in_ ++ (R_a0_creds ++ (R_a0_uses ++ (R_a0_words ++ (R_a0_todo ++ [])))))) (fun v L1 W' => ∃ (S1 : List (Nat × Obj)) (y3 : Value) (S4 : List (Nat × Obj)), v = (.tuple #[]) ∧ L1 = ((b_a0, Obj.cells (#[v_a0_in_, v_a0_creds, v_a0_uses, v_a0_words, y3, (.int .i64 (r.2.2))] : Array Value) 53 (0, 0)) :: (S1 ++ (R_a0_creds ++ (R_a0_uses ++ (R_a0_words ++ (S4 ++ [])))))) ∧ DeepE (fun (x : Role) => (.agg (encRole x).toArray)) (MapRow Value.string (fun (x : Bool) => (Value.bool x))) v_a0_in_ r.1 S1 ∧ Que 43 encFact 3 y3 r.2.1 S4) := by
  have hST := (ST.startM (dd := true) hH hN).weak hS0
  unfold m_model_Model_tell_w at hm
  refine calls_of_CW (n := 53) Try.func45 rfl rfl (Nat.le_of_ble_eq_true rfl) ?_
  refine CW_seq ?_
  refine CW_region ?_
  refine LE (E_box (v := (.agg (encRole a1).toArray)) hST rfl (fun W2 b1 hST => ?_))
  refine LW_nil ?_
  refine sq_n ?_
  refine CW_seq ?_
  refine CW_seq ?_
  refine PX_start (fun l W => Has μ0 ((b1, Obj.cells ((encRole a1).toArray : Array Value) 34 (0, 0)) :: ((b_a0, Obj.cells (#[v_a0_in_, v_a0_creds, v_a0_uses, v_a0_words, v_a0_todo, (.int .i64 a0_n)] : Array Value) 53 (0, 0)) :: (R_a0_in_ ++ []))) W) Try_mixed ?_
  replace hST := hST.drew
  have hS0 : Has μ0 ((b1, Obj.cells ((encRole a1).toArray : Array Value) 34 (0, 0)) :: ((b_a0, Obj.cells (#[v_a0_in_, v_a0_creds, v_a0_uses, v_a0_words, v_a0_todo, (.int .i64 a0_n)] : Array Value) 53 (0, 0)) :: (R_a0_in_ ++ []))) _ := hST.has.sub (Sub.refl _) (fun p hq => ((List.mem_cons.1 hq).elim (fun hq => by rw [hq]; exact (.head _)) (fun hq => ((List.mem_cons.1 hq).elim (fun hq => by rw [hq]; exact (.tail _ (.head _))) (fun hq => ((List.mem_append.1 hq).elim (fun hq => (.tail _ (.tail _ (List.mem_append_left _ hq)))) (fun hq => (absurd hq List.not_mem_nil))))))))
  refine PV 0 rfl hS0 (R_move (v := (.pointer (some ⟨b_a0, 0, none⟩))) rfl) ?_
  refine PV 1 rfl hS0 (R_nilCheck rfl) ?_
  refine PV 2 rfl hS0 (R_field fa53_0 rfl) ?_
  refine PX_v 3 rfl (by kernel_rfl) (.inl rfl) rfl (by decide) (fun _ _ h => h) hS0 (fun l W hpd hs => have hS := hs; R_load (v := v_a0_in_) rfl (load_box1 hS (.tail _ (.head _)) rfl Try.isAgg49)) ?_
  refine PX_v 4 rfl (by kernel_rfl) (.inl rfl) rfl (by decide) (fun _ _ h => h) hS0 (fun l W hpd hs => have hS := hs; R_load (v := (.agg (encRole a1).toArray)) rfl (load_boxA hS (.head _) (encRole a1) rfl Try.isAgg34 Try.sizeOf34)) ?_
  obtain ⟨lv7, hd8⟩ := h_a0_in_
  refine PX_v 5 rfl (by kernel_rfl) (.inl rfl) rfl (by decide) (fun _ _ h => h) hS0 (fun l W hpd hs => have hS := hs; R_lookupDeep (k := a1) (z := (.map none)) kl34 Try.underlying49 Try.zeroValue59 rfl rfl hd8 (fun b o hq => hS.2 b o (.tail _ (.tail _ (List.mem_append_left _ hq))))) ?_
  refine PV 6 rfl hS0 (R_move (v := (.string a2)) rfl) ?_
  refine PX_v 7 rfl (by kernel_rfl) (.inl rfl) rfl (by decide) (fun _ _ h => h) hS0 (fun l W hpd hs => have hS := hs; R_lookupD (k := a2) (z := false) (vf := (fun (x : Bool) => (Value.bool x))) kl9 Try.underlying59 Try.zeroValue4 rfl rfl (DeepV.mapAt (μ := hp _) beqRole_iff.1 hd8 a1 (fun b o hq => hS.2 b o (.tail _ (.tail _ (List.mem_append_left _ hq)))))) ?_
  refine PX_done (by kernel_rfl) ?_
  refine sq_n ?_
  refine CW_if (b := (mgetD beqS (((mget beqRole a0_in_ a1).getD [])) a2 false)) rfl (fun hb9 => ?_) (fun hb9 => ?_)
  · replace hm := if_t hb9 hm
    refine CW_ret ?_
    refine sq_r ?_
    replace hm := Option.some.inj hm; subst hm
    refine retQ_0 rfl ?_
    replace hST : ST true (keys ((b_a0, Obj.cells (#[v_a0_in_, v_a0_creds, v_a0_uses, v_a0_words, v_a0_todo, (.int .i64 a0_n)] : Array Value) 53 (0, 0)) :: (R_a0_in_ ++ (R_a0_creds ++ (R_a0_uses ++ (R_a0_words ++ (R_a0_todo ++ []))))))) w _ _ ((b1, Obj.cells ((encRole a1).toArray : Array Value) 34 (0, 0)) :: ((b_a0, Obj.cells (#[v_a0_in_, v_a0_creds, v_a0_uses, v_a0_words, v_a0_todo, (.int .i64 a0_n)] : Array Value) 53 (0, 0)) :: (R_a0_in_ ++ (R_a0_creds ++ (R_a0_uses ++ (R_a0_words ++ (R_a0_todo ++ []))))))) := hST
    exact ⟨_, ((b_a0, Obj.cells (#[v_a0_in_, v_a0_creds, v_a0_uses, v_a0_words, v_a0_todo, (.int .i64 a0_n)] : Array Value) 53 (0, 0)) :: (R_a0_in_ ++ (R_a0_creds ++ (R_a0_uses ++ (R_a0_words ++ (R_a0_todo ++ [])))))), rfl, (ST.backM (L1 := ((b_a0, Obj.cells (#[v_a0_in_, v_a0_creds, v_a0_uses, v_a0_words, v_a0_todo, (.int .i64 a0_n)] : Array Value) 53 (0, 0)) :: (R_a0_in_ ++ (R_a0_creds ++ (R_a0_uses ++ (R_a0_words ++ (R_a0_todo ++ []))))))) (by have hh : ST true (keys ((b_a0, Obj.cells (#[v_a0_in_, v_a0_creds, v_a0_uses, v_a0_words, v_a0_todo, (.int .i64 a0_n)] : Array Value) 53 (0, 0)) :: (R_a0_in_ ++ (R_a0_creds ++ (R_a0_uses ++ (R_a0_words ++ (R_a0_todo ++ []))))))) w _ _ ((b_a0, Obj.cells (#[v_a0_in_, v_a0_creds, v_a0_uses, v_a0_words, v_a0_todo, (.int .i64 a0_n)] : Array Value) 53 (0, 0)) :: (R_a0_in_ ++ (R_a0_creds ++ (R_a0_uses ++ (R_a0_words ++ (R_a0_todo ++ ((b1, Obj.cells ((encRole a1).toArray : Array Value) 34 (0, 0)) :: []))))))) := hST.perm (permD [[(b1, Obj.cells ((encRole a1).toArray : Array Value) 34 (0, 0))], [(b_a0, Obj.cells (#[v_a0_in_, v_a0_creds, v_a0_uses, v_a0_words, v_a0_todo, (.int .i64 a0_n)] : Array Value) 53 (0, 0))], R_a0_in_, R_a0_creds, R_a0_uses, R_a0_words, R_a0_todo] [0, 1, 2, 3, 4, 5, 6] [1, 2, 3, 4, 5, 6, 0] ([]) (by decide) rfl rfl); simpa only [List.append_assoc, List.cons_append, List.nil_append] using hh)), R_a0_in_, v_a0_todo, R_a0_todo, rfl, rfl, hd8.e, h_a0_todo⟩
  · replace hm := if_f hb9 hm
    refine CW_skip ?_
    refine sq_n ?_
    refine CW_seq ?_
    obtain ⟨s105, hm106, hm107⟩ := bind_some hm
    refine CW_cut (fun E W => ∃ (l38 : List (Role × (List (ByteArray × Bool)))) (R40 : List (Nat × Obj)) (L41 : List (Nat × Obj)), ST true (keys ((b_a0, Obj.cells (#[v_a0_in_, v_a0_creds, v_a0_uses, v_a0_words, v_a0_todo, (.int .i64 a0_n)] : Array Value) 53 (0, 0)) :: (R_a0_in_ ++ (R_a0_creds ++ (R_a0_uses ++ (R_a0_words ++ (R_a0_todo ++ []))))))) w W μ0 ((b1, Obj.cells ((encRole a1).toArray : Array Value) 34 (0, 0)) :: ((b_a0, Obj.cells (#[v_a0_in_, v_a0_creds, v_a0_uses, v_a0_words, v_a0_todo, (.int .i64 a0_n)] : Array Value) 53 (0, 0)) :: (R40 ++ (R_a0_creds ++ (R_a0_uses ++ (R_a0_words ++ (R_a0_todo ++ L41))))))) ∧ E 0 = (.pointer (some ⟨b_a0, 0, none⟩)) ∧ E 2 = (.string a2) ∧ E 4 = (.pointer (some ⟨b1, 0, none⟩)) ∧ DeepE (fun (x : Role) => (.agg (encRole x).toArray)) (MapRow Value.string (fun (x : Bool) => (Value.bool x))) v_a0_in_ l38 R40 ∧ (((mupd beqRole beqS l38 a1 a2 true)).bind fun l66 => (((appB 48 a0_todo ([(⟨a1, a2⟩ : Fact)]))).bind fun l96 => some (l66, l96, (IntKind.i64.wrap (a0_n + 1))))) = some r) ?_ ?_
    · refine CW_seq ?_
      refine PX_start (fun l W => Has μ0 ((b1, Obj.cells ((encRole a1).toArray : Array Value) 34 (0, 0)) :: ((b_a0, Obj.cells (#[v_a0_in_, v_a0_creds, v_a0_uses, v_a0_words, v_a0_todo, (.int .i64 a0_n)] : Array Value) 53 (0, 0)) :: (R_a0_in_ ++ []))) W) Try_mixed ?_
      replace hST := hST.drew
      have hS0 : Has μ0 ((b1, Obj.cells ((encRole a1).toArray : Array Value) 34 (0, 0)) :: ((b_a0, Obj.cells (#[v_a0_in_, v_a0_creds, v_a0_uses, v_a0_words, v_a0_todo, (.int .i64 a0_n)] : Array Value) 53 (0, 0)) :: (R_a0_in_ ++ []))) _ := hST.has.sub (Sub.refl _) (fun p hq => ((List.mem_cons.1 hq).elim (fun hq => by rw [hq]; exact (.head _)) (fun hq => ((List.mem_cons.1 hq).elim (fun hq => by rw [hq]; exact (.tail _ (.head _))) (fun hq => ((List.mem_append.1 hq).elim (fun hq => (.tail _ (.tail _ (List.mem_append_left _ hq)))) (fun hq => (absurd hq List.not_mem_nil))))))))
      refine PV 0 rfl hS0 (R_move (v := (.pointer (some ⟨b_a0, 0, none⟩))) rfl) ?_
      refine PV 1 rfl hS0 (R_nilCheck rfl) ?_
      refine PV 2 rfl hS0 (R_field fa53_0 rfl) ?_
      refine PX_v 3 rfl (by kernel_rfl) (.inl rfl) rfl (by decide) (fun _ _ h => h) hS0 (fun l W hpd hs => have hS := hs; R_load (v := v_a0_in_) rfl (load_box1 hS (.tail _ (.head _)) rfl Try.isAgg49)) ?_
      refine PX_v 4 rfl (by kernel_rfl) (.inl rfl) rfl (by decide) (fun _ _ h => h) hS0 (fun l W hpd hs => have hS := hs; R_load (v := (.agg (encRole a1).toArray)) rfl (load_boxA hS (.head _) (encRole a1) rfl Try.isAgg34 Try.sizeOf34)) ?_
      refine PX_v 5 rfl (by kernel_rfl) (.inl rfl) rfl (by decide) (fun _ _ h => h) hS0 (fun l W hpd hs => have hS := hs; R_lookupDeep (k := a1) (z := (.map none)) kl34 Try.underlying49 Try.zeroValue59 rfl rfl hd8 (fun b o hq => hS.2 b o (.tail _ (.tail _ (List.mem_append_left _ hq))))) ?_
      refine PV 6 rfl hS0 (R_mapEqNilD beqRole_iff.1 Try.underlying59 hd8 rfl rfl) ?_
      refine PX_done (by kernel_rfl) ?_
      refine sq_n ?_
      refine CW_if (b := (mget beqRole a0_in_ a1).isNone) rfl (fun hb108 => ?_) (fun hb108 => ?_)
      · replace hm106 := if_t hb108 hm106
        refine PX_start (fun l W => Has μ0 ((b1, Obj.cells ((encRole a1).toArray : Array Value) 34 (0, 0)) :: ((b_a0, Obj.cells (#[v_a0_in_, v_a0_creds, v_a0_uses, v_a0_words, v_a0_todo, (.int .i64 a0_n)] : Array Value) 53 (0, 0)) :: [])) W) Try_mixed ?_
        replace hST := hST.drew
        have hS0 : Has μ0 ((b1, Obj.cells ((encRole a1).toArray : Array Value) 34 (0, 0)) :: ((b_a0, Obj.cells (#[v_a0_in_, v_a0_creds, v_a0_uses, v_a0_words, v_a0_todo, (.int .i64 a0_n)] : Array Value) 53 (0, 0)) :: [])) _ := hST.has.sub (Sub.refl _) (fun p hq => ((List.mem_cons.1 hq).elim (fun hq => by rw [hq]; exact (.head _)) (fun hq => ((List.mem_cons.1 hq).elim (fun hq => by rw [hq]; exact (.tail _ (.head _))) (fun hq => (absurd hq List.not_mem_nil))))))
        refine PV 0 rfl hS0 (R_move (v := (.pointer (some ⟨b_a0, 0, none⟩))) rfl) ?_
        refine PV 1 rfl hS0 (R_nilCheck rfl) ?_
        refine PV 2 rfl hS0 (R_field fa53_0 rfl) ?_
        refine PX_v 3 rfl (by kernel_rfl) (.inl rfl) rfl (by decide) (fun _ _ h => h) hS0 (fun l W hpd hs => have hS := hs; R_load (v := v_a0_in_) rfl (load_box1 hS (.tail _ (.head _)) rfl Try.isAgg49)) ?_
        refine PX_v 4 rfl (by kernel_rfl) (.inl rfl) rfl (by decide) (fun _ _ h => h) hS0 (fun l W hpd hs => have hS := hs; R_load (v := (.agg (encRole a1).toArray)) rfl (load_boxA hS (.head _) (encRole a1) rfl Try.isAgg34 Try.sizeOf34)) ?_
        refine PX_e 5 rfl (by kernel_rfl) (.inl rfl) rfl (by decide) (E_makeMap (P := Try.prog) Value.string (fun (x : Bool) => (Value.bool x)) hST (fun W127 v130 R128 hST hR129 => ?_))
        replace hST : ST true (keys ((b_a0, Obj.cells (#[v_a0_in_, v_a0_creds, v_a0_uses, v_a0_words, v_a0_todo, (.int .i64 a0_n)] : Array Value) 53 (0, 0)) :: (R_a0_in_ ++ (R_a0_creds ++ (R_a0_uses ++ (R_a0_words ++ (R_a0_todo ++ []))))))) w _ _ ((b1, Obj.cells ((encRole a1).toArray : Array Value) 34 (0, 0)) :: ((b_a0, Obj.cells (#[v_a0_in_, v_a0_creds, v_a0_uses, v_a0_words, v_a0_todo, (.int .i64 a0_n)] : Array Value) 53 (0, 0)) :: (R128 ++ (R_a0_in_ ++ (R_a0_creds ++ (R_a0_uses ++ (R_a0_words ++ (R_a0_todo ++ [])))))))) := hST.perm (permD [R128, [(b1, Obj.cells ((encRole a1).toArray : Array Value) 34 (0, 0))], [(b_a0, Obj.cells (#[v_a0_in_, v_a0_creds, v_a0_uses, v_a0_words, v_a0_todo, (.int .i64 a0_n)] : Array Value) 53 (0, 0))]] [0, 1, 2] [1, 2, 0] ((R_a0_in_ ++ (R_a0_creds ++ (R_a0_uses ++ (R_a0_words ++ (R_a0_todo ++ [])))))) (by decide) rfl rfl)
        have hS0 : Has μ0 ((b1, Obj.cells ((encRole a1).toArray : Array Value) 34 (0, 0)) :: ((b_a0, Obj.cells (#[v_a0_in_, v_a0_creds, v_a0_uses, v_a0_words, v_a0_todo, (.int .i64 a0_n)] : Array Value) 53 (0, 0)) :: [])) _ := hST.has.sub (Sub.refl _) (fun p hq => ((List.mem_cons.1 hq).elim (fun hq => by rw [hq]; exact (.head _)) (fun hq => ((List.mem_cons.1 hq).elim (fun hq => by rw [hq]; exact (.tail _ (.head _))) (fun hq => (absurd hq List.not_mem_nil))))))
        refine ⟨hS0, ?_⟩
        replace hST : ST true (keys ((b_a0, Obj.cells (#[v_a0_in_, v_a0_creds, v_a0_uses, v_a0_words, v_a0_todo, (.int .i64 a0_n)] : Array Value) 53 (0, 0)) :: (R_a0_in_ ++ (R_a0_creds ++ (R_a0_uses ++ (R_a0_words ++ (R_a0_todo ++ []))))))) w _ _ ((b1, Obj.cells ((encRole a1).toArray : Array Value) 34 (0, 0)) :: ((b_a0, Obj.cells (#[v_a0_in_, v_a0_creds, v_a0_uses, v_a0_words, v_a0_todo, (.int .i64 a0_n)] : Array Value) 53 (0, 0)) :: (R_a0_in_ ++ (R128 ++ (R_a0_creds ++ (R_a0_uses ++ (R_a0_words ++ (R_a0_todo ++ [])))))))) := hST.perm (permD [[(b1, Obj.cells ((encRole a1).toArray : Array Value) 34 (0, 0))], [(b_a0, Obj.cells (#[v_a0_in_, v_a0_creds, v_a0_uses, v_a0_words, v_a0_todo, (.int .i64 a0_n)] : Array Value) 53 (0, 0))], R128, R_a0_in_] [0, 1, 2, 3] [0, 1, 3, 2] ((R_a0_creds ++ (R_a0_uses ++ (R_a0_words ++ (R_a0_todo ++ []))))) (by decide) rfl rfl)
        obtain ⟨l131, hr132, hm106⟩ := bind_some hm106
        refine PX_e0 6 rfl (by kernel_rfl) (.inl rfl) rfl (E_newDeep (k := a1) (z := ([])) [_, _] kl34 Try.underlying49 hST hd8 rfl rfl rfl hR129 hr132 (fun W133 R134 hST hR135 => ?_))
        replace hST : ST true (keys ((b_a0, Obj.cells (#[v_a0_in_, v_a0_creds, v_a0_uses, v_a0_words, v_a0_todo, (.int .i64 a0_n)] : Array Value) 53 (0, 0)) :: (R_a0_in_ ++ (R_a0_creds ++ (R_a0_uses ++ (R_a0_words ++ (R_a0_todo ++ []))))))) w _ _ ((b1, Obj.cells ((encRole a1).toArray : Array Value) 34 (0, 0)) :: ((b_a0, Obj.cells (#[v_a0_in_, v_a0_creds, v_a0_uses, v_a0_words, v_a0_todo, (.int .i64 a0_n)] : Array Value) 53 (0, 0)) :: (R134 ++ (R_a0_creds ++ (R_a0_uses ++ (R_a0_words ++ (R_a0_todo ++ []))))))) := hST
        have hS0 : Has μ0 ((b1, Obj.cells ((encRole a1).toArray : Array Value) 34 (0, 0)) :: ((b_a0, Obj.cells (#[v_a0_in_, v_a0_creds, v_a0_uses, v_a0_words, v_a0_todo, (.int .i64 a0_n)] : Array Value) 53 (0, 0)) :: [])) _ := hST.has.sub (Sub.refl _) (fun p hq => ((List.mem_cons.1 hq).elim (fun hq => by rw [hq]; exact (.head _)) (fun hq => ((List.mem_cons.1 hq).elim (fun hq => by rw [hq]; exact (.tail _ (.head _))) (fun hq => (absurd hq List.not_mem_nil))))))
        refine ⟨hS0, ?_⟩
        refine PX_done (by kernel_rfl) ?_
        refine sq_n ?_
        replace hm106 := Option.some.inj hm106; subst hm106
        exact ⟨l131, R134, _, (hST.sublist (List.Sublist.refl _)), rfl, rfl, rfl, hR135.e, hm107⟩
      · replace hm106 := if_f hb108 hm106
        refine CW_skip ?_
        refine sq_n ?_
        replace hm106 := Option.some.inj hm106; subst hm106
        exact ⟨a0_in_, R_a0_in_, _, (hST.sublist (List.Sublist.refl _)), rfl, rfl, rfl, hd8.e, hm107⟩
    · rintro E W ⟨l38, R40, L41, hST, e43, e44, e45, hs39, hm42⟩
      refine CW_seq ?_
      refine PX_start (fun l W => Has μ0 ((b1, Obj.cells ((encRole a1).toArray : Array Value) 34 (0, 0)) :: ((b_a0, Obj.cells (#[v_a0_in_, v_a0_creds, v_a0_uses, v_a0_words, v_a0_todo, (.int .i64 a0_n)] : Array Value) 53 (0, 0)) :: [])) W ∧ (l.getD 7 true = false → Has μ0 (R40 ++ []) W)) Try_mixed ?_
      replace hST := hST.drew
      have hS0 : Has μ0 ((b1, Obj.cells ((encRole a1).toArray : Array Value) 34 (0, 0)) :: ((b_a0, Obj.cells (#[v_a0_in_, v_a0_creds, v_a0_uses, v_a0_words, v_a0_todo, (.int .i64 a0_n)] : Array Value) 53 (0, 0)) :: [])) _ := hST.has.sub (Sub.refl _) (fun p hq => ((List.mem_cons.1 hq).elim (fun hq => by rw [hq]; exact (.head _)) (fun hq => ((List.mem_cons.1 hq).elim (fun hq => by rw [hq]; exact (.tail _ (.head _))) (fun hq => (absurd hq List.not_mem_nil))))))
      have hS1 : Has μ0 (R40 ++ []) _ := hST.has.sub (Sub.refl _) (fun p hq => ((List.mem_append.1 hq).elim (fun hq => (.tail _ (.tail _ (List.mem_append_left _ hq)))) (fun hq => (absurd hq List.not_mem_nil))))
      refine PX_v 0 rfl (by kernel_rfl) (.inl rfl) rfl (by decide) (fun _ _ h => ⟨h.1, til (by rfl) h.2⟩) ⟨hS0, fun _ => hS1⟩ (fun _ _ _ _ => R_move (v := (.pointer (some ⟨b_a0, 0, none⟩))) e43) ?_
      refine PX_v 1 rfl (by kernel_rfl) (.inl rfl) rfl (by decide) (fun _ _ h => ⟨h.1, til (by rfl) h.2⟩) ⟨hS0, fun _ => hS1⟩ (fun _ _ _ _ => R_nilCheck rfl) ?_
      refine PX_v 2 rfl (by kernel_rfl) (.inl rfl) rfl (by decide) (fun _ _ h => ⟨h.1, til (by rfl) h.2⟩) ⟨hS0, fun _ => hS1⟩ (fun _ _ _ _ => R_field fa53_0 rfl) ?_
      refine PX_v 3 rfl (by kernel_rfl) (.inl rfl) rfl (by decide) (fun _ _ h => ⟨h.1, til (by rfl) h.2⟩) ⟨hS0, fun _ => hS1⟩ (fun l W hpd hs => have hS := hs.1; R_load (v := v_a0_in_) rfl (load_box1 hS (.tail _ (.head _)) rfl Try.isAgg49)) ?_
      refine PX_v 4 rfl (by kernel_rfl) (.inl rfl) rfl (by decide) (fun _ _ h => ⟨h.1, til (by rfl) h.2⟩) ⟨hS0, fun _ => hS1⟩ (fun l W hpd hs => have hS := hs.1; R_load (v := (.agg (encRole a1).toArray)) e45 (load_boxA hS (.head _) (encRole a1) rfl Try.isAgg34 Try.sizeOf34)) ?_
      obtain ⟨lv64, hd65⟩ := hs39
      refine PX_v 5 rfl (by kernel_rfl) (.inl rfl) rfl (by decide) (fun _ _ h => ⟨h.1, til (by rfl) h.2⟩) ⟨hS0, fun _ => hS1⟩ (fun l W hpd hs => have hS := (hs.2 (hpd.bar 7 [5] (by kernel_rfl) rfl)); R_lookupDeep (k := a1) (z := (.map none)) kl34 Try.underlying49 Try.zeroValue59 rfl rfl hd65 (fun b o hq => hS.2 b o (List.mem_append_left _ hq))) ?_
      refine PX_v 6 rfl (by kernel_rfl) (.inl rfl) rfl (by decide) (fun _ _ h => ⟨h.1, til (by rfl) h.2⟩) ⟨hS0, fun _ => hS1⟩ (fun _ _ _ _ => R_move (v := (.string a2)) e44) ?_
      obtain ⟨l66, hr67, hm42⟩ := bind_some hm42
      refine PX_e0 7 rfl (by kernel_rfl) (.inl rfl) rfl (E_updDeep (k := a1) (v := true) (vf := (fun (x : Bool) => (Value.bool x))) [_, _] beqRole_iff.1 kl9 Try.underlying59 hST hd65 rfl rfl rfl hr67 (fun W68 R69 hST hR70 => ?_))
      replace hST : ST true (keys ((b_a0, Obj.cells (#[v_a0_in_, v_a0_creds, v_a0_uses, v_a0_words, v_a0_todo, (.int .i64 a0_n)] : Array Value) 53 (0, 0)) :: (R_a0_in_ ++ (R_a0_creds ++ (R_a0_uses ++ (R_a0_words ++ (R_a0_todo ++ []))))))) w _ _ ((b1, Obj.cells ((encRole a1).toArray : Array Value) 34 (0, 0)) :: ((b_a0, Obj.cells (#[v_a0_in_, v_a0_creds, v_a0_uses, v_a0_words, v_a0_todo, (.int .i64 a0_n)] : Array Value) 53 (0, 0)) :: (R69 ++ (R_a0_creds ++ (R_a0_uses ++ (R_a0_words ++ (R_a0_todo ++ L41))))))) := hST
      have hS0 : Has μ0 ((b1, Obj.cells ((encRole a1).toArray : Array Value) 34 (0, 0)) :: ((b_a0, Obj.cells (#[v_a0_in_, v_a0_creds, v_a0_uses, v_a0_words, v_a0_todo, (.int .i64 a0_n)] : Array Value) 53 (0, 0)) :: [])) _ := hST.has.sub (Sub.refl _) (fun p hq => ((List.mem_cons.1 hq).elim (fun hq => by rw [hq]; exact (.head _)) (fun hq => ((List.mem_cons.1 hq).elim (fun hq => by rw [hq]; exact (.tail _ (.head _))) (fun hq => (absurd hq List.not_mem_nil))))))
      refine ⟨⟨hS0, fun h => ffl (by kernel_rfl) h⟩, ?_⟩
      refine PX_done (by kernel_rfl) ?_
      refine sq_n ?_
      refine CW_seq ?_
      refine CW_region ?_
      refine LV (R_move (v := (.pointer (some ⟨b_a0, 0, none⟩))) e43) ?_
      refine LV (R_nilCheck rfl) ?_
      refine LV (R_field fa53_5 rfl) ?_
      refine LV (R_load (v := (.int .i64 a0_n)) rfl (load_box1 hST.has (.tail _ (.head _)) rfl Try.isAgg3)) ?_
      refine LV (R_int (k := .i64) (a := a0_n) (b := 1) (v := (.int .i64 ((IntKind.i64.wrap (a0_n + 1))))) rfl rfl rfl) ?_
      refine LV (R_nilCheck rfl) ?_
      refine LV (R_field fa53_5 rfl) ?_
      refine LW_e0 (.inl rfl) rfl (E_store [_] (.int .i64 ((IntKind.i64.wrap (a0_n + 1)))) (#[v_a0_in_, v_a0_creds, v_a0_uses, v_a0_words, v_a0_todo, (.int .i64 ((IntKind.i64.wrap (a0_n + 1))))]) hST rfl rfl Try.sizeOf3 (oneI _ ((IntKind.i64.wrap (a0_n + 1)))) (Nat.le_of_ble_eq_true rfl) rfl (fun W71 hST => ?_))
      refine LW_nil ?_
      refine sq_n ?_
      refine PX_start (fun l W => Has μ0 ((b1, Obj.cells ((encRole a1).toArray : Array Value) 34 (0, 0)) :: []) W ∧ (l.getD 12 true = false → Has μ0 ((b_a0, Obj.cells (#[v_a0_in_, v_a0_creds, v_a0_uses, v_a0_words, v_a0_todo, (.int .i64 ((IntKind.i64.wrap (a0_n + 1))))] : Array Value) 53 (0, 0)) :: []) W)) Try_mixed ?_
      replace hST := hST.drew
      replace hST : ST true (keys ((b_a0, Obj.cells (#[v_a0_in_, v_a0_creds, v_a0_uses, v_a0_words, v_a0_todo, (.int .i64 a0_n)] : Array Value) 53 (0, 0)) :: (R_a0_in_ ++ (R_a0_creds ++ (R_a0_uses ++ (R_a0_words ++ (R_a0_todo ++ []))))))) w _ _ ((b1, Obj.cells ((encRole a1).toArray : Array Value) 34 (0, 0)) :: ((b_a0, Obj.cells (#[v_a0_in_, v_a0_creds, v_a0_uses, v_a0_words, v_a0_todo, (.int .i64 ((IntKind.i64.wrap (a0_n + 1))))] : Array Value) 53 (0, 0)) :: (R69 ++ (R_a0_creds ++ (R_a0_uses ++ (R_a0_words ++ (R_a0_todo ++ L41))))))) := hST
      have hS0 : Has μ0 ((b1, Obj.cells ((encRole a1).toArray : Array Value) 34 (0, 0)) :: []) _ := hST.has.sub (Sub.refl _) (fun p hq => ((List.mem_cons.1 hq).elim (fun hq => by rw [hq]; exact (.head _)) (fun hq => (absurd hq List.not_mem_nil))))
      have hS1 : Has μ0 ((b_a0, Obj.cells (#[v_a0_in_, v_a0_creds, v_a0_uses, v_a0_words, v_a0_todo, (.int .i64 ((IntKind.i64.wrap (a0_n + 1))))] : Array Value) 53 (0, 0)) :: []) _ := hST.has.sub (Sub.refl _) (fun p hq => ((List.mem_cons.1 hq).elim (fun hq => by rw [hq]; exact (.tail _ (.head _))) (fun hq => (absurd hq List.not_mem_nil))))
      refine PX_v 0 rfl (by kernel_rfl) (.inl rfl) rfl (by decide) (fun _ _ h => ⟨h.1, til (by rfl) h.2⟩) ⟨hS0, fun _ => hS1⟩ (fun _ _ _ _ => R_move (v := (.pointer (some ⟨b_a0, 0, none⟩))) e43) ?_
      refine PX_v 1 rfl (by kernel_rfl) (.inl rfl) rfl (by decide) (fun _ _ h => ⟨h.1, til (by rfl) h.2⟩) ⟨hS0, fun _ => hS1⟩ (fun _ _ _ _ => R_move (v := (.pointer (some ⟨b_a0, 0, none⟩))) e43) ?_
      refine PX_v 2 rfl (by kernel_rfl) (.inl rfl) rfl (by decide) (fun _ _ h => ⟨h.1, til (by rfl) h.2⟩) ⟨hS0, fun _ => hS1⟩ (fun _ _ _ _ => R_nilCheck rfl) ?_
      refine PX_v 3 rfl (by kernel_rfl) (.inl rfl) rfl (by decide) (fun _ _ h => ⟨h.1, til (by rfl) h.2⟩) ⟨hS0, fun _ => hS1⟩ (fun _ _ _ _ => R_field fa53_4 rfl) ?_
      refine PX_v 4 rfl (by kernel_rfl) (.inl rfl) rfl (by decide) (fun _ _ h => ⟨h.1, til (by rfl) h.2⟩) ⟨hS0, fun _ => hS1⟩ (fun l W hpd hs => have hS := (hs.2 (hpd.bar 12 [4] (by kernel_rfl) rfl)); R_load (v := v_a0_todo) rfl (load_box1 hS (.head _) rfl Try.isAgg28)) ?_
      refine PX_v 5 rfl (by kernel_rfl) (.inl rfl) rfl (by decide) (fun _ _ h => ⟨h.1, til (by rfl) h.2⟩) ⟨hS0, fun _ => hS1⟩ (fun l W hpd hs => have hS := hs.1; R_load (v := (.agg (encRole a1).toArray)) e45 (load_boxA hS (.head _) (encRole a1) rfl Try.isAgg34 Try.sizeOf34)) ?_
      refine PX_v 6 rfl (by kernel_rfl) (.inl rfl) rfl (by decide) (fun _ _ h => ⟨h.1, til (by rfl) h.2⟩) ⟨hS0, fun _ => hS1⟩ (fun _ _ _ _ => R_move (v := (.string a2)) e44) ?_
      refine PX_v 7 rfl (by kernel_rfl) (.inl rfl) rfl (by decide) (fun _ _ h => ⟨h.1, til (by rfl) h.2⟩) ⟨hS0, fun _ => hS1⟩ (fun _ _ _ _ => R_build (qs := #[(0, (.agg (encRole a1).toArray)), (1, (.string a2))]) (v := (.agg (encFact ((⟨a1, a2⟩ : Fact))).toArray)) (parts2 rfl rfl) (run_build Try.zeroValue43 Try.underlying43 (pl43 _ Try.underlying43) (by kernel_rfl))) ?_
      refine PX_e 8 rfl (by kernel_rfl) (.inl rfl) rfl (by decide) (E_buildSlice (qs := #[(0, (.agg (encFact ((⟨a1, a2⟩ : Fact))).toArray))]) (cs := (encFact ((⟨a1, a2⟩ : Fact))).toArray) hST (parts1 rfl) (run_lit [(.agg (encFact ((⟨a1, a2⟩ : Fact))).toArray)] Try.underlying28 Try.sizeOf43 Try.zeroValue43 (by decide) rfl (by intro v hv; simp only [List.mem_cons, List.not_mem_nil, or_false] at hv; rcases hv with rfl <;> rfl) rfl rfl) (fun W95 b94 hST => ?_))
      have hS0 : Has μ0 ((b1, Obj.cells ((encRole a1).toArray : Array Value) 34 (0, 0)) :: []) _ := hST.has.sub (Sub.refl _) (fun p hq => ((List.mem_cons.1 hq).elim (fun hq => by rw [hq]; exact (.tail _ (.head _))) (fun hq => (absurd hq List.not_mem_nil))))
      have hS1 : Has μ0 ((b_a0, Obj.cells (#[v_a0_in_, v_a0_creds, v_a0_uses, v_a0_words, v_a0_todo, (.int .i64 ((IntKind.i64.wrap (a0_n + 1))))] : Array Value) 53 (0, 0)) :: []) _ := hST.has.sub (Sub.refl _) (fun p hq => ((List.mem_cons.1 hq).elim (fun hq => by rw [hq]; exact (.tail _ (.tail _ (.head _)))) (fun hq => (absurd hq List.not_mem_nil))))
      refine ⟨⟨hS0, fun _ => hS1⟩, ?_⟩
      replace hST : ST true (keys ((b_a0, Obj.cells (#[v_a0_in_, v_a0_creds, v_a0_uses, v_a0_words, v_a0_todo, (.int .i64 a0_n)] : Array Value) 53 (0, 0)) :: (R_a0_in_ ++ (R_a0_creds ++ (R_a0_uses ++ (R_a0_words ++ (R_a0_todo ++ []))))))) w _ _ ((b94, Obj.cells ((encFact ((⟨a1, a2⟩ : Fact))).toArray : Array Value) 43 (0, 0)) :: ((b1, Obj.cells ((encRole a1).toArray : Array Value) 34 (0, 0)) :: ((b_a0, Obj.cells (#[v_a0_in_, v_a0_creds, v_a0_uses, v_a0_words, v_a0_todo, (.int .i64 ((IntKind.i64.wrap (a0_n + 1))))] : Array Value) 53 (0, 0)) :: (R_a0_todo ++ (R69 ++ (R_a0_creds ++ (R_a0_uses ++ (R_a0_words ++ L41)))))))) := hST.perm (permD [[(b94, Obj.cells ((encFact ((⟨a1, a2⟩ : Fact))).toArray : Array Value) 43 (0, 0))], [(b1, Obj.cells ((encRole a1).toArray : Array Value) 34 (0, 0))], [(b_a0, Obj.cells (#[v_a0_in_, v_a0_creds, v_a0_uses, v_a0_words, v_a0_todo, (.int .i64 ((IntKind.i64.wrap (a0_n + 1))))] : Array Value) 53 (0, 0))], R69, R_a0_creds, R_a0_uses, R_a0_words, R_a0_todo] [0, 1, 2, 3, 4, 5, 6, 7] [0, 1, 2, 7, 3, 4, 5, 6] L41 (by decide) rfl rfl)
      obtain ⟨l96, hb97, hm42⟩ := bind_some hm42
      refine PX_e 9 rfl (by kernel_rfl) (.inl rfl) rfl (by decide) (E_appendQue (enc := encFact) (v := v_a0_todo) (vs := (.slice (some ⟨b94, 0, none⟩) 1 1)) (R := R_a0_todo) [_, _, _] hST lenFact (by decide) oneFact Try.underlying28 info43.1 info43.2.1 rfl info43.2.2.1 info43.2.2.2 rfl rfl h_a0_todo (Sl.lit (enc := encFact) (l := [(⟨a1, a2⟩ : Fact)]) lenFact rfl (Nat.le_of_ble_eq_true rfl) rfl (hST.at_ (.head _))) hb97 (fun W98 v101 R99 hST hR100 => ?_))
      replace hST : ST true (keys ((b_a0, Obj.cells (#[v_a0_in_, v_a0_creds, v_a0_uses, v_a0_words, v_a0_todo, (.int .i64 a0_n)] : Array Value) 53 (0, 0)) :: (R_a0_in_ ++ (R_a0_creds ++ (R_a0_uses ++ (R_a0_words ++ (R_a0_todo ++ []))))))) w _ _ ((b94, Obj.cells ((encFact ((⟨a1, a2⟩ : Fact))).toArray : Array Value) 43 (0, 0)) :: ((b1, Obj.cells ((encRole a1).toArray : Array Value) 34 (0, 0)) :: ((b_a0, Obj.cells (#[v_a0_in_, v_a0_creds, v_a0_uses, v_a0_words, v_a0_todo, (.int .i64 ((IntKind.i64.wrap (a0_n + 1))))] : Array Value) 53 (0, 0)) :: (R99 ++ (R69 ++ (R_a0_creds ++ (R_a0_uses ++ (R_a0_words ++ L41)))))))) := hST
      have hS0 : Has μ0 ((b1, Obj.cells ((encRole a1).toArray : Array Value) 34 (0, 0)) :: []) _ := hST.has.sub (Sub.refl _) (fun p hq => ((List.mem_cons.1 hq).elim (fun hq => by rw [hq]; exact (.tail _ (.head _))) (fun hq => (absurd hq List.not_mem_nil))))
      have hS1 : Has μ0 ((b_a0, Obj.cells (#[v_a0_in_, v_a0_creds, v_a0_uses, v_a0_words, v_a0_todo, (.int .i64 ((IntKind.i64.wrap (a0_n + 1))))] : Array Value) 53 (0, 0)) :: []) _ := hST.has.sub (Sub.refl _) (fun p hq => ((List.mem_cons.1 hq).elim (fun hq => by rw [hq]; exact (.tail _ (.tail _ (.head _)))) (fun hq => (absurd hq List.not_mem_nil))))
      refine ⟨⟨hS0, fun _ => hS1⟩, ?_⟩
      refine PX_v 10 rfl (by kernel_rfl) (.inl rfl) rfl (by decide) (fun _ _ h => ⟨h.1, til (by rfl) h.2⟩) ⟨hS0, fun _ => hS1⟩ (fun _ _ _ _ => R_nilCheck rfl) ?_
      refine PX_v 11 rfl (by kernel_rfl) (.inl rfl) rfl (by decide) (fun _ _ h => ⟨h.1, til (by rfl) h.2⟩) ⟨hS0, fun _ => hS1⟩ (fun _ _ _ _ => R_field fa53_4 rfl) ?_
      obtain ⟨A102, c103, rfl⟩ := hR100.form
      refine PX_e0 12 rfl (by kernel_rfl) (.inl rfl) rfl (E_store [_, _] (.slice A102 l96.length c103) (#[v_a0_in_, v_a0_creds, v_a0_uses, v_a0_words, (.slice A102 l96.length c103), (.int .i64 ((IntKind.i64.wrap (a0_n + 1))))]) hST rfl rfl Try.sizeOf28 (by simp [Value.cells, Value.oneCell']) (Nat.le_of_ble_eq_true rfl) rfl (fun W104 hST => ?_))
      replace hST : ST true (keys ((b_a0, Obj.cells (#[v_a0_in_, v_a0_creds, v_a0_uses, v_a0_words, v_a0_todo, (.int .i64 a0_n)] : Array Value) 53 (0, 0)) :: (R_a0_in_ ++ (R_a0_creds ++ (R_a0_uses ++ (R_a0_words ++ (R_a0_todo ++ []))))))) w _ _ ((b94, Obj.cells ((encFact ((⟨a1, a2⟩ : Fact))).toArray : Array Value) 43 (0, 0)) :: ((b1, Obj.cells ((encRole a1).toArray : Array Value) 34 (0, 0)) :: ((b_a0, Obj.cells (#[v_a0_in_, v_a0_creds, v_a0_uses, v_a0_words, (.slice A102 l96.length c103), (.int .i64 ((IntKind.i64.wrap (a0_n + 1))))] : Array Value) 53 (0, 0)) :: (R99 ++ (R69 ++ (R_a0_creds ++ (R_a0_uses ++ (R_a0_words ++ L41)))))))) := hST
      have hS0 : Has μ0 ((b1, Obj.cells ((encRole a1).toArray : Array Value) 34 (0, 0)) :: []) _ := hST.has.sub (Sub.refl _) (fun p hq => ((List.mem_cons.1 hq).elim (fun hq => by rw [hq]; exact (.tail _ (.head _))) (fun hq => (absurd hq List.not_mem_nil))))
      refine ⟨⟨hS0, fun h => ffl (by kernel_rfl) h⟩, ?_⟩
      refine PX_done (by kernel_rfl) ?_
      refine retQ_n ?_
      replace hm42 := Option.some.inj hm42; subst hm42
      refine retQ_0 rfl ?_
      replace hST : ST true (keys ((b_a0, Obj.cells (#[v_a0_in_, v_a0_creds, v_a0_uses, v_a0_words, v_a0_todo, (.int .i64 a0_n)] : Array Value) 53 (0, 0)) :: (R_a0_in_ ++ (R_a0_creds ++ (R_a0_uses ++ (R_a0_words ++ (R_a0_todo ++ []))))))) w _ _ ((b94, Obj.cells ((encFact ((⟨a1, a2⟩ : Fact))).toArray : Array Value) 43 (0, 0)) :: ((b1, Obj.cells ((encRole a1).toArray : Array Value) 34 (0, 0)) :: ((b_a0, Obj.cells (#[v_a0_in_, v_a0_creds, v_a0_uses, v_a0_words, (.slice A102 l96.length c103), (.int .i64 ((IntKind.i64.wrap (a0_n + 1))))] : Array Value) 53 (0, 0)) :: (R99 ++ (R69 ++ (R_a0_creds ++ (R_a0_uses ++ (R_a0_words ++ L41)))))))) := hST
      exact ⟨_, ((b_a0, Obj.cells (#[v_a0_in_, v_a0_creds, v_a0_uses, v_a0_words, (.slice A102 l96.length c103), (.int .i64 ((IntKind.i64.wrap (a0_n + 1))))] : Array Value) 53 (0, 0)) :: (R69 ++ (R_a0_creds ++ (R_a0_uses ++ (R_a0_words ++ (R99 ++ [])))))), rfl, (ST.backM (L1 := ((b_a0, Obj.cells (#[v_a0_in_, v_a0_creds, v_a0_uses, v_a0_words, (.slice A102 l96.length c103), (.int .i64 ((IntKind.i64.wrap (a0_n + 1))))] : Array Value) 53 (0, 0)) :: (R69 ++ (R_a0_creds ++ (R_a0_uses ++ (R_a0_words ++ (R99 ++ []))))))) (by have hh : ST true (keys ((b_a0, Obj.cells (#[v_a0_in_, v_a0_creds, v_a0_uses, v_a0_words, v_a0_todo, (.int .i64 a0_n)] : Array Value) 53 (0, 0)) :: (R_a0_in_ ++ (R_a0_creds ++ (R_a0_uses ++ (R_a0_words ++ (R_a0_todo ++ []))))))) w _ _ ((b_a0, Obj.cells (#[v_a0_in_, v_a0_creds, v_a0_uses, v_a0_words, (.slice A102 l96.length c103), (.int .i64 ((IntKind.i64.wrap (a0_n + 1))))] : Array Value) 53 (0, 0)) :: (R69 ++ (R_a0_creds ++ (R_a0_uses ++ (R_a0_words ++ (R99 ++ ((b94, Obj.cells ((encFact ((⟨a1, a2⟩ : Fact))).toArray : Array Value) 43 (0, 0)) :: ((b1, Obj.cells ((encRole a1).toArray : Array Value) 34 (0, 0)) :: L41)))))))) := hST.perm (permD [[(b94, Obj.cells ((encFact ((⟨a1, a2⟩ : Fact))).toArray : Array Value) 43 (0, 0))], [(b1, Obj.cells ((encRole a1).toArray : Array Value) 34 (0, 0))], [(b_a0, Obj.cells (#[v_a0_in_, v_a0_creds, v_a0_uses, v_a0_words, (.slice A102 l96.length c103), (.int .i64 ((IntKind.i64.wrap (a0_n + 1))))] : Array Value) 53 (0, 0))], R99, R69, R_a0_creds, R_a0_uses, R_a0_words] [0, 1, 2, 3, 4, 5, 6, 7] [2, 4, 5, 6, 7, 3, 0, 1] L41 (by decide) rfl rfl); simpa only [List.append_assoc, List.cons_append, List.nil_append] using hh)), R69, (.slice A102 l96.length c103), R99, rfl, rfl, hR70.e, hR100⟩
theorem w_maps_Keys_map_stringbool_string_bool_ (v_a0 : Value) (a0 : List (ByteArray × Bool)) (r : Unit) (w : World) (h_a0 : MapAt Value.string (fun (x : Bool) => (Value.bool x)) (hp w) v_a0 a0) (hm : m_maps_Keys_map_stringbool_string_bool_ a0 = some r) :
    GivesM true Try.prog 39 [v_a0] w [] (fun v L1 W' => ∃ (b1 : Nat), v = (.func (.func 59) #[] #[(.pointer (some ⟨b1, 0, none⟩))]) ∧ L1 = ((b1, Obj.cells (#[v_a0] : Array Value) 59 (0, 0)) :: [])) := by
  have hST := ST.start (dd := true) w
  unfold m_maps_Keys_map_stringbool_string_bool_ at hm
  refine calls_of_CW (n := 4) Try.func39 rfl rfl (Nat.le_of_ble_eq_true rfl) ?_
  refine CW_seq ?_
  refine CW_region ?_
  obtain ⟨m1, rfl⟩ := h_a0.form
  refine LE (E_box (v := (.map m1)) hST rfl (fun W3 b2 hST => ?_))
  refine LV (R_assign (v := .nilFunc) rfl) ?_
  refine LW_nil ?_
  refine sq_n ?_
  refine CW_seq ?_
  refine CW_region ?_
  refine LV (R_makeFuncC (by exact args1 rfl) rfl) ?_
  refine LV (R_assign (v := (.func (.func 59) #[] #[(.pointer (some ⟨b2, 0, none⟩))])) rfl) ?_
  refine LW_nil ?_
  refine sq_n ?_
  refine CW_ret ?_
  replace hm := Option.some.inj hm; subst hm
  refine retQ_1 (v := (.func (.func 59) #[] #[(.pointer (some ⟨b2, 0, none⟩))])) rfl rfl ?_
  replace hST : ST true NoF w _ _ ((b2, Obj.cells (#[(.map m1)] : Array Value) 59 (0, 0)) :: []) := hST
  exact ⟨_, ((b2, Obj.cells (#[(.map m1)] : Array Value) 59 (0, 0)) :: []), rfl, (ST.backL (L1 := ((b2, Obj.cells (#[(.map m1)] : Array Value) 59 (0, 0)) :: [])) (by have hh : ST true NoF w _ _ ((b2, Obj.cells (#[(.map m1)] : Array Value) 59 (0, 0)) :: []) := hST.perm (List.Perm.refl _); simpa only [List.append_assoc, List.cons_append, List.nil_append] using hh)), b2, rfl, rfl⟩
theorem keysS_gives59 {β : Type} {vf : β → Value} {l : List (ByteArray × β)} {b : Nat} {mv : Value} {W : World} {r : List ByteArray} (hb : W.heap[b]? = some (.cells #[mv] 59 (0, 0))) (hm : MapAt Value.string vf (hp W) mv l) (hk : keysS l = some r) : GivesRow false Try.prog 38 [.func (.func 59) #[] #[.pointer (some ⟨b, 0, none⟩)]] W 9 encSk 1 r := keysS_gives (P := Try.prog) layK59 layT38 lay54 rfl Try.underlying9 Try.call59 Try.call54 hb hm hk
theorem w_model_Model_Members (b_a0 : Nat) (v_a0_in_ : Value) (a0_in_ : List (Role × (List (ByteArray × Bool)))) (v_a0_creds : Value) (a0_creds : List Cred) (v_a0_uses : Value) (a0_uses : List (Role × (List Cred))) (v_a0_words : Value) (a0_words : List (ByteArray × (List Cred))) (v_a0_todo : Value) (a0_todo : List Fact) (a0_n : Int) (a1 : Role) (r : List ByteArray) (w : World) (h_a0_in_ : DeepAt (fun (x : Role) => (.agg (encRole x).toArray)) (MapRow Value.string (fun (x : Bool) => (Value.bool x))) (hp w) v_a0_in_ a0_in_) (h_a0_creds : Sl (Pl encCred) 9 (hp w) v_a0_creds a0_creds) (h_a0_uses : DeepAt (fun (x : Role) => (.agg (encRole x).toArray)) (Row 36 encCred 9) (hp w) v_a0_uses a0_uses) (h_a0_words : DeepAt Value.string (Row 36 encCred 9) (hp w) v_a0_words a0_words) (h_a0_todo : Sl (Pl encFact) 3 (hp w) v_a0_todo a0_todo) (hA_a0 : At (hp w) (.pointer (some ⟨b_a0, 0, none⟩)) [v_a0_in_, v_a0_creds, v_a0_uses, v_a0_words, v_a0_todo, (.int .i64 a0_n)]) (hm : m_model_Model_Members a0_in_ a0_creds a0_uses a0_words a0_todo a0_n a1 = some r) :
    GivesRow false Try.prog 17 [(.pointer (some ⟨b_a0, 0, none⟩)), (.agg (encRole a1).toArray)] w 9 encSk 1 r := by
  have hST := ST.start (dd := false) w
  unfold m_model_Model_Members at hm
  refine calls_of_CW (n := 15) Try.func17 rfl rfl (Nat.le_of_ble_eq_true rfl) ?_
  refine CW_seq ?_
  refine CW_region ?_
  refine LE (E_box (v := (.agg (encRole a1).toArray)) hST rfl (fun W2 b1 hST => ?_))
  refine LV (R_assign (v := (.slice none 0 0)) rfl) ?_
  refine LW_nil ?_
  refine sq_n ?_
  refine CW_seq ?_
  refine CW_seq ?_
  refine CW_region ?_
  refine LV (R_move (v := (.pointer (some ⟨b_a0, 0, none⟩))) rfl) ?_
  refine LV (R_ptrEqNil Try.underlying25 rfl rfl) ?_
  refine LW_nil ?_
  refine sq_n ?_
  refine CW_if_false rfl ?_
  refine CW_skip ?_
  refine sq_n ?_
  refine CW_seq ?_
  refine PX_start (fun l W => Has (hp w) ((b1, Obj.cells ((encRole a1).toArray : Array Value) 34 (0, 0)) :: []) W) Try_mixed ?_
  replace hST := hST.drew
  have hS0 : Has (hp w) ((b1, Obj.cells ((encRole a1).toArray : Array Value) 34 (0, 0)) :: []) _ := hST.has.sub (Sub.refl _) (fun p hq => ((List.mem_cons.1 hq).elim (fun hq => by rw [hq]; exact (.head _)) (fun hq => (absurd hq List.not_mem_nil))))
  refine PV 0 rfl hS0 (R_move (v := (.pointer (some ⟨b_a0, 0, none⟩))) rfl) ?_
  refine PV 1 rfl hS0 (R_nilCheck rfl) ?_
  refine PX_q 2 rfl (by kernel_rfl) (.inl rfl) rfl (by decide) (fun _ _ h => h) hS0 (R_fieldAt [v_a0_in_] fa53_0 rfl hA_a0 rfl) (fun p53 hp54 => ?_)
  refine PX_v 3 rfl (by kernel_rfl) (.inl rfl) rfl (by decide) (fun _ _ h => h) hS0 (fun l W hpd hs => have hS := hs; R_load rfl (load_at1 hS (y := v_a0_in_) hp54 Try.isAgg49)) ?_
  refine PX_v 4 rfl (by kernel_rfl) (.inl rfl) rfl (by decide) (fun _ _ h => h) hS0 (fun l W hpd hs => have hS := hs; R_load (v := (.agg (encRole a1).toArray)) rfl (load_boxA hS (.head _) (encRole a1) rfl Try.isAgg34 Try.sizeOf34)) ?_
  obtain ⟨lv56, R57, hd58, hq59⟩ := h_a0_in_
  refine PX_v 5 rfl (by kernel_rfl) (.inl rfl) rfl (by decide) (fun _ _ h => h) hS0 (fun l W hpd hs => have hS := hs; R_lookupDeep (k := a1) (z := (.map none)) kl34 Try.underlying49 Try.zeroValue59 rfl rfl hd58 (fun b o hq => hS.1 b o (hq59 b o hq))) ?_
  obtain ⟨r60, hr61, hm⟩ := bind_some hm
  have hsz := hST.size
  refine PX_e 6 rfl (by kernel_rfl) (.inl rfl) rfl (by decide) (E_callM (args := [(valAt beqRole lv56 a1 (.map none))]) (caps := #[]) [] (((b1, Obj.cells ((encRole a1).toArray : Array Value) 34 (0, 0)) :: [])) hST (List.Perm.refl _) rfl Try.call39 (by exact args1 rfl) (fun _ _ _ _ => GivesM.weak (w_maps_Keys_map_stringbool_string_bool_ (valAt beqRole lv56 a1 (.map none)) (((mget beqRole a0_in_ a1).getD [])) _ _ ((DeepV.mapAt beqRole_iff.1 hd58 a1 hq59).mono hST.sub_hp) hr61)) (fun W62 v65 μ63 L67 hST hle64 hlift hK66 => ?_))
  obtain ⟨b68, hv69, rfl⟩ := hK66
  replace hv69 := hv69.symm; subst hv69
  simp only [List.append_assoc, List.cons_append, List.nil_append] at hST
  replace hST : ST false NoF w _ _ ((b68, Obj.cells (#[(valAt beqRole lv56 a1 (.map none))] : Array Value) 59 (0, 0)) :: ((b1, Obj.cells ((encRole a1).toArray : Array Value) 34 (0, 0)) :: [])) := hST
  have hS0 : Has (hp w) ((b1, Obj.cells ((encRole a1).toArray : Array Value) 34 (0, 0)) :: []) _ := hST.has.sub hle64 (fun p hq => ((List.mem_cons.1 hq).elim (fun hq => by rw [hq]; exact (.tail _ (.head _))) (fun hq => (absurd hq List.not_mem_nil))))
  refine ⟨hS0, ?_⟩
  obtain ⟨r70, hr71, hm⟩ := bind_some hm
  refine PX_e 7 rfl (by kernel_rfl) (.inl rfl) rfl (by decide) (E_givesRow (args := [(.func (.func 59) #[] #[(.pointer (some ⟨b68, 0, none⟩))])]) [_, _] _ hST rfl Try.call38 (by exact args1 rfl) (keysS_gives59 (vf := (fun (x : Bool) => (Value.bool x))) (hST.has.2 _ _ (.head _)) ((DeepV.mapAt beqRole_iff.1 hd58 a1 hq59).mono (fun b o hq => hST.has.1 b o (hle64 b o hq))) hr71) (fun W72 v75 μ73 R76 hST hle74 hR77 => ?_))
  replace hST : ST false NoF w _ _ ((b68, Obj.cells (#[(valAt beqRole lv56 a1 (.map none))] : Array Value) 59 (0, 0)) :: ((b1, Obj.cells ((encRole a1).toArray : Array Value) 34 (0, 0)) :: (R76 ++ []))) := hST
  have hS0 : Has (hp w) ((b1, Obj.cells ((encRole a1).toArray : Array Value) 34 (0, 0)) :: []) _ := hST.has.sub (hle64.trans hle74) (fun p hq => ((List.mem_cons.1 hq).elim (fun hq => by rw [hq]; exact (.tail _ (.head _))) (fun hq => (absurd hq List.not_mem_nil))))
  refine ⟨hS0, ?_⟩
  refine PV 8 rfl hS0 (R_assign (v := v75) rfl) ?_
  refine PX_done (by kernel_rfl) ?_
  refine sq_n ?_
  replace hST : ST false NoF w _ _ (R76 ++ []) := hST.sublist (List.Sublist.cons _ (List.Sublist.cons _ (List.Sublist.refl _)))
  refine CW_ret ?_
  replace hm := Option.some.inj hm; subst hm
  refine retQ_1 (v := v75) rfl rfl ?_
  exact ⟨_, R76, rfl, hST.backRow (fun p hq => by simp [hq]) hR77.nd, hR77⟩
theorem w_model_Model_all_w (b_a0 : Nat) (v_a0_in_ : Value) (a0_in_ : List (Role × (List (ByteArray × Bool)))) (R_a0_in_ : List (Nat × Obj)) (v_a0_creds : Value) (a0_creds : List Cred) (R_a0_creds : List (Nat × Obj)) (v_a0_uses : Value) (a0_uses : List (Role × (List Cred))) (R_a0_uses : List (Nat × Obj)) (v_a0_words : Value) (a0_words : List (ByteArray × (List Cred))) (R_a0_words : List (Nat × Obj)) (v_a0_todo : Value) (a0_todo : List Fact) (R_a0_todo : List (Nat × Obj)) (a0_n : Int) (a1 : Role) (a2 : Role) (r : ((List (Role × (List (ByteArray × Bool)))) × (List Fact) × Int)) (w : World) {μ0 : Mem} (hH : Held ((b_a0, Obj.cells (#[v_a0_in_, v_a0_creds, v_a0_uses, v_a0_words, v_a0_todo, (.int .i64 a0_n)] : Array Value) 53 (0, 0)) :: (R_a0_in_ ++ (R_a0_creds ++ (R_a0_uses ++ (R_a0_words ++ (R_a0_todo ++ [])))))) w) (hN : ((((b_a0, Obj.cells (#[v_a0_in_, v_a0_creds, v_a0_uses, v_a0_words, v_a0_todo, (.int .i64 a0_n)] : Array Value) 53 (0, 0)) :: (R_a0_in_ ++ (R_a0_creds ++ (R_a0_uses ++ (R_a0_words ++ (R_a0_todo ++ [])))))) : List (Nat × Obj)).map (·.1)).Nodup) (hS0 : Sub μ0 (hpx w ((b_a0, Obj.cells (#[v_a0_in_, v_a0_creds, v_a0_uses, v_a0_words, v_a0_todo, (.int .i64 a0_n)] : Array Value) 53 (0, 0)) :: (R_a0_in_ ++ (R_a0_creds ++ (R_a0_uses ++ (R_a0_words ++ (R_a0_todo ++ [])))))))) (h_a0_in_ : DeepE (fun (x : Role) => (.agg (encRole x).toArray)) (MapRow Value.string (fun (x : Bool) => (Value.bool x))) v_a0_in_ a0_in_ R_a0_in_) (h_a0_creds : Row 36 encCred 9 v_a0_creds a0_creds R_a0_creds) (h_a0_uses : DeepE (fun (x : Role) => (.agg (encRole x).toArray)) (Row 36 encCred 9) v_a0_uses a0_uses R_a0_uses) (h_a0_words : DeepE Value.string (Row 36 encCred 9) v_a0_words a0_words R_a0_words) (h_a0_todo : Que 43 encFact 3 v_a0_todo a0_todo R_a0_todo) (hm : m_model_Model_all_w a0_in_ a0_creds a0_uses a0_words a0_todo a0_n a1 a2 = some r) :
    GivesM false Try.prog 63 [(.pointer (some ⟨b_a0, 0, none⟩)), (.agg (encRole a1).toArray), (.agg (encRole a2).toArray)] w ((b_a0, Obj.cells (#[v_a0_in_, v_a0_creds, v_a0_uses, v_a0_words, v_a0_todo, (.int .i64 a0_n)] : Array Value) 53 (0, 0)) :: (R_a0_in_ ++ (R_a0_creds ++ (R_a0_uses ++ (R_a0_words ++ (R_a0_todo ++ [])))))) (fun v L1 W' => ∃ (S1 : List (Nat × Obj)) (y3 : Value) (S4 : List (Nat × Obj)), v = (.tuple #[]) ∧ L1 = ((b_a0, Obj.cells (#[v_a0_in_, v_a0_creds, v_a0_uses, v_a0_words, y3, (.int .i64 (r.2.2))] : Array Value) 53 (0, 0)) :: (S1 ++ (R_a0_creds ++ (R_a0_uses ++ (R_a0_words ++ (S4 ++ [])))))) ∧ DeepE (fun (x : Role) => (.agg (encRole x).toArray)) (MapRow Value.string (fun (x : Bool) => (Value.bool x))) v_a0_in_ r.1 S1 ∧ Que 43 encFact 3 y3 r.2.1 S4) := by
  have hST := (ST.startM (dd := false) hH hN).weak hS0
  unfold m_model_Model_all_w at hm
  refine calls_of_CW (n := 21) Try.func63 rfl rfl (Nat.le_of_ble_eq_true rfl) ?_
  refine CW_seq ?_
  refine CW_region ?_
  refine LE (E_box (v := (.agg (encRole a1).toArray)) hST rfl (fun W2 b1 hST => ?_))
  refine LE (E_box (v := (.agg (encRole a2).toArray)) hST rfl (fun W4 b3 hST => ?_))
  refine LW_nil ?_
  refine sq_n ?_
  refine CW_seq ?_
  refine CW_region ?_
  refine LV (R_move (v := (.pointer (some ⟨b_a0, 0, none⟩))) rfl) ?_
  refine LV (R_load (v := (.agg (encRole a1).toArray)) rfl (load_boxA hST.has (.tail _ (.head _)) (encRole a1) rfl Try.isAgg34 Try.sizeOf34)) ?_
  obtain ⟨r5, hr6, hm⟩ := bind_some hm
  refine LE (E_givesRow (args := [(.pointer (some ⟨b_a0, 0, none⟩)), (.agg (encRole a1).toArray)]) [_, _, _] _ hST rfl Try.call17 (by exact args2 rfl rfl) ((w_model_Model_Members b_a0 v_a0_in_ a0_in_ v_a0_creds a0_creds v_a0_uses a0_uses v_a0_words a0_words v_a0_todo a0_todo a0_n a1 _ _ (h_a0_in_.at (fun b o hq => hST.at_ (.tail _ (.tail _ (.tail _ (List.mem_append_left _ hq)))))) (h_a0_creds.sl lenCred (fun b o hq => hST.at_ (.tail _ (.tail _ (.tail _ (List.mem_append_right _ (List.mem_append_left _ hq))))))) (h_a0_uses.at (fun b o hq => hST.at_ (.tail _ (.tail _ (.tail _ (List.mem_append_right _ (List.mem_append_right _ (List.mem_append_left _ hq)))))))) (h_a0_words.at (fun b o hq => hST.at_ (.tail _ (.tail _ (.tail _ (List.mem_append_right _ (List.mem_append_right _ (List.mem_append_right _ (List.mem_append_left _ hq))))))))) ((h_a0_todo.slL lenFact).mono (Pl.mono _) (memL_held (fun b o hq => hST.at_ (.tail _ (.tail _ (.tail _ (List.mem_append_right _ (List.mem_append_right _ (List.mem_append_right _ (List.mem_append_right _ (List.mem_append_left _ hq))))))))))) (At.of (hST.at_ (.tail _ (.tail _ (.head _)))) _ rfl) hr6)) (fun W7 v10 μ8 R11 hST hle9 hR12 => ?_))
  refine LV (R_lenRow Try.underlying37 rfl hR12) ?_
  refine LV (R_move (v := (.int .i64 0)) rfl) ?_
  refine LW_nil ?_
  refine sq_n ?_
  replace hST : ST false (keys ((b_a0, Obj.cells (#[v_a0_in_, v_a0_creds, v_a0_uses, v_a0_words, v_a0_todo, (.int .i64 a0_n)] : Array Value) 53 (0, 0)) :: (R_a0_in_ ++ (R_a0_creds ++ (R_a0_uses ++ (R_a0_words ++ (R_a0_todo ++ []))))))) w _ _ ((b3, Obj.cells ((encRole a2).toArray : Array Value) 34 (0, 0)) :: ((b1, Obj.cells ((encRole a1).toArray : Array Value) 34 (0, 0)) :: ((b_a0, Obj.cells (#[v_a0_in_, v_a0_creds, v_a0_uses, v_a0_words, v_a0_todo, (.int .i64 a0_n)] : Array Value) 53 (0, 0)) :: (R11 ++ (R_a0_in_ ++ (R_a0_creds ++ (R_a0_uses ++ (R_a0_words ++ (R_a0_todo ++ []))))))))) := hST
  replace hST : ST false (keys ((b_a0, Obj.cells (#[v_a0_in_, v_a0_creds, v_a0_uses, v_a0_words, v_a0_todo, (.int .i64 a0_n)] : Array Value) 53 (0, 0)) :: (R_a0_in_ ++ (R_a0_creds ++ (R_a0_uses ++ (R_a0_words ++ (R_a0_todo ++ []))))))) w _ _ ((b3, Obj.cells ((encRole a2).toArray : Array Value) 34 (0, 0)) :: ((b_a0, Obj.cells (#[v_a0_in_, v_a0_creds, v_a0_uses, v_a0_words, v_a0_todo, (.int .i64 a0_n)] : Array Value) 53 (0, 0)) :: (R11 ++ (R_a0_in_ ++ (R_a0_creds ++ (R_a0_uses ++ (R_a0_words ++ (R_a0_todo ++ [])))))))) := hST.sublist (List.Sublist.cons_cons _ (List.Sublist.cons _ (List.Sublist.refl _)))
  refine CW_tail ?_
  replace hST : ST false (keys ((b_a0, Obj.cells (#[v_a0_in_, v_a0_creds, v_a0_uses, v_a0_words, v_a0_todo, (.int .i64 a0_n)] : Array Value) 53 (0, 0)) :: (R_a0_in_ ++ (R_a0_creds ++ (R_a0_uses ++ (R_a0_words ++ (R_a0_todo ++ []))))))) w _ _ ((b_a0, Obj.cells (#[v_a0_in_, v_a0_creds, v_a0_uses, v_a0_words, v_a0_todo, (.int .i64 a0_n)] : Array Value) 53 (0, 0)) :: ((b3, Obj.cells ((encRole a2).toArray : Array Value) 34 (0, 0)) :: (R_a0_in_ ++ (R_a0_creds ++ (R_a0_uses ++ (R_a0_words ++ (R_a0_todo ++ (R11 ++ [])))))))) := hST.perm (permD [[(b3, Obj.cells ((encRole a2).toArray : Array Value) 34 (0, 0))], [(b_a0, Obj.cells (#[v_a0_in_, v_a0_creds, v_a0_uses, v_a0_words, v_a0_todo, (.int .i64 a0_n)] : Array Value) 53 (0, 0))], R11, R_a0_in_, R_a0_creds, R_a0_uses, R_a0_words, R_a0_todo] [0, 1, 2, 3, 4, 5, 6, 7] [1, 0, 3, 4, 5, 6, 7, 2] ([]) (by decide) rfl rfl)
  refine CW_range (fun i E W => ∃ (l124 : List (Role × (List (ByteArray × Bool)))) (R126 : List (Nat × Obj)) (v127 : Value) (l128 : List Fact) (R130 : List (Nat × Obj)) (x131 : Int) (μ123 : Mem) (L162 : List (Nat × Obj)), (E 12 = .int .i64 (i : Nat) ∧ E 11 = .int .i64 (r5.length : Nat)) ∧ Sub μ8 μ123 ∧ ST false (keys ((b_a0, Obj.cells (#[v_a0_in_, v_a0_creds, v_a0_uses, v_a0_words, v_a0_todo, (.int .i64 a0_n)] : Array Value) 53 (0, 0)) :: (R_a0_in_ ++ (R_a0_creds ++ (R_a0_uses ++ (R_a0_words ++ (R_a0_todo ++ []))))))) w W μ123 ((b_a0, Obj.cells (#[v_a0_in_, v_a0_creds, v_a0_uses, v_a0_words, v127, (.int .i64 x131)] : Array Value) 53 (0, 0)) :: ((b3, Obj.cells ((encRole a2).toArray : Array Value) 34 (0, 0)) :: (R126 ++ (R_a0_creds ++ (R_a0_uses ++ (R_a0_words ++ (R130 ++ (R11 ++ L162)))))))) ∧ E 0 = (.pointer (some ⟨b_a0, 0, none⟩)) ∧ E 5 = (.pointer (some ⟨b3, 0, none⟩)) ∧ E 10 = v10 ∧ DeepE (fun (x : Role) => (.agg (encRole x).toArray)) (MapRow Value.string (fun (x : Bool) => (Value.bool x))) v_a0_in_ l124 R126 ∧ Que 43 encFact 3 v127 l128 R130 ∧ m_model_Model_all_w_L1 a0_creds a0_uses a0_words a2 (r5.drop i) l124 l128 x131 = some r) r5.length hR12.len ⟨a0_in_, R_a0_in_, v_a0_todo, a0_todo, R_a0_todo, a0_n, μ8, _, ⟨rfl, rfl⟩, (Sub.refl _), (hST.sublist (List.Sublist.refl _)), rfl, rfl, rfl, h_a0_in_, h_a0_todo, hm⟩ (by decide) (by decide) (by decide) (fun _ _ _ h => by obtain ⟨_, _, _, _, _, _, _, _, eIN, _⟩ := h; exact eIN) ?_ ?_
  · rintro i99 E W hi105 ⟨l124, R126, v127, l128, R130, x131, μ123, L162, ⟨eI, eN⟩, hle164, hST, e165, e166, e167, hs125, hs129, hm163⟩
    obtain ⟨x100, xs101, hx103, hx102, hx104⟩ := drop_cons hi105
    rw [hx103] at hm163
    rw [m_model_Model_all_w_L1] at hm163
    refine CW_block ?_
    refine CW_seq ?_
    refine CW_region ?_
    refine LQ (R_indexRow (i := (i99 : Int)) (x0 := x100) Try.underlying37 Try.sizeOf9 e167 eI hR12 (Int.natCast_nonneg _) hx102) (fun p168 hp169 => ?_)
    refine LV (R_load (v := (.string x100)) rfl (load_ix1 hST.has (fun p hq => by simp [hq]) hR12 (fun _ => rfl) hp169 hx102 (y := (.string x100)) rfl Try.isAgg9)) ?_
    refine LV (R_assign (v := (.string x100)) rfl) ?_
    refine LW_nil ?_
    refine sq_n ?_
    refine CW_region ?_
    refine LV (R_move (v := (.pointer (some ⟨b_a0, 0, none⟩))) e165) ?_
    refine LV (R_load (v := (.agg (encRole a2).toArray)) e166 (load_boxA hST.has (.tail _ (.head _)) (encRole a2) rfl Try.isAgg34 Try.sizeOf34)) ?_
    refine LV (R_move (v := (.string x100)) rfl) ?_
    obtain ⟨r171, hr172, hm163⟩ := bind_some hm163
    replace hST : ST false (keys ((b_a0, Obj.cells (#[v_a0_in_, v_a0_creds, v_a0_uses, v_a0_words, v_a0_todo, (.int .i64 a0_n)] : Array Value) 53 (0, 0)) :: (R_a0_in_ ++ (R_a0_creds ++ (R_a0_uses ++ (R_a0_words ++ (R_a0_todo ++ []))))))) w _ _ ((b_a0, Obj.cells (#[v_a0_in_, v_a0_creds, v_a0_uses, v_a0_words, v127, (.int .i64 x131)] : Array Value) 53 (0, 0)) :: (R126 ++ (R_a0_creds ++ (R_a0_uses ++ (R_a0_words ++ (R130 ++ ((b3, Obj.cells ((encRole a2).toArray : Array Value) 34 (0, 0)) :: (R11 ++ L162)))))))) := hST.perm (permD [[(b_a0, Obj.cells (#[v_a0_in_, v_a0_creds, v_a0_uses, v_a0_words, v127, (.int .i64 x131)] : Array Value) 53 (0, 0))], [(b3, Obj.cells ((encRole a2).toArray : Array Value) 34 (0, 0))], R126, R_a0_creds, R_a0_uses, R_a0_words, R130] [0, 1, 2, 3, 4, 5, 6] [0, 2, 3, 4, 5, 6, 1] ((R11 ++ L162)) (by decide) rfl rfl)
    have hsz := hST.size
    refine LE (E_callM (args := [(.pointer (some ⟨b_a0, 0, none⟩)), (.agg (encRole a2).toArray), (.string x100)]) (caps := #[]) (((b_a0, Obj.cells (#[v_a0_in_, v_a0_creds, v_a0_uses, v_a0_words, v127, (.int .i64 x131)] : Array Value) 53 (0, 0)) :: (R126 ++ (R_a0_creds ++ (R_a0_uses ++ (R_a0_words ++ (R130 ++ []))))))) (((b3, Obj.cells ((encRole a2).toArray : Array Value) 34 (0, 0)) :: (R11 ++ L162))) hST (by simp only [List.append_assoc, List.cons_append, List.nil_append]; exact List.Perm.refl _) rfl Try.call45 (by exact args3 rfl rfl rfl) (fun hH hN hsb hmm => GivesM.weak (w_model_Model_tell_w b_a0 v_a0_in_ l124 R126 v_a0_creds a0_creds R_a0_creds v_a0_uses a0_uses R_a0_uses v_a0_words a0_words R_a0_words v127 l128 R130 x131 a2 x100 _ _ hH hN (Sub.refl _) hs125 h_a0_creds h_a0_uses h_a0_words hs129 hr172)) (fun W173 v176 μ174 L178 hST hle175 hlift hK177 => ?_))
    obtain ⟨S179, y181, S182, hv184, rfl, hy180, hy183⟩ := hK177
    replace hv184 := hv184.symm; subst hv184
    simp only [List.append_assoc, List.cons_append, List.nil_append] at hST
    replace hST : ST false (keys ((b_a0, Obj.cells (#[v_a0_in_, v_a0_creds, v_a0_uses, v_a0_words, v_a0_todo, (.int .i64 a0_n)] : Array Value) 53 (0, 0)) :: (R_a0_in_ ++ (R_a0_creds ++ (R_a0_uses ++ (R_a0_words ++ (R_a0_todo ++ []))))))) w _ _ ((b_a0, Obj.cells (#[v_a0_in_, v_a0_creds, v_a0_uses, v_a0_words, y181, (.int .i64 (r171.2.2))] : Array Value) 53 (0, 0)) :: ((b3, Obj.cells ((encRole a2).toArray : Array Value) 34 (0, 0)) :: (S179 ++ (R_a0_creds ++ (R_a0_uses ++ (R_a0_words ++ (S182 ++ (R11 ++ L162)))))))) := hST.perm (permD [[(b_a0, Obj.cells (#[v_a0_in_, v_a0_creds, v_a0_uses, v_a0_words, y181, (.int .i64 (r171.2.2))] : Array Value) 53 (0, 0))], S179, R_a0_creds, R_a0_uses, R_a0_words, S182, [(b3, Obj.cells ((encRole a2).toArray : Array Value) 34 (0, 0))]] [0, 1, 2, 3, 4, 5, 6] [0, 6, 1, 2, 3, 4, 5] ((R11 ++ L162)) (by decide) rfl rfl)
    refine LW_nil ?_
    refine bq_n ?_
    refine sq_n ?_
    exact ⟨eI, r171.1, S179, y181, r171.2.1, S182, r171.2.2, μ174, _, ⟨rfl, eN⟩, (hle164.trans hle175), (hST.sublist (List.Sublist.refl _)), e165, e166, e167, hy180, hy183, (by rw [hx104]; exact hm163)⟩
  · rintro E W ⟨l124, R126, v127, l128, R130, x131, μ123, L162, ⟨eI, eN⟩, hle164, hST, e165, e166, e167, hs125, hs129, hm163⟩
    rw [List.drop_length] at hm163
    rw [m_model_Model_all_w_L1] at hm163
    refine sq_n ?_
    replace hST : ST false (keys ((b_a0, Obj.cells (#[v_a0_in_, v_a0_creds, v_a0_uses, v_a0_words, v_a0_todo, (.int .i64 a0_n)] : Array Value) 53 (0, 0)) :: (R_a0_in_ ++ (R_a0_creds ++ (R_a0_uses ++ (R_a0_words ++ (R_a0_todo ++ []))))))) w _ _ ((b_a0, Obj.cells (#[v_a0_in_, v_a0_creds, v_a0_uses, v_a0_words, v127, (.int .i64 x131)] : Array Value) 53 (0, 0)) :: (R126 ++ (R_a0_creds ++ (R_a0_uses ++ (R_a0_words ++ (R130 ++ L162)))))) := hST.sublist (List.Sublist.cons_cons _ (List.Sublist.cons _ (List.Sublist.append (List.Sublist.refl _) (List.Sublist.append (List.Sublist.refl _) (List.Sublist.append (List.Sublist.refl _) (List.Sublist.append (List.Sublist.refl _) (List.Sublist.append (List.Sublist.refl _) ((List.Sublist.refl _).trans (List.sublist_append_right _ _)))))))))
    refine retQ_n ?_
    replace hm163 := Option.some.inj hm163; subst hm163
    refine retQ_0 rfl ?_
    replace hST : ST false (keys ((b_a0, Obj.cells (#[v_a0_in_, v_a0_creds, v_a0_uses, v_a0_words, v_a0_todo, (.int .i64 a0_n)] : Array Value) 53 (0, 0)) :: (R_a0_in_ ++ (R_a0_creds ++ (R_a0_uses ++ (R_a0_words ++ (R_a0_todo ++ []))))))) w _ _ ((b_a0, Obj.cells (#[v_a0_in_, v_a0_creds, v_a0_uses, v_a0_words, v127, (.int .i64 x131)] : Array Value) 53 (0, 0)) :: (R126 ++ (R_a0_creds ++ (R_a0_uses ++ (R_a0_words ++ (R130 ++ L162)))))) := hST
    exact ⟨_, ((b_a0, Obj.cells (#[v_a0_in_, v_a0_creds, v_a0_uses, v_a0_words, v127, (.int .i64 x131)] : Array Value) 53 (0, 0)) :: (R126 ++ (R_a0_creds ++ (R_a0_uses ++ (R_a0_words ++ (R130 ++ [])))))), rfl, (ST.backM (L1 := ((b_a0, Obj.cells (#[v_a0_in_, v_a0_creds, v_a0_uses, v_a0_words, v127, (.int .i64 x131)] : Array Value) 53 (0, 0)) :: (R126 ++ (R_a0_creds ++ (R_a0_uses ++ (R_a0_words ++ (R130 ++ []))))))) (by have hh : ST false (keys ((b_a0, Obj.cells (#[v_a0_in_, v_a0_creds, v_a0_uses, v_a0_words, v_a0_todo, (.int .i64 a0_n)] : Array Value) 53 (0, 0)) :: (R_a0_in_ ++ (R_a0_creds ++ (R_a0_uses ++ (R_a0_words ++ (R_a0_todo ++ []))))))) w _ _ ((b_a0, Obj.cells (#[v_a0_in_, v_a0_creds, v_a0_uses, v_a0_words, v127, (.int .i64 x131)] : Array Value) 53 (0, 0)) :: (R126 ++ (R_a0_creds ++ (R_a0_uses ++ (R_a0_words ++ (R130 ++ L162)))))) := hST.perm (List.Perm.refl _); simpa only [List.append_assoc, List.cons_append, List.nil_append] using hh)), R126, v127, R130, rfl, rfl, hs125, hs129⟩
theorem w_model_Model_use_w (b_a0 : Nat) (v_a0_in_ : Value) (a0_in_ : List (Role × (List (ByteArray × Bool)))) (R_a0_in_ : List (Nat × Obj)) (v_a0_creds : Value) (a0_creds : List Cred) (R_a0_creds : List (Nat × Obj)) (v_a0_uses : Value) (a0_uses : List (Role × (List Cred))) (R_a0_uses : List (Nat × Obj)) (v_a0_words : Value) (a0_words : List (ByteArray × (List Cred))) (R_a0_words : List (Nat × Obj)) (v_a0_todo : Value) (a0_todo : List Fact) (R_a0_todo : List (Nat × Obj)) (a0_n : Int) (a1 : Cred) (a2 : Fact) (r : ((List (Role × (List (ByteArray × Bool)))) × (List Fact) × Int)) (w : World) {μ0 : Mem} (hH : Held ((b_a0, Obj.cells (#[v_a0_in_, v_a0_creds, v_a0_uses, v_a0_words, v_a0_todo, (.int .i64 a0_n)] : Array Value) 53 (0, 0)) :: (R_a0_in_ ++ (R_a0_creds ++ (R_a0_uses ++ (R_a0_words ++ (R_a0_todo ++ [])))))) w) (hN : ((((b_a0, Obj.cells (#[v_a0_in_, v_a0_creds, v_a0_uses, v_a0_words, v_a0_todo, (.int .i64 a0_n)] : Array Value) 53 (0, 0)) :: (R_a0_in_ ++ (R_a0_creds ++ (R_a0_uses ++ (R_a0_words ++ (R_a0_todo ++ [])))))) : List (Nat × Obj)).map (·.1)).Nodup) (hS0 : Sub μ0 (hpx w ((b_a0, Obj.cells (#[v_a0_in_, v_a0_creds, v_a0_uses, v_a0_words, v_a0_todo, (.int .i64 a0_n)] : Array Value) 53 (0, 0)) :: (R_a0_in_ ++ (R_a0_creds ++ (R_a0_uses ++ (R_a0_words ++ (R_a0_todo ++ [])))))))) (h_a0_in_ : DeepE (fun (x : Role) => (.agg (encRole x).toArray)) (MapRow Value.string (fun (x : Bool) => (Value.bool x))) v_a0_in_ a0_in_ R_a0_in_) (h_a0_creds : Row 36 encCred 9 v_a0_creds a0_creds R_a0_creds) (h_a0_uses : DeepE (fun (x : Role) => (.agg (encRole x).toArray)) (Row 36 encCred 9) v_a0_uses a0_uses R_a0_uses) (h_a0_words : DeepE Value.string (Row 36 encCred 9) v_a0_words a0_words R_a0_words) (h_a0_todo : Que 43 encFact 3 v_a0_todo a0_todo R_a0_todo) (hm : m_model_Model_use_w a0_in_ a0_creds a0_uses a0_words a0_todo a0_n a1 a2 = some r) :
    GivesM false Try.prog 46 [(.pointer (some ⟨b_a0, 0, none⟩)), (.agg (encCred a1).toArray), (.agg (encFact a2).toArray)] w ((b_a0, Obj.cells (#[v_a0_in_, v_a0_creds, v_a0_uses, v_a0_words, v_a0_todo, (.int .i64 a0_n)] : Array Value) 53 (0, 0)) :: (R_a0_in_ ++ (R_a0_creds ++ (R_a0_uses ++ (R_a0_words ++ (R_a0_todo ++ [])))))) (fun v L1 W' => ∃ (S1 : List (Nat × Obj)) (y3 : Value) (S4 : List (Nat × Obj)), v = (.tuple #[]) ∧ L1 = ((b_a0, Obj.cells (#[v_a0_in_, v_a0_creds, v_a0_uses, v_a0_words, y3, (.int .i64 (r.2.2))] : Array Value) 53 (0, 0)) :: (S1 ++ (R_a0_creds ++ (R_a0_uses ++ (R_a0_words ++ (S4 ++ [])))))) ∧ DeepE (fun (x : Role) => (.agg (encRole x).toArray)) (MapRow Value.string (fun (x : Bool) => (Value.bool x))) v_a0_in_ r.1 S1 ∧ Que 43 encFact 3 y3 r.2.1 S4) := by
  have hST := (ST.startM (dd := false) hH hN).weak hS0
  unfold m_model_Model_use_w at hm
  refine calls_of_CW (n := 57) Try.func46 rfl rfl (Nat.le_of_ble_eq_true rfl) ?_
  refine CW_seq ?_
  refine CW_region ?_
  refine LE (E_box (v := (.agg (encCred a1).toArray)) hST rfl (fun W2 b1 hST => ?_))
  refine LE (E_box (v := (.agg (encFact a2).toArray)) hST rfl (fun W4 b3 hST => ?_))
  refine LW_nil ?_
  refine sq_n ?_
  refine CW_seq ?_
  refine CW_region ?_
  refine LV (R_field fa36_0 rfl) ?_
  refine LV (R_load (v := (.int .i64 a1.Kind)) rfl (load_box1 hST.has (.tail _ (.head _)) rfl Try.isAgg3)) ?_
  refine LW_nil ?_
  refine sq_n ?_
  refine CW_block ?_
  refine CW_seq ?_
  refine CW_region ?_
  refine LV (R_int (k := .i64) (a := a1.Kind) (b := 2) (v := (.bool ((a1.Kind == 2)))) rfl rfl rfl) ?_
  refine LV (R_assign (v := (.bool ((a1.Kind == 2)))) rfl) ?_
  refine LW_nil ?_
  refine sq_n ?_
  refine CW_if (b := (a1.Kind == 2)) rfl (fun hb5 => ?_) (fun hb5 => ?_)
  · replace hm := if_t hb5 hm
    refine CW_region ?_
    refine LV (R_move (v := (.pointer (some ⟨b_a0, 0, none⟩))) rfl) ?_
    refine LV (R_field fa36_1 rfl) ?_
    refine LV (R_load (v := (.agg (encRole a1.Head).toArray)) rfl (load_boxA hST.has (.tail _ (.head _)) (encRole a1.Head) rfl Try.isAgg34 Try.sizeOf34)) ?_
    refine LV (R_field fa43_1 rfl) ?_
    refine LV (R_load (v := (.string a2.Who)) rfl (load_box1 hST.has (.head _) rfl Try.isAgg9)) ?_
    obtain ⟨r6, hr7, hm⟩ := bind_some hm
    replace hST : ST false (keys ((b_a0, Obj.cells (#[v_a0_in_, v_a0_creds, v_a0_uses, v_a0_words, v_a0_todo, (.int .i64 a0_n)] : Array Value) 53 (0, 0)) :: (R_a0_in_ ++ (R_a0_creds ++ (R_a0_uses ++ (R_a0_words ++ (R_a0_todo ++ []))))))) w _ _ ((b_a0, Obj.cells (#[v_a0_in_, v_a0_creds, v_a0_uses, v_a0_words, v_a0_todo, (.int .i64 a0_n)] : Array Value) 53 (0, 0)) :: (R_a0_in_ ++ (R_a0_creds ++ (R_a0_uses ++ (R_a0_words ++ (R_a0_todo ++ ((b3, Obj.cells ((encFact a2).toArray : Array Value) 43 (0, 0)) :: ((b1, Obj.cells ((encCred a1).toArray : Array Value) 36 (0, 0)) :: [])))))))) := hST.perm (permD [[(b3, Obj.cells ((encFact a2).toArray : Array Value) 43 (0, 0))], [(b1, Obj.cells ((encCred a1).toArray : Array Value) 36 (0, 0))], [(b_a0, Obj.cells (#[v_a0_in_, v_a0_creds, v_a0_uses, v_a0_words, v_a0_todo, (.int .i64 a0_n)] : Array Value) 53 (0, 0))], R_a0_in_, R_a0_creds, R_a0_uses, R_a0_words, R_a0_todo] [0, 1, 2, 3, 4, 5, 6, 7] [2, 3, 4, 5, 6, 7, 0, 1] ([]) (by decide) rfl rfl)
    have hsz := hST.size
    refine LE (E_callM (args := [(.pointer (some ⟨b_a0, 0, none⟩)), (.agg (encRole a1.Head).toArray), (.string a2.Who)]) (caps := #[]) (((b_a0, Obj.cells (#[v_a0_in_, v_a0_creds, v_a0_uses, v_a0_words, v_a0_todo, (.int .i64 a0_n)] : Array Value) 53 (0, 0)) :: (R_a0_in_ ++ (R_a0_creds ++ (R_a0_uses ++ (R_a0_words ++ (R_a0_todo ++ []))))))) (((b3, Obj.cells ((encFact a2).toArray : Array Value) 43 (0, 0)) :: ((b1, Obj.cells ((encCred a1).toArray : Array Value) 36 (0, 0)) :: []))) hST (by simp only [List.append_assoc, List.cons_append, List.nil_append]; exact List.Perm.refl _) rfl Try.call45 (by exact args3 rfl rfl rfl) (fun hH hN hsb hmm => GivesM.weak (w_model_Model_tell_w b_a0 v_a0_in_ a0_in_ R_a0_in_ v_a0_creds a0_creds R_a0_creds v_a0_uses a0_uses R_a0_uses v_a0_words a0_words R_a0_words v_a0_todo a0_todo R_a0_todo a0_n a1.Head a2.Who _ _ hH hN (Sub.refl _) h_a0_in_ h_a0_creds h_a0_uses h_a0_words h_a0_todo hr7)) (fun W8 v11 μ9 L13 hST hle10 hlift hK12 => ?_))
    obtain ⟨S14, y16, S17, hv19, rfl, hy15, hy18⟩ := hK12
    replace hv19 := hv19.symm; subst hv19
    simp only [List.append_assoc, List.cons_append, List.nil_append] at hST
    replace hST : ST false (keys ((b_a0, Obj.cells (#[v_a0_in_, v_a0_creds, v_a0_uses, v_a0_words, v_a0_todo, (.int .i64 a0_n)] : Array Value) 53 (0, 0)) :: (R_a0_in_ ++ (R_a0_creds ++ (R_a0_uses ++ (R_a0_words ++ (R_a0_todo ++ []))))))) w _ _ ((b_a0, Obj.cells (#[v_a0_in_, v_a0_creds, v_a0_uses, v_a0_words, y16, (.int .i64 (r6.2.2))] : Array Value) 53 (0, 0)) :: ((b3, Obj.cells ((encFact a2).toArray : Array Value) 43 (0, 0)) :: ((b1, Obj.cells ((encCred a1).toArray : Array Value) 36 (0, 0)) :: (S14 ++ (R_a0_creds ++ (R_a0_uses ++ (R_a0_words ++ (S17 ++ [])))))))) := hST.perm (permD [[(b_a0, Obj.cells (#[v_a0_in_, v_a0_creds, v_a0_uses, v_a0_words, y16, (.int .i64 (r6.2.2))] : Array Value) 53 (0, 0))], S14, R_a0_creds, R_a0_uses, R_a0_words, S17, [(b3, Obj.cells ((encFact a2).toArray : Array Value) 43 (0, 0))], [(b1, Obj.cells ((encCred a1).toArray : Array Value) 36 (0, 0))]] [0, 1, 2, 3, 4, 5, 6, 7] [0, 6, 7, 1, 2, 3, 4, 5] ([]) (by decide) rfl rfl)
    refine LW_nil ?_
    refine bq_n ?_
    refine retQ_n ?_
    replace hm := Option.some.inj hm; subst hm
    refine retQ_0 rfl ?_
    replace hST : ST false (keys ((b_a0, Obj.cells (#[v_a0_in_, v_a0_creds, v_a0_uses, v_a0_words, v_a0_todo, (.int .i64 a0_n)] : Array Value) 53 (0, 0)) :: (R_a0_in_ ++ (R_a0_creds ++ (R_a0_uses ++ (R_a0_words ++ (R_a0_todo ++ []))))))) w _ _ ((b_a0, Obj.cells (#[v_a0_in_, v_a0_creds, v_a0_uses, v_a0_words, y16, (.int .i64 (r6.2.2))] : Array Value) 53 (0, 0)) :: ((b3, Obj.cells ((encFact a2).toArray : Array Value) 43 (0, 0)) :: ((b1, Obj.cells ((encCred a1).toArray : Array Value) 36 (0, 0)) :: (S14 ++ (R_a0_creds ++ (R_a0_uses ++ (R_a0_words ++ (S17 ++ [])))))))) := hST
    exact ⟨_, ((b_a0, Obj.cells (#[v_a0_in_, v_a0_creds, v_a0_uses, v_a0_words, y16, (.int .i64 (r6.2.2))] : Array Value) 53 (0, 0)) :: (S14 ++ (R_a0_creds ++ (R_a0_uses ++ (R_a0_words ++ (S17 ++ [])))))), rfl, (ST.backM (L1 := ((b_a0, Obj.cells (#[v_a0_in_, v_a0_creds, v_a0_uses, v_a0_words, y16, (.int .i64 (r6.2.2))] : Array Value) 53 (0, 0)) :: (S14 ++ (R_a0_creds ++ (R_a0_uses ++ (R_a0_words ++ (S17 ++ []))))))) (by have hh : ST false (keys ((b_a0, Obj.cells (#[v_a0_in_, v_a0_creds, v_a0_uses, v_a0_words, v_a0_todo, (.int .i64 a0_n)] : Array Value) 53 (0, 0)) :: (R_a0_in_ ++ (R_a0_creds ++ (R_a0_uses ++ (R_a0_words ++ (R_a0_todo ++ []))))))) w _ _ ((b_a0, Obj.cells (#[v_a0_in_, v_a0_creds, v_a0_uses, v_a0_words, y16, (.int .i64 (r6.2.2))] : Array Value) 53 (0, 0)) :: (S14 ++ (R_a0_creds ++ (R_a0_uses ++ (R_a0_words ++ (S17 ++ ((b3, Obj.cells ((encFact a2).toArray : Array Value) 43 (0, 0)) :: ((b1, Obj.cells ((encCred a1).toArray : Array Value) 36 (0, 0)) :: [])))))))) := hST.perm (permD [[(b_a0, Obj.cells (#[v_a0_in_, v_a0_creds, v_a0_uses, v_a0_words, y16, (.int .i64 (r6.2.2))] : Array Value) 53 (0, 0))], [(b3, Obj.cells ((encFact a2).toArray : Array Value) 43 (0, 0))], [(b1, Obj.cells ((encCred a1).toArray : Array Value) 36 (0, 0))], S14, R_a0_creds, R_a0_uses, R_a0_words, S17] [0, 1, 2, 3, 4, 5, 6, 7] [0, 3, 4, 5, 6, 7, 1, 2] ([]) (by decide) rfl rfl); simpa only [List.append_assoc, List.cons_append, List.nil_append] using hh)), S14, y16, S17, rfl, rfl, hy15, hy18⟩
  · replace hm := if_f hb5 hm
    refine CW_seq ?_
    refine CW_region ?_
    refine LV (R_int (k := .i64) (a := a1.Kind) (b := 3) (v := (.bool ((a1.Kind == 3)))) rfl rfl rfl) ?_
    refine LV (R_assign (v := (.bool ((a1.Kind == 3)))) rfl) ?_
    refine LW_nil ?_
    refine sq_n ?_
    refine CW_if (b := (a1.Kind == 3)) rfl (fun hb20 => ?_) (fun hb20 => ?_)
    · replace hm := if_t hb20 hm
      refine CW_region ?_
      refine LV (R_move (v := (.pointer (some ⟨b_a0, 0, none⟩))) rfl) ?_
      refine LV (R_field fa43_1 rfl) ?_
      refine LV (R_load (v := (.string a2.Who)) rfl (load_box1 hST.has (.head _) rfl Try.isAgg9)) ?_
      refine LV (R_field fa36_5 rfl) ?_
      refine LV (R_load (v := (.string a1.Word2)) rfl (load_box1 hST.has (.tail _ (.head _)) rfl Try.isAgg9)) ?_
      refine LV (R_build (qs := #[(0, (.string a2.Who)), (1, (.string a1.Word2))]) (v := (.agg (encRole ((⟨a2.Who, a1.Word2⟩ : Role))).toArray)) (parts2 rfl rfl) (run_build Try.zeroValue34 Try.underlying34 (pl34 _ Try.underlying34) (by kernel_rfl))) ?_
      refine LV (R_field fa36_1 rfl) ?_
      refine LV (R_load (v := (.agg (encRole a1.Head).toArray)) rfl (load_boxA hST.has (.tail _ (.head _)) (encRole a1.Head) rfl Try.isAgg34 Try.sizeOf34)) ?_
      obtain ⟨r21, hr22, hm⟩ := bind_some hm
      replace hST : ST false (keys ((b_a0, Obj.cells (#[v_a0_in_, v_a0_creds, v_a0_uses, v_a0_words, v_a0_todo, (.int .i64 a0_n)] : Array Value) 53 (0, 0)) :: (R_a0_in_ ++ (R_a0_creds ++ (R_a0_uses ++ (R_a0_words ++ (R_a0_todo ++ []))))))) w _ _ ((b_a0, Obj.cells (#[v_a0_in_, v_a0_creds, v_a0_uses, v_a0_words, v_a0_todo, (.int .i64 a0_n)] : Array Value) 53 (0, 0)) :: (R_a0_in_ ++ (R_a0_creds ++ (R_a0_uses ++ (R_a0_words ++ (R_a0_todo ++ ((b3, Obj.cells ((encFact a2).toArray : Array Value) 43 (0, 0)) :: ((b1, Obj.cells ((encCred a1).toArray : Array Value) 36 (0, 0)) :: [])))))))) := hST.perm (permD [[(b3, Obj.cells ((encFact a2).toArray : Array Value) 43 (0, 0))], [(b1, Obj.cells ((encCred a1).toArray : Array Value) 36 (0, 0))], [(b_a0, Obj.cells (#[v_a0_in_, v_a0_creds, v_a0_uses, v_a0_words, v_a0_todo, (.int .i64 a0_n)] : Array Value) 53 (0, 0))], R_a0_in_, R_a0_creds, R_a0_uses, R_a0_words, R_a0_todo] [0, 1, 2, 3, 4, 5, 6, 7] [2, 3, 4, 5, 6, 7, 0, 1] ([]) (by decide) rfl rfl)
      have hsz := hST.size
      refine LE (E_callM (args := [(.pointer (some ⟨b_a0, 0, none⟩)), (.agg (encRole ((⟨a2.Who, a1.Word2⟩ : Role))).toArray), (.agg (encRole a1.Head).toArray)]) (caps := #[]) (((b_a0, Obj.cells (#[v_a0_in_, v_a0_creds, v_a0_uses, v_a0_words, v_a0_todo, (.int .i64 a0_n)] : Array Value) 53 (0, 0)) :: (R_a0_in_ ++ (R_a0_creds ++ (R_a0_uses ++ (R_a0_words ++ (R_a0_todo ++ []))))))) (((b3, Obj.cells ((encFact a2).toArray : Array Value) 43 (0, 0)) :: ((b1, Obj.cells ((encCred a1).toArray : Array Value) 36 (0, 0)) :: []))) hST (by simp only [List.append_assoc, List.cons_append, List.nil_append]; exact List.Perm.refl _) rfl Try.call63 (by exact args3 rfl rfl rfl) (fun hH hN hsb hmm => (w_model_Model_all_w b_a0 v_a0_in_ a0_in_ R_a0_in_ v_a0_creds a0_creds R_a0_creds v_a0_uses a0_uses R_a0_uses v_a0_words a0_words R_a0_words v_a0_todo a0_todo R_a0_todo a0_n ((⟨a2.Who, a1.Word2⟩ : Role)) a1.Head _ _ hH hN (Sub.refl _) h_a0_in_ h_a0_creds h_a0_uses h_a0_words h_a0_todo hr22)) (fun W23 v26 μ24 L28 hST hle25 hlift hK27 => ?_))
      obtain ⟨S29, y31, S32, hv34, rfl, hy30, hy33⟩ := hK27
      replace hv34 := hv34.symm; subst hv34
      simp only [List.append_assoc, List.cons_append, List.nil_append] at hST
      replace hST : ST false (keys ((b_a0, Obj.cells (#[v_a0_in_, v_a0_creds, v_a0_uses, v_a0_words, v_a0_todo, (.int .i64 a0_n)] : Array Value) 53 (0, 0)) :: (R_a0_in_ ++ (R_a0_creds ++ (R_a0_uses ++ (R_a0_words ++ (R_a0_todo ++ []))))))) w _ _ ((b_a0, Obj.cells (#[v_a0_in_, v_a0_creds, v_a0_uses, v_a0_words, y31, (.int .i64 (r21.2.2))] : Array Value) 53 (0, 0)) :: ((b3, Obj.cells ((encFact a2).toArray : Array Value) 43 (0, 0)) :: ((b1, Obj.cells ((encCred a1).toArray : Array Value) 36 (0, 0)) :: (S29 ++ (R_a0_creds ++ (R_a0_uses ++ (R_a0_words ++ (S32 ++ [])))))))) := hST.perm (permD [[(b_a0, Obj.cells (#[v_a0_in_, v_a0_creds, v_a0_uses, v_a0_words, y31, (.int .i64 (r21.2.2))] : Array Value) 53 (0, 0))], S29, R_a0_creds, R_a0_uses, R_a0_words, S32, [(b3, Obj.cells ((encFact a2).toArray : Array Value) 43 (0, 0))], [(b1, Obj.cells ((encCred a1).toArray : Array Value) 36 (0, 0))]] [0, 1, 2, 3, 4, 5, 6, 7] [0, 6, 7, 1, 2, 3, 4, 5] ([]) (by decide) rfl rfl)
      refine LW_nil ?_
      refine bq_n ?_
      refine retQ_n ?_
      replace hm := Option.some.inj hm; subst hm
      refine retQ_0 rfl ?_
      replace hST : ST false (keys ((b_a0, Obj.cells (#[v_a0_in_, v_a0_creds, v_a0_uses, v_a0_words, v_a0_todo, (.int .i64 a0_n)] : Array Value) 53 (0, 0)) :: (R_a0_in_ ++ (R_a0_creds ++ (R_a0_uses ++ (R_a0_words ++ (R_a0_todo ++ []))))))) w _ _ ((b_a0, Obj.cells (#[v_a0_in_, v_a0_creds, v_a0_uses, v_a0_words, y31, (.int .i64 (r21.2.2))] : Array Value) 53 (0, 0)) :: ((b3, Obj.cells ((encFact a2).toArray : Array Value) 43 (0, 0)) :: ((b1, Obj.cells ((encCred a1).toArray : Array Value) 36 (0, 0)) :: (S29 ++ (R_a0_creds ++ (R_a0_uses ++ (R_a0_words ++ (S32 ++ [])))))))) := hST
      exact ⟨_, ((b_a0, Obj.cells (#[v_a0_in_, v_a0_creds, v_a0_uses, v_a0_words, y31, (.int .i64 (r21.2.2))] : Array Value) 53 (0, 0)) :: (S29 ++ (R_a0_creds ++ (R_a0_uses ++ (R_a0_words ++ (S32 ++ [])))))), rfl, (ST.backM (L1 := ((b_a0, Obj.cells (#[v_a0_in_, v_a0_creds, v_a0_uses, v_a0_words, y31, (.int .i64 (r21.2.2))] : Array Value) 53 (0, 0)) :: (S29 ++ (R_a0_creds ++ (R_a0_uses ++ (R_a0_words ++ (S32 ++ []))))))) (by have hh : ST false (keys ((b_a0, Obj.cells (#[v_a0_in_, v_a0_creds, v_a0_uses, v_a0_words, v_a0_todo, (.int .i64 a0_n)] : Array Value) 53 (0, 0)) :: (R_a0_in_ ++ (R_a0_creds ++ (R_a0_uses ++ (R_a0_words ++ (R_a0_todo ++ []))))))) w _ _ ((b_a0, Obj.cells (#[v_a0_in_, v_a0_creds, v_a0_uses, v_a0_words, y31, (.int .i64 (r21.2.2))] : Array Value) 53 (0, 0)) :: (S29 ++ (R_a0_creds ++ (R_a0_uses ++ (R_a0_words ++ (S32 ++ ((b3, Obj.cells ((encFact a2).toArray : Array Value) 43 (0, 0)) :: ((b1, Obj.cells ((encCred a1).toArray : Array Value) 36 (0, 0)) :: [])))))))) := hST.perm (permD [[(b_a0, Obj.cells (#[v_a0_in_, v_a0_creds, v_a0_uses, v_a0_words, y31, (.int .i64 (r21.2.2))] : Array Value) 53 (0, 0))], [(b3, Obj.cells ((encFact a2).toArray : Array Value) 43 (0, 0))], [(b1, Obj.cells ((encCred a1).toArray : Array Value) 36 (0, 0))], S29, R_a0_creds, R_a0_uses, R_a0_words, S32] [0, 1, 2, 3, 4, 5, 6, 7] [0, 3, 4, 5, 6, 7, 1, 2] ([]) (by decide) rfl rfl); simpa only [List.append_assoc, List.cons_append, List.nil_append] using hh)), S29, y31, S32, rfl, rfl, hy30, hy33⟩
    · replace hm := if_f hb20 hm
      refine CW_seq ?_
      refine CW_region ?_
      refine LV (R_int (k := .i64) (a := a1.Kind) (b := 4) (v := (.bool ((a1.Kind == 4)))) rfl rfl rfl) ?_
      refine LV (R_assign (v := (.bool ((a1.Kind == 4)))) rfl) ?_
      refine LW_nil ?_
      refine sq_n ?_
      refine CW_if (b := (a1.Kind == 4)) rfl (fun hb35 => ?_) (fun hb35 => ?_)
      · replace hm := if_t hb35 hm
        refine CW_seq ?_
        refine PX_start (fun l W => Has μ0 ((b3, Obj.cells ((encFact a2).toArray : Array Value) 43 (0, 0)) :: ((b1, Obj.cells ((encCred a1).toArray : Array Value) 36 (0, 0)) :: ((b_a0, Obj.cells (#[v_a0_in_, v_a0_creds, v_a0_uses, v_a0_words, v_a0_todo, (.int .i64 a0_n)] : Array Value) 53 (0, 0)) :: (R_a0_in_ ++ [])))) W) Try_mixed ?_
        replace hST := hST.drew
        have hS0 : Has μ0 ((b3, Obj.cells ((encFact a2).toArray : Array Value) 43 (0, 0)) :: ((b1, Obj.cells ((encCred a1).toArray : Array Value) 36 (0, 0)) :: ((b_a0, Obj.cells (#[v_a0_in_, v_a0_creds, v_a0_uses, v_a0_words, v_a0_todo, (.int .i64 a0_n)] : Array Value) 53 (0, 0)) :: (R_a0_in_ ++ [])))) _ := hST.has.sub (Sub.refl _) (fun p hq => ((List.mem_cons.1 hq).elim (fun hq => by rw [hq]; exact (.head _)) (fun hq => ((List.mem_cons.1 hq).elim (fun hq => by rw [hq]; exact (.tail _ (.head _))) (fun hq => ((List.mem_cons.1 hq).elim (fun hq => by rw [hq]; exact (.tail _ (.tail _ (.head _)))) (fun hq => ((List.mem_append.1 hq).elim (fun hq => (.tail _ (.tail _ (.tail _ (List.mem_append_left _ hq))))) (fun hq => (absurd hq List.not_mem_nil))))))))))
        refine PV 0 rfl hS0 (R_move (v := (.pointer (some ⟨b_a0, 0, none⟩))) rfl) ?_
        refine PV 1 rfl hS0 (R_nilCheck rfl) ?_
        refine PV 2 rfl hS0 (R_field fa53_0 rfl) ?_
        refine PX_v 3 rfl (by kernel_rfl) (.inl rfl) rfl (by decide) (fun _ _ h => h) hS0 (fun l W hpd hs => have hS := hs; R_load (v := v_a0_in_) rfl (load_box1 hS (.tail _ (.tail _ (.head _))) rfl Try.isAgg49)) ?_
        refine PV 4 rfl hS0 (R_field fa36_3 rfl) ?_
        refine PX_v 5 rfl (by kernel_rfl) (.inl rfl) rfl (by decide) (fun _ _ h => h) hS0 (fun l W hpd hs => have hS := hs; R_load (v := (.agg (encRole a1.B).toArray)) rfl (load_boxA hS (.tail _ (.head _)) (encRole a1.B) rfl Try.isAgg34 Try.sizeOf34)) ?_
        obtain ⟨lv64, hd65⟩ := h_a0_in_
        refine PX_v 6 rfl (by kernel_rfl) (.inl rfl) rfl (by decide) (fun _ _ h => h) hS0 (fun l W hpd hs => have hS := hs; R_lookupDeep (k := a1.B) (z := (.map none)) kl34 Try.underlying49 Try.zeroValue59 rfl rfl hd65 (fun b o hq => hS.2 b o (.tail _ (.tail _ (.tail _ (List.mem_append_left _ hq)))))) ?_
        refine PV 7 rfl hS0 (R_field fa43_1 rfl) ?_
        refine PX_v 8 rfl (by kernel_rfl) (.inl rfl) rfl (by decide) (fun _ _ h => h) hS0 (fun l W hpd hs => have hS := hs; R_load (v := (.string a2.Who)) rfl (load_box1 hS (.head _) rfl Try.isAgg9)) ?_
        refine PX_v 9 rfl (by kernel_rfl) (.inl rfl) rfl (by decide) (fun _ _ h => h) hS0 (fun l W hpd hs => have hS := hs; R_lookupD (k := a2.Who) (z := false) (vf := (fun (x : Bool) => (Value.bool x))) kl9 Try.underlying59 Try.zeroValue4 rfl rfl (DeepV.mapAt (μ := hp _) beqRole_iff.1 hd65 a1.B (fun b o hq => hS.2 b o (.tail _ (.tail _ (.tail _ (List.mem_append_left _ hq))))))) ?_
        refine PV 10 rfl hS0 (R_move (v := (.bool ((mgetD beqS (((mget beqRole a0_in_ a1.B).getD [])) a2.Who false)))) rfl) ?_
        obtain ⟨s89, hm90, hm91⟩ := bind_some hm
        refine PX_join (J := fun E W => ∃ (x67 : Bool) (L68 : List (Nat × Obj)), ST false (keys ((b_a0, Obj.cells (#[v_a0_in_, v_a0_creds, v_a0_uses, v_a0_words, v_a0_todo, (.int .i64 a0_n)] : Array Value) 53 (0, 0)) :: (R_a0_in_ ++ (R_a0_creds ++ (R_a0_uses ++ (R_a0_words ++ (R_a0_todo ++ []))))))) w W μ0 ((b3, Obj.cells ((encFact a2).toArray : Array Value) 43 (0, 0)) :: ((b1, Obj.cells ((encCred a1).toArray : Array Value) 36 (0, 0)) :: ((b_a0, Obj.cells (#[v_a0_in_, v_a0_creds, v_a0_uses, v_a0_words, v_a0_todo, (.int .i64 a0_n)] : Array Value) 53 (0, 0)) :: (R_a0_in_ ++ (R_a0_creds ++ (R_a0_uses ++ (R_a0_words ++ (R_a0_todo ++ L68)))))))) ∧ E 0 = (.pointer (some ⟨b_a0, 0, none⟩)) ∧ E 4 = (.pointer (some ⟨b1, 0, none⟩)) ∧ E 5 = (.pointer (some ⟨b3, 0, none⟩)) ∧ E 50 = (.bool x67) ∧ (if x67 then (((m_model_Model_tell_w a0_in_ a0_creds a0_uses a0_words a0_todo a0_n a1.Head a2.Who)).bind fun r75 => some (r75.1, r75.2.1, r75.2.2)) else some (a0_in_, a0_todo, a0_n)) = some r) #[true, true, true, true, true, true, true, true, true, true, true, true, true, true, true, true, true, true, true, true, true, true] 0 ?_ (fun key92 => ?_)
        · rintro E W ⟨x67, L68, hST, e70, e71, e72, e73, hm69⟩
          have hS0 : Has μ0 ((b3, Obj.cells ((encFact a2).toArray : Array Value) 43 (0, 0)) :: ((b1, Obj.cells ((encCred a1).toArray : Array Value) 36 (0, 0)) :: ((b_a0, Obj.cells (#[v_a0_in_, v_a0_creds, v_a0_uses, v_a0_words, v_a0_todo, (.int .i64 a0_n)] : Array Value) 53 (0, 0)) :: (R_a0_in_ ++ [])))) _ := hST.has.sub (Sub.refl _) (fun p hq => ((List.mem_cons.1 hq).elim (fun hq => by rw [hq]; exact (.head _)) (fun hq => ((List.mem_cons.1 hq).elim (fun hq => by rw [hq]; exact (.tail _ (.head _))) (fun hq => ((List.mem_cons.1 hq).elim (fun hq => by rw [hq]; exact (.tail _ (.tail _ (.head _)))) (fun hq => ((List.mem_append.1 hq).elim (fun hq => (.tail _ (.tail _ (.tail _ (List.mem_append_left _ hq))))) (fun hq => (absurd hq List.not_mem_nil))))))))))
          refine PX_done (by kernel_rfl) ?_
          refine sq_n ?_
          refine CW_if (b := x67) e73 (fun hb74 => ?_) (fun hb74 => ?_)
          · replace hm69 := if_t hb74 hm69
            refine CW_region ?_
            refine LV (R_move (v := (.pointer (some ⟨b_a0, 0, none⟩))) e70) ?_
            refine LV (R_field fa36_1 e71) ?_
            refine LV (R_load (v := (.agg (encRole a1.Head).toArray)) rfl (load_boxA hST.has (.tail _ (.head _)) (encRole a1.Head) rfl Try.isAgg34 Try.sizeOf34)) ?_
            refine LV (R_field fa43_1 e72) ?_
            refine LV (R_load (v := (.string a2.Who)) rfl (load_box1 hST.has (.head _) rfl Try.isAgg9)) ?_
            obtain ⟨r75, hr76, hm69⟩ := bind_some hm69
            replace hST : ST false (keys ((b_a0, Obj.cells (#[v_a0_in_, v_a0_creds, v_a0_uses, v_a0_words, v_a0_todo, (.int .i64 a0_n)] : Array Value) 53 (0, 0)) :: (R_a0_in_ ++ (R_a0_creds ++ (R_a0_uses ++ (R_a0_words ++ (R_a0_todo ++ []))))))) w _ _ ((b_a0, Obj.cells (#[v_a0_in_, v_a0_creds, v_a0_uses, v_a0_words, v_a0_todo, (.int .i64 a0_n)] : Array Value) 53 (0, 0)) :: (R_a0_in_ ++ (R_a0_creds ++ (R_a0_uses ++ (R_a0_words ++ (R_a0_todo ++ ((b3, Obj.cells ((encFact a2).toArray : Array Value) 43 (0, 0)) :: ((b1, Obj.cells ((encCred a1).toArray : Array Value) 36 (0, 0)) :: L68)))))))) := hST.perm (permD [[(b3, Obj.cells ((encFact a2).toArray : Array Value) 43 (0, 0))], [(b1, Obj.cells ((encCred a1).toArray : Array Value) 36 (0, 0))], [(b_a0, Obj.cells (#[v_a0_in_, v_a0_creds, v_a0_uses, v_a0_words, v_a0_todo, (.int .i64 a0_n)] : Array Value) 53 (0, 0))], R_a0_in_, R_a0_creds, R_a0_uses, R_a0_words, R_a0_todo] [0, 1, 2, 3, 4, 5, 6, 7] [2, 3, 4, 5, 6, 7, 0, 1] L68 (by decide) rfl rfl)
            have hsz := hST.size
            refine LE (E_callM (args := [(.pointer (some ⟨b_a0, 0, none⟩)), (.agg (encRole a1.Head).toArray), (.string a2.Who)]) (caps := #[]) (((b_a0, Obj.cells (#[v_a0_in_, v_a0_creds, v_a0_uses, v_a0_words, v_a0_todo, (.int .i64 a0_n)] : Array Value) 53 (0, 0)) :: (R_a0_in_ ++ (R_a0_creds ++ (R_a0_uses ++ (R_a0_words ++ (R_a0_todo ++ []))))))) (((b3, Obj.cells ((encFact a2).toArray : Array Value) 43 (0, 0)) :: ((b1, Obj.cells ((encCred a1).toArray : Array Value) 36 (0, 0)) :: L68))) hST (by simp only [List.append_assoc, List.cons_append, List.nil_append]; exact List.Perm.refl _) rfl Try.call45 (by exact args3 rfl rfl rfl) (fun hH hN hsb hmm => GivesM.weak (w_model_Model_tell_w b_a0 v_a0_in_ a0_in_ R_a0_in_ v_a0_creds a0_creds R_a0_creds v_a0_uses a0_uses R_a0_uses v_a0_words a0_words R_a0_words v_a0_todo a0_todo R_a0_todo a0_n a1.Head a2.Who _ _ hH hN (Sub.refl _) hd65.e h_a0_creds h_a0_uses h_a0_words h_a0_todo hr76)) (fun W77 v80 μ78 L82 hST hle79 hlift hK81 => ?_))
            obtain ⟨S83, y85, S86, hv88, rfl, hy84, hy87⟩ := hK81
            replace hv88 := hv88.symm; subst hv88
            simp only [List.append_assoc, List.cons_append, List.nil_append] at hST
            replace hST : ST false (keys ((b_a0, Obj.cells (#[v_a0_in_, v_a0_creds, v_a0_uses, v_a0_words, v_a0_todo, (.int .i64 a0_n)] : Array Value) 53 (0, 0)) :: (R_a0_in_ ++ (R_a0_creds ++ (R_a0_uses ++ (R_a0_words ++ (R_a0_todo ++ []))))))) w _ _ ((b_a0, Obj.cells (#[v_a0_in_, v_a0_creds, v_a0_uses, v_a0_words, y85, (.int .i64 (r75.2.2))] : Array Value) 53 (0, 0)) :: ((b3, Obj.cells ((encFact a2).toArray : Array Value) 43 (0, 0)) :: ((b1, Obj.cells ((encCred a1).toArray : Array Value) 36 (0, 0)) :: (S83 ++ (R_a0_creds ++ (R_a0_uses ++ (R_a0_words ++ (S86 ++ L68)))))))) := hST.perm (permD [[(b_a0, Obj.cells (#[v_a0_in_, v_a0_creds, v_a0_uses, v_a0_words, y85, (.int .i64 (r75.2.2))] : Array Value) 53 (0, 0))], S83, R_a0_creds, R_a0_uses, R_a0_words, S86, [(b3, Obj.cells ((encFact a2).toArray : Array Value) 43 (0, 0))], [(b1, Obj.cells ((encCred a1).toArray : Array Value) 36 (0, 0))]] [0, 1, 2, 3, 4, 5, 6, 7] [0, 6, 7, 1, 2, 3, 4, 5] L68 (by decide) rfl rfl)
            refine LW_nil ?_
            refine bq_n ?_
            refine retQ_n ?_
            replace hm69 := Option.some.inj hm69; subst hm69
            refine retQ_0 rfl ?_
            replace hST : ST false (keys ((b_a0, Obj.cells (#[v_a0_in_, v_a0_creds, v_a0_uses, v_a0_words, v_a0_todo, (.int .i64 a0_n)] : Array Value) 53 (0, 0)) :: (R_a0_in_ ++ (R_a0_creds ++ (R_a0_uses ++ (R_a0_words ++ (R_a0_todo ++ []))))))) w _ _ ((b_a0, Obj.cells (#[v_a0_in_, v_a0_creds, v_a0_uses, v_a0_words, y85, (.int .i64 (r75.2.2))] : Array Value) 53 (0, 0)) :: ((b3, Obj.cells ((encFact a2).toArray : Array Value) 43 (0, 0)) :: ((b1, Obj.cells ((encCred a1).toArray : Array Value) 36 (0, 0)) :: (S83 ++ (R_a0_creds ++ (R_a0_uses ++ (R_a0_words ++ (S86 ++ L68)))))))) := hST
            exact ⟨_, ((b_a0, Obj.cells (#[v_a0_in_, v_a0_creds, v_a0_uses, v_a0_words, y85, (.int .i64 (r75.2.2))] : Array Value) 53 (0, 0)) :: (S83 ++ (R_a0_creds ++ (R_a0_uses ++ (R_a0_words ++ (S86 ++ [])))))), rfl, (ST.backM (L1 := ((b_a0, Obj.cells (#[v_a0_in_, v_a0_creds, v_a0_uses, v_a0_words, y85, (.int .i64 (r75.2.2))] : Array Value) 53 (0, 0)) :: (S83 ++ (R_a0_creds ++ (R_a0_uses ++ (R_a0_words ++ (S86 ++ []))))))) (by have hh : ST false (keys ((b_a0, Obj.cells (#[v_a0_in_, v_a0_creds, v_a0_uses, v_a0_words, v_a0_todo, (.int .i64 a0_n)] : Array Value) 53 (0, 0)) :: (R_a0_in_ ++ (R_a0_creds ++ (R_a0_uses ++ (R_a0_words ++ (R_a0_todo ++ []))))))) w _ _ ((b_a0, Obj.cells (#[v_a0_in_, v_a0_creds, v_a0_uses, v_a0_words, y85, (.int .i64 (r75.2.2))] : Array Value) 53 (0, 0)) :: (S83 ++ (R_a0_creds ++ (R_a0_uses ++ (R_a0_words ++ (S86 ++ ((b3, Obj.cells ((encFact a2).toArray : Array Value) 43 (0, 0)) :: ((b1, Obj.cells ((encCred a1).toArray : Array Value) 36 (0, 0)) :: L68)))))))) := hST.perm (permD [[(b_a0, Obj.cells (#[v_a0_in_, v_a0_creds, v_a0_uses, v_a0_words, y85, (.int .i64 (r75.2.2))] : Array Value) 53 (0, 0))], [(b3, Obj.cells ((encFact a2).toArray : Array Value) 43 (0, 0))], [(b1, Obj.cells ((encCred a1).toArray : Array Value) 36 (0, 0))], S83, R_a0_creds, R_a0_uses, R_a0_words, S86] [0, 1, 2, 3, 4, 5, 6, 7] [0, 3, 4, 5, 6, 7, 1, 2] L68 (by decide) rfl rfl); simpa only [List.append_assoc, List.cons_append, List.nil_append] using hh)), S83, y85, S86, rfl, rfl, hy84, hy87⟩
          · replace hm69 := if_f hb74 hm69
            refine CW_skip ?_
            refine bq_n ?_
            refine retQ_n ?_
            replace hm69 := Option.some.inj hm69; subst hm69
            refine retQ_0 rfl ?_
            replace hST : ST false (keys ((b_a0, Obj.cells (#[v_a0_in_, v_a0_creds, v_a0_uses, v_a0_words, v_a0_todo, (.int .i64 a0_n)] : Array Value) 53 (0, 0)) :: (R_a0_in_ ++ (R_a0_creds ++ (R_a0_uses ++ (R_a0_words ++ (R_a0_todo ++ []))))))) w _ _ ((b3, Obj.cells ((encFact a2).toArray : Array Value) 43 (0, 0)) :: ((b1, Obj.cells ((encCred a1).toArray : Array Value) 36 (0, 0)) :: ((b_a0, Obj.cells (#[v_a0_in_, v_a0_creds, v_a0_uses, v_a0_words, v_a0_todo, (.int .i64 a0_n)] : Array Value) 53 (0, 0)) :: (R_a0_in_ ++ (R_a0_creds ++ (R_a0_uses ++ (R_a0_words ++ (R_a0_todo ++ L68)))))))) := hST
            exact ⟨_, ((b_a0, Obj.cells (#[v_a0_in_, v_a0_creds, v_a0_uses, v_a0_words, v_a0_todo, (.int .i64 a0_n)] : Array Value) 53 (0, 0)) :: (R_a0_in_ ++ (R_a0_creds ++ (R_a0_uses ++ (R_a0_words ++ (R_a0_todo ++ [])))))), rfl, (ST.backM (L1 := ((b_a0, Obj.cells (#[v_a0_in_, v_a0_creds, v_a0_uses, v_a0_words, v_a0_todo, (.int .i64 a0_n)] : Array Value) 53 (0, 0)) :: (R_a0_in_ ++ (R_a0_creds ++ (R_a0_uses ++ (R_a0_words ++ (R_a0_todo ++ []))))))) (by have hh : ST false (keys ((b_a0, Obj.cells (#[v_a0_in_, v_a0_creds, v_a0_uses, v_a0_words, v_a0_todo, (.int .i64 a0_n)] : Array Value) 53 (0, 0)) :: (R_a0_in_ ++ (R_a0_creds ++ (R_a0_uses ++ (R_a0_words ++ (R_a0_todo ++ []))))))) w _ _ ((b_a0, Obj.cells (#[v_a0_in_, v_a0_creds, v_a0_uses, v_a0_words, v_a0_todo, (.int .i64 a0_n)] : Array Value) 53 (0, 0)) :: (R_a0_in_ ++ (R_a0_creds ++ (R_a0_uses ++ (R_a0_words ++ (R_a0_todo ++ ((b3, Obj.cells ((encFact a2).toArray : Array Value) 43 (0, 0)) :: ((b1, Obj.cells ((encCred a1).toArray : Array Value) 36 (0, 0)) :: L68)))))))) := hST.perm (permD [[(b3, Obj.cells ((encFact a2).toArray : Array Value) 43 (0, 0))], [(b1, Obj.cells ((encCred a1).toArray : Array Value) 36 (0, 0))], [(b_a0, Obj.cells (#[v_a0_in_, v_a0_creds, v_a0_uses, v_a0_words, v_a0_todo, (.int .i64 a0_n)] : Array Value) 53 (0, 0))], R_a0_in_, R_a0_creds, R_a0_uses, R_a0_words, R_a0_todo] [0, 1, 2, 3, 4, 5, 6, 7] [2, 3, 4, 5, 6, 7, 0, 1] L68 (by decide) rfl rfl); simpa only [List.append_assoc, List.cons_append, List.nil_append] using hh)), R_a0_in_, v_a0_todo, R_a0_todo, rfl, rfl, hd65.e, h_a0_todo⟩
        · rcases bool_cases ((mgetD beqS (((mget beqRole a0_in_ a1.B).getD [])) a2.Who false)) with hb66 | hb66
          · replace hm90 := if_t hb66 hm90
            refine PX_v 11 rfl (by kernel_rfl) (.inr ⟨10, true, 39, rfl, rfl, by decide, (congrArg Value.bool hb66)⟩) rfl (by decide) (fun _ _ h => h) hS0 (fun _ _ _ _ => R_move (v := (.pointer (some ⟨b_a0, 0, none⟩))) rfl) ?_
            refine PX_v 12 rfl (by kernel_rfl) (.inr ⟨10, true, 39, rfl, rfl, by decide, (congrArg Value.bool hb66)⟩) rfl (by decide) (fun _ _ h => h) hS0 (fun _ _ _ _ => R_nilCheck rfl) ?_
            refine PX_v 13 rfl (by kernel_rfl) (.inr ⟨10, true, 39, rfl, rfl, by decide, (congrArg Value.bool hb66)⟩) rfl (by decide) (fun _ _ h => h) hS0 (fun _ _ _ _ => R_field fa53_0 rfl) ?_
            refine PX_v 14 rfl (by kernel_rfl) (.inr ⟨10, true, 39, rfl, rfl, by decide, (congrArg Value.bool hb66)⟩) rfl (by decide) (fun _ _ h => h) hS0 (fun l W hpd hs => have hS := hs; R_load (v := v_a0_in_) rfl (load_box1 hS (.tail _ (.tail _ (.head _))) rfl Try.isAgg49)) ?_
            refine PX_v 15 rfl (by kernel_rfl) (.inr ⟨10, true, 39, rfl, rfl, by decide, (congrArg Value.bool hb66)⟩) rfl (by decide) (fun _ _ h => h) hS0 (fun _ _ _ _ => R_field fa36_4 rfl) ?_
            refine PX_v 16 rfl (by kernel_rfl) (.inr ⟨10, true, 39, rfl, rfl, by decide, (congrArg Value.bool hb66)⟩) rfl (by decide) (fun _ _ h => h) hS0 (fun l W hpd hs => have hS := hs; R_load (v := (.agg (encRole a1.C).toArray)) rfl (load_boxA hS (.tail _ (.head _)) (encRole a1.C) rfl Try.isAgg34 Try.sizeOf34)) ?_
            refine PX_v 17 rfl (by kernel_rfl) (.inr ⟨10, true, 39, rfl, rfl, by decide, (congrArg Value.bool hb66)⟩) rfl (by decide) (fun _ _ h => h) hS0 (fun l W hpd hs => have hS := hs; R_lookupDeep (k := a1.C) (z := (.map none)) kl34 Try.underlying49 Try.zeroValue59 rfl rfl hd65 (fun b o hq => hS.2 b o (.tail _ (.tail _ (.tail _ (List.mem_append_left _ hq)))))) ?_
            refine PX_v 18 rfl (by kernel_rfl) (.inr ⟨10, true, 39, rfl, rfl, by decide, (congrArg Value.bool hb66)⟩) rfl (by decide) (fun _ _ h => h) hS0 (fun _ _ _ _ => R_field fa43_1 rfl) ?_
            refine PX_v 19 rfl (by kernel_rfl) (.inr ⟨10, true, 39, rfl, rfl, by decide, (congrArg Value.bool hb66)⟩) rfl (by decide) (fun _ _ h => h) hS0 (fun l W hpd hs => have hS := hs; R_load (v := (.string a2.Who)) rfl (load_box1 hS (.head _) rfl Try.isAgg9)) ?_
            refine PX_v 20 rfl (by kernel_rfl) (.inr ⟨10, true, 39, rfl, rfl, by decide, (congrArg Value.bool hb66)⟩) rfl (by decide) (fun _ _ h => h) hS0 (fun l W hpd hs => have hS := hs; R_lookupD (k := a2.Who) (z := false) (vf := (fun (x : Bool) => (Value.bool x))) kl9 Try.underlying59 Try.zeroValue4 rfl rfl (DeepV.mapAt (μ := hp _) beqRole_iff.1 hd65 a1.C (fun b o hq => hS.2 b o (.tail _ (.tail _ (.tail _ (List.mem_append_left _ hq))))))) ?_
            refine PV 21 rfl hS0 (R_pickT (v := (.bool ((mgetD beqS (((mget beqRole a0_in_ a1.C).getD [])) a2.Who false)))) (congrArg Value.bool hb66) rfl) ?_
            replace hm90 := Option.some.inj hm90; subst hm90
            refine PX_at (by kernel_rfl) (key92 _ _ ⟨((mgetD beqS (((mget beqRole a0_in_ a1.C).getD [])) a2.Who false)), _, (hST.sublist (List.Sublist.refl _)), rfl, rfl, rfl, rfl, hm91⟩)
          · replace hm90 := if_f hb66 hm90
            refine PX_no 11 rfl (by kernel_rfl) rfl rfl (by decide) (congrArg Value.bool hb66) rfl (by decide) (fun _ _ h => h) hS0 ?_
            refine PX_no 12 rfl (by kernel_rfl) rfl rfl (by decide) (congrArg Value.bool hb66) rfl (by decide) (fun _ _ h => h) hS0 ?_
            refine PX_no 13 rfl (by kernel_rfl) rfl rfl (by decide) (congrArg Value.bool hb66) rfl (by decide) (fun _ _ h => h) hS0 ?_
            refine PX_no 14 rfl (by kernel_rfl) rfl rfl (by decide) (congrArg Value.bool hb66) rfl (by decide) (fun _ _ h => h) hS0 ?_
            refine PX_no 15 rfl (by kernel_rfl) rfl rfl (by decide) (congrArg Value.bool hb66) rfl (by decide) (fun _ _ h => h) hS0 ?_
            refine PX_no 16 rfl (by kernel_rfl) rfl rfl (by decide) (congrArg Value.bool hb66) rfl (by decide) (fun _ _ h => h) hS0 ?_
            refine PX_no 17 rfl (by kernel_rfl) rfl rfl (by decide) (congrArg Value.bool hb66) rfl (by decide) (fun _ _ h => h) hS0 ?_
            refine PX_no 18 rfl (by kernel_rfl) rfl rfl (by decide) (congrArg Value.bool hb66) rfl (by decide) (fun _ _ h => h) hS0 ?_
            refine PX_no 19 rfl (by kernel_rfl) rfl rfl (by decide) (congrArg Value.bool hb66) rfl (by decide) (fun _ _ h => h) hS0 ?_
            refine PX_no 20 rfl (by kernel_rfl) rfl rfl (by decide) (congrArg Value.bool hb66) rfl (by decide) (fun _ _ h => h) hS0 ?_
            refine PV 21 rfl hS0 (R_pickF (v := (.bool false)) (congrArg Value.bool hb66) rfl) ?_
            replace hm90 := Option.some.inj hm90; subst hm90
            refine PX_at (by kernel_rfl) (key92 _ _ ⟨false, _, (hST.sublist (List.Sublist.refl _)), rfl, rfl, rfl, rfl, hm91⟩)
      · replace hm := if_f hb35 hm
        refine CW_skip ?_
        refine bq_n ?_
        refine retQ_n ?_
        replace hm := Option.some.inj hm; subst hm
        refine retQ_0 rfl ?_
        replace hST : ST false (keys ((b_a0, Obj.cells (#[v_a0_in_, v_a0_creds, v_a0_uses, v_a0_words, v_a0_todo, (.int .i64 a0_n)] : Array Value) 53 (0, 0)) :: (R_a0_in_ ++ (R_a0_creds ++ (R_a0_uses ++ (R_a0_words ++ (R_a0_todo ++ []))))))) w _ _ ((b3, Obj.cells ((encFact a2).toArray : Array Value) 43 (0, 0)) :: ((b1, Obj.cells ((encCred a1).toArray : Array Value) 36 (0, 0)) :: ((b_a0, Obj.cells (#[v_a0_in_, v_a0_creds, v_a0_uses, v_a0_words, v_a0_todo, (.int .i64 a0_n)] : Array Value) 53 (0, 0)) :: (R_a0_in_ ++ (R_a0_creds ++ (R_a0_uses ++ (R_a0_words ++ (R_a0_todo ++ [])))))))) := hST
        exact ⟨_, ((b_a0, Obj.cells (#[v_a0_in_, v_a0_creds, v_a0_uses, v_a0_words, v_a0_todo, (.int .i64 a0_n)] : Array Value) 53 (0, 0)) :: (R_a0_in_ ++ (R_a0_creds ++ (R_a0_uses ++ (R_a0_words ++ (R_a0_todo ++ [])))))), rfl, (ST.backM (L1 := ((b_a0, Obj.cells (#[v_a0_in_, v_a0_creds, v_a0_uses, v_a0_words, v_a0_todo, (.int .i64 a0_n)] : Array Value) 53 (0, 0)) :: (R_a0_in_ ++ (R_a0_creds ++ (R_a0_uses ++ (R_a0_words ++ (R_a0_todo ++ []))))))) (by have hh : ST false (keys ((b_a0, Obj.cells (#[v_a0_in_, v_a0_creds, v_a0_uses, v_a0_words, v_a0_todo, (.int .i64 a0_n)] : Array Value) 53 (0, 0)) :: (R_a0_in_ ++ (R_a0_creds ++ (R_a0_uses ++ (R_a0_words ++ (R_a0_todo ++ []))))))) w _ _ ((b_a0, Obj.cells (#[v_a0_in_, v_a0_creds, v_a0_uses, v_a0_words, v_a0_todo, (.int .i64 a0_n)] : Array Value) 53 (0, 0)) :: (R_a0_in_ ++ (R_a0_creds ++ (R_a0_uses ++ (R_a0_words ++ (R_a0_todo ++ ((b3, Obj.cells ((encFact a2).toArray : Array Value) 43 (0, 0)) :: ((b1, Obj.cells ((encCred a1).toArray : Array Value) 36 (0, 0)) :: [])))))))) := hST.perm (permD [[(b3, Obj.cells ((encFact a2).toArray : Array Value) 43 (0, 0))], [(b1, Obj.cells ((encCred a1).toArray : Array Value) 36 (0, 0))], [(b_a0, Obj.cells (#[v_a0_in_, v_a0_creds, v_a0_uses, v_a0_words, v_a0_todo, (.int .i64 a0_n)] : Array Value) 53 (0, 0))], R_a0_in_, R_a0_creds, R_a0_uses, R_a0_words, R_a0_todo] [0, 1, 2, 3, 4, 5, 6, 7] [2, 3, 4, 5, 6, 7, 0, 1] ([]) (by decide) rfl rfl); simpa only [List.append_assoc, List.cons_append, List.nil_append] using hh)), R_a0_in_, v_a0_todo, R_a0_todo, rfl, rfl, h_a0_in_, h_a0_todo⟩
theorem w_model_Model_begin_w (b_a0 : Nat) (v_a0_in_ : Value) (a0_in_ : List (Role × (List (ByteArray × Bool)))) (R_a0_in_ : List (Nat × Obj)) (v_a0_creds : Value) (a0_creds : List Cred) (R_a0_creds : List (Nat × Obj)) (v_a0_uses : Value) (a0_uses : List (Role × (List Cred))) (R_a0_uses : List (Nat × Obj)) (v_a0_words : Value) (a0_words : List (ByteArray × (List Cred))) (R_a0_words : List (Nat × Obj)) (v_a0_todo : Value) (a0_todo : List Fact) (R_a0_todo : List (Nat × Obj)) (a0_n : Int) (a1 : Cred) (r : ((List (Role × (List (ByteArray × Bool)))) × (List Fact) × Int)) (w : World) {μ0 : Mem} (hH : Held ((b_a0, Obj.cells (#[v_a0_in_, v_a0_creds, v_a0_uses, v_a0_words, v_a0_todo, (.int .i64 a0_n)] : Array Value) 53 (0, 0)) :: (R_a0_in_ ++ (R_a0_creds ++ (R_a0_uses ++ (R_a0_words ++ (R_a0_todo ++ [])))))) w) (hN : ((((b_a0, Obj.cells (#[v_a0_in_, v_a0_creds, v_a0_uses, v_a0_words, v_a0_todo, (.int .i64 a0_n)] : Array Value) 53 (0, 0)) :: (R_a0_in_ ++ (R_a0_creds ++ (R_a0_uses ++ (R_a0_words ++ (R_a0_todo ++ [])))))) : List (Nat × Obj)).map (·.1)).Nodup) (hS0 : Sub μ0 (hpx w ((b_a0, Obj.cells (#[v_a0_in_, v_a0_creds, v_a0_uses, v_a0_words, v_a0_todo, (.int .i64 a0_n)] : Array Value) 53 (0, 0)) :: (R_a0_in_ ++ (R_a0_creds ++ (R_a0_uses ++ (R_a0_words ++ (R_a0_todo ++ [])))))))) (h_a0_in_ : DeepE (fun (x : Role) => (.agg (encRole x).toArray)) (MapRow Value.string (fun (x : Bool) => (Value.bool x))) v_a0_in_ a0_in_ R_a0_in_) (h_a0_creds : Row 36 encCred 9 v_a0_creds a0_creds R_a0_creds) (h_a0_uses : DeepE (fun (x : Role) => (.agg (encRole x).toArray)) (Row 36 encCred 9) v_a0_uses a0_uses R_a0_uses) (h_a0_words : DeepE Value.string (Row 36 encCred 9) v_a0_words a0_words R_a0_words) (h_a0_todo : Que 43 encFact 3 v_a0_todo a0_todo R_a0_todo) (hm : m_model_Model_begin_w a0_in_ a0_creds a0_uses a0_words a0_todo a0_n a1 = some r) :
    GivesM false Try.prog 25 [(.pointer (some ⟨b_a0, 0, none⟩)), (.agg (encCred a1).toArray)] w ((b_a0, Obj.cells (#[v_a0_in_, v_a0_creds, v_a0_uses, v_a0_words, v_a0_todo, (.int .i64 a0_n)] : Array Value) 53 (0, 0)) :: (R_a0_in_ ++ (R_a0_creds ++ (R_a0_uses ++ (R_a0_words ++ (R_a0_todo ++ [])))))) (fun v L1 W' => ∃ (S1 : List (Nat × Obj)) (y3 : Value) (S4 : List (Nat × Obj)), v = (.tuple #[]) ∧ L1 = ((b_a0, Obj.cells (#[v_a0_in_, v_a0_creds, v_a0_uses, v_a0_words, y3, (.int .i64 (r.2.2))] : Array Value) 53 (0, 0)) :: (S1 ++ (R_a0_creds ++ (R_a0_uses ++ (R_a0_words ++ (S4 ++ [])))))) ∧ DeepE (fun (x : Role) => (.agg (encRole x).toArray)) (MapRow Value.string (fun (x : Bool) => (Value.bool x))) v_a0_in_ r.1 S1 ∧ Que 43 encFact 3 y3 r.2.1 S4) := by
  have hST := (ST.startM (dd := false) hH hN).weak hS0
  unfold m_model_Model_begin_w at hm
  refine calls_of_CW (n := 33) Try.func25 rfl rfl (Nat.le_of_ble_eq_true rfl) ?_
  refine CW_seq ?_
  refine CW_region ?_
  refine LE (E_box (v := (.agg (encCred a1).toArray)) hST rfl (fun W2 b1 hST => ?_))
  refine LW_nil ?_
  refine sq_n ?_
  refine CW_seq ?_
  refine CW_region ?_
  refine LV (R_field fa36_0 rfl) ?_
  refine LV (R_load (v := (.int .i64 a1.Kind)) rfl (load_box1 hST.has (.head _) rfl Try.isAgg3)) ?_
  refine LW_nil ?_
  refine sq_n ?_
  refine CW_block ?_
  refine CW_seq ?_
  refine CW_region ?_
  refine LV (R_int (k := .i64) (a := a1.Kind) (b := 1) (v := (.bool ((a1.Kind == 1)))) rfl rfl rfl) ?_
  refine LV (R_assign (v := (.bool ((a1.Kind == 1)))) rfl) ?_
  refine LW_nil ?_
  refine sq_n ?_
  refine CW_if (b := (a1.Kind == 1)) rfl (fun hb3 => ?_) (fun hb3 => ?_)
  · replace hm := if_t hb3 hm
    refine CW_region ?_
    refine LV (R_move (v := (.pointer (some ⟨b_a0, 0, none⟩))) rfl) ?_
    refine LV (R_field fa36_1 rfl) ?_
    refine LV (R_load (v := (.agg (encRole a1.Head).toArray)) rfl (load_boxA hST.has (.head _) (encRole a1.Head) rfl Try.isAgg34 Try.sizeOf34)) ?_
    refine LV (R_field fa36_2 rfl) ?_
    refine LV (R_load (v := (.string a1.Who)) rfl (load_box1 hST.has (.head _) rfl Try.isAgg9)) ?_
    obtain ⟨r4, hr5, hm⟩ := bind_some hm
    replace hST : ST false (keys ((b_a0, Obj.cells (#[v_a0_in_, v_a0_creds, v_a0_uses, v_a0_words, v_a0_todo, (.int .i64 a0_n)] : Array Value) 53 (0, 0)) :: (R_a0_in_ ++ (R_a0_creds ++ (R_a0_uses ++ (R_a0_words ++ (R_a0_todo ++ []))))))) w _ _ ((b_a0, Obj.cells (#[v_a0_in_, v_a0_creds, v_a0_uses, v_a0_words, v_a0_todo, (.int .i64 a0_n)] : Array Value) 53 (0, 0)) :: (R_a0_in_ ++ (R_a0_creds ++ (R_a0_uses ++ (R_a0_words ++ (R_a0_todo ++ ((b1, Obj.cells ((encCred a1).toArray : Array Value) 36 (0, 0)) :: []))))))) := hST.perm (permD [[(b1, Obj.cells ((encCred a1).toArray : Array Value) 36 (0, 0))], [(b_a0, Obj.cells (#[v_a0_in_, v_a0_creds, v_a0_uses, v_a0_words, v_a0_todo, (.int .i64 a0_n)] : Array Value) 53 (0, 0))], R_a0_in_, R_a0_creds, R_a0_uses, R_a0_words, R_a0_todo] [0, 1, 2, 3, 4, 5, 6] [1, 2, 3, 4, 5, 6, 0] ([]) (by decide) rfl rfl)
    have hsz := hST.size
    refine LE (E_callM (args := [(.pointer (some ⟨b_a0, 0, none⟩)), (.agg (encRole a1.Head).toArray), (.string a1.Who)]) (caps := #[]) (((b_a0, Obj.cells (#[v_a0_in_, v_a0_creds, v_a0_uses, v_a0_words, v_a0_todo, (.int .i64 a0_n)] : Array Value) 53 (0, 0)) :: (R_a0_in_ ++ (R_a0_creds ++ (R_a0_uses ++ (R_a0_words ++ (R_a0_todo ++ []))))))) (((b1, Obj.cells ((encCred a1).toArray : Array Value) 36 (0, 0)) :: [])) hST (by simp only [List.append_assoc, List.cons_append, List.nil_append]; exact List.Perm.refl _) rfl Try.call45 (by exact args3 rfl rfl rfl) (fun hH hN hsb hmm => GivesM.weak (w_model_Model_tell_w b_a0 v_a0_in_ a0_in_ R_a0_in_ v_a0_creds a0_creds R_a0_creds v_a0_uses a0_uses R_a0_uses v_a0_words a0_words R_a0_words v_a0_todo a0_todo R_a0_todo a0_n a1.Head a1.Who _ _ hH hN (Sub.refl _) h_a0_in_ h_a0_creds h_a0_uses h_a0_words h_a0_todo hr5)) (fun W6 v9 μ7 L11 hST hle8 hlift hK10 => ?_))
    obtain ⟨S12, y14, S15, hv17, rfl, hy13, hy16⟩ := hK10
    replace hv17 := hv17.symm; subst hv17
    simp only [List.append_assoc, List.cons_append, List.nil_append] at hST
    replace hST : ST false (keys ((b_a0, Obj.cells (#[v_a0_in_, v_a0_creds, v_a0_uses, v_a0_words, v_a0_todo, (.int .i64 a0_n)] : Array Value) 53 (0, 0)) :: (R_a0_in_ ++ (R_a0_creds ++ (R_a0_uses ++ (R_a0_words ++ (R_a0_todo ++ []))))))) w _ _ ((b_a0, Obj.cells (#[v_a0_in_, v_a0_creds, v_a0_uses, v_a0_words, y14, (.int .i64 (r4.2.2))] : Array Value) 53 (0, 0)) :: ((b1, Obj.cells ((encCred a1).toArray : Array Value) 36 (0, 0)) :: (S12 ++ (R_a0_creds ++ (R_a0_uses ++ (R_a0_words ++ (S15 ++ []))))))) := hST.perm (permD [[(b_a0, Obj.cells (#[v_a0_in_, v_a0_creds, v_a0_uses, v_a0_words, y14, (.int .i64 (r4.2.2))] : Array Value) 53 (0, 0))], S12, R_a0_creds, R_a0_uses, R_a0_words, S15, [(b1, Obj.cells ((encCred a1).toArray : Array Value) 36 (0, 0))]] [0, 1, 2, 3, 4, 5, 6] [0, 6, 1, 2, 3, 4, 5] ([]) (by decide) rfl rfl)
    refine LW_nil ?_
    refine bq_n ?_
    refine retQ_n ?_
    replace hm := Option.some.inj hm; subst hm
    refine retQ_0 rfl ?_
    replace hST : ST false (keys ((b_a0, Obj.cells (#[v_a0_in_, v_a0_creds, v_a0_uses, v_a0_words, v_a0_todo, (.int .i64 a0_n)] : Array Value) 53 (0, 0)) :: (R_a0_in_ ++ (R_a0_creds ++ (R_a0_uses ++ (R_a0_words ++ (R_a0_todo ++ []))))))) w _ _ ((b_a0, Obj.cells (#[v_a0_in_, v_a0_creds, v_a0_uses, v_a0_words, y14, (.int .i64 (r4.2.2))] : Array Value) 53 (0, 0)) :: ((b1, Obj.cells ((encCred a1).toArray : Array Value) 36 (0, 0)) :: (S12 ++ (R_a0_creds ++ (R_a0_uses ++ (R_a0_words ++ (S15 ++ []))))))) := hST
    exact ⟨_, ((b_a0, Obj.cells (#[v_a0_in_, v_a0_creds, v_a0_uses, v_a0_words, y14, (.int .i64 (r4.2.2))] : Array Value) 53 (0, 0)) :: (S12 ++ (R_a0_creds ++ (R_a0_uses ++ (R_a0_words ++ (S15 ++ [])))))), rfl, (ST.backM (L1 := ((b_a0, Obj.cells (#[v_a0_in_, v_a0_creds, v_a0_uses, v_a0_words, y14, (.int .i64 (r4.2.2))] : Array Value) 53 (0, 0)) :: (S12 ++ (R_a0_creds ++ (R_a0_uses ++ (R_a0_words ++ (S15 ++ []))))))) (by have hh : ST false (keys ((b_a0, Obj.cells (#[v_a0_in_, v_a0_creds, v_a0_uses, v_a0_words, v_a0_todo, (.int .i64 a0_n)] : Array Value) 53 (0, 0)) :: (R_a0_in_ ++ (R_a0_creds ++ (R_a0_uses ++ (R_a0_words ++ (R_a0_todo ++ []))))))) w _ _ ((b_a0, Obj.cells (#[v_a0_in_, v_a0_creds, v_a0_uses, v_a0_words, y14, (.int .i64 (r4.2.2))] : Array Value) 53 (0, 0)) :: (S12 ++ (R_a0_creds ++ (R_a0_uses ++ (R_a0_words ++ (S15 ++ ((b1, Obj.cells ((encCred a1).toArray : Array Value) 36 (0, 0)) :: []))))))) := hST.perm (permD [[(b_a0, Obj.cells (#[v_a0_in_, v_a0_creds, v_a0_uses, v_a0_words, y14, (.int .i64 (r4.2.2))] : Array Value) 53 (0, 0))], [(b1, Obj.cells ((encCred a1).toArray : Array Value) 36 (0, 0))], S12, R_a0_creds, R_a0_uses, R_a0_words, S15] [0, 1, 2, 3, 4, 5, 6] [0, 2, 3, 4, 5, 6, 1] ([]) (by decide) rfl rfl); simpa only [List.append_assoc, List.cons_append, List.nil_append] using hh)), S12, y14, S15, rfl, rfl, hy13, hy16⟩
  · replace hm := if_f hb3 hm
    refine CW_seq ?_
    refine CW_region ?_
    refine LV (R_move (v := (.pointer (some ⟨b_a0, 0, none⟩))) rfl) ?_
    refine LV (R_field fa36_3 rfl) ?_
    refine LV (R_load (v := (.agg (encRole a1.B).toArray)) rfl (load_boxA hST.has (.head _) (encRole a1.B) rfl Try.isAgg34 Try.sizeOf34)) ?_
    obtain ⟨r18, hr19, hm⟩ := bind_some hm
    refine LE (E_givesRow (args := [(.pointer (some ⟨b_a0, 0, none⟩)), (.agg (encRole a1.B).toArray)]) [_, _] _ hST rfl Try.call17 (by exact args2 rfl rfl) ((w_model_Model_Members b_a0 v_a0_in_ a0_in_ v_a0_creds a0_creds v_a0_uses a0_uses v_a0_words a0_words v_a0_todo a0_todo a0_n a1.B _ _ (h_a0_in_.at (fun b o hq => hST.at_ (.tail _ (.tail _ (List.mem_append_left _ hq))))) (h_a0_creds.sl lenCred (fun b o hq => hST.at_ (.tail _ (.tail _ (List.mem_append_right _ (List.mem_append_left _ hq)))))) (h_a0_uses.at (fun b o hq => hST.at_ (.tail _ (.tail _ (List.mem_append_right _ (List.mem_append_right _ (List.mem_append_left _ hq))))))) (h_a0_words.at (fun b o hq => hST.at_ (.tail _ (.tail _ (List.mem_append_right _ (List.mem_append_right _ (List.mem_append_right _ (List.mem_append_left _ hq)))))))) ((h_a0_todo.slL lenFact).mono (Pl.mono _) (memL_held (fun b o hq => hST.at_ (.tail _ (.tail _ (List.mem_append_right _ (List.mem_append_right _ (List.mem_append_right _ (List.mem_append_right _ (List.mem_append_left _ hq)))))))))) (At.of (hST.at_ (.tail _ (.head _))) _ rfl) hr19)) (fun W20 v23 μ21 R24 hST hle22 hR25 => ?_))
    refine LV (R_lenRow Try.underlying37 rfl hR25) ?_
    refine LV (R_move (v := (.int .i64 0)) rfl) ?_
    refine LW_nil ?_
    refine sq_n ?_
    refine CW_tail ?_
    replace hST : ST false (keys ((b_a0, Obj.cells (#[v_a0_in_, v_a0_creds, v_a0_uses, v_a0_words, v_a0_todo, (.int .i64 a0_n)] : Array Value) 53 (0, 0)) :: (R_a0_in_ ++ (R_a0_creds ++ (R_a0_uses ++ (R_a0_words ++ (R_a0_todo ++ []))))))) w _ _ ((b1, Obj.cells ((encCred a1).toArray : Array Value) 36 (0, 0)) :: ((b_a0, Obj.cells (#[v_a0_in_, v_a0_creds, v_a0_uses, v_a0_words, v_a0_todo, (.int .i64 a0_n)] : Array Value) 53 (0, 0)) :: (R24 ++ (R_a0_in_ ++ (R_a0_creds ++ (R_a0_uses ++ (R_a0_words ++ (R_a0_todo ++ [])))))))) := hST
    replace hST : ST false (keys ((b_a0, Obj.cells (#[v_a0_in_, v_a0_creds, v_a0_uses, v_a0_words, v_a0_todo, (.int .i64 a0_n)] : Array Value) 53 (0, 0)) :: (R_a0_in_ ++ (R_a0_creds ++ (R_a0_uses ++ (R_a0_words ++ (R_a0_todo ++ []))))))) w _ _ ((b_a0, Obj.cells (#[v_a0_in_, v_a0_creds, v_a0_uses, v_a0_words, v_a0_todo, (.int .i64 a0_n)] : Array Value) 53 (0, 0)) :: ((b1, Obj.cells ((encCred a1).toArray : Array Value) 36 (0, 0)) :: (R_a0_in_ ++ (R_a0_creds ++ (R_a0_uses ++ (R_a0_words ++ (R_a0_todo ++ (R24 ++ [])))))))) := hST.perm (permD [[(b1, Obj.cells ((encCred a1).toArray : Array Value) 36 (0, 0))], [(b_a0, Obj.cells (#[v_a0_in_, v_a0_creds, v_a0_uses, v_a0_words, v_a0_todo, (.int .i64 a0_n)] : Array Value) 53 (0, 0))], R24, R_a0_in_, R_a0_creds, R_a0_uses, R_a0_words, R_a0_todo] [0, 1, 2, 3, 4, 5, 6, 7] [1, 0, 3, 4, 5, 6, 7, 2] ([]) (by decide) rfl rfl)
    refine CW_range (fun i E W => ∃ (l137 : List (Role × (List (ByteArray × Bool)))) (R139 : List (Nat × Obj)) (v140 : Value) (l141 : List Fact) (R143 : List (Nat × Obj)) (x144 : Int) (μ136 : Mem) (L175 : List (Nat × Obj)), (E 13 = .int .i64 (i : Nat) ∧ E 12 = .int .i64 (r18.length : Nat)) ∧ Sub μ21 μ136 ∧ ST false (keys ((b_a0, Obj.cells (#[v_a0_in_, v_a0_creds, v_a0_uses, v_a0_words, v_a0_todo, (.int .i64 a0_n)] : Array Value) 53 (0, 0)) :: (R_a0_in_ ++ (R_a0_creds ++ (R_a0_uses ++ (R_a0_words ++ (R_a0_todo ++ []))))))) w W μ136 ((b_a0, Obj.cells (#[v_a0_in_, v_a0_creds, v_a0_uses, v_a0_words, v140, (.int .i64 x144)] : Array Value) 53 (0, 0)) :: ((b1, Obj.cells ((encCred a1).toArray : Array Value) 36 (0, 0)) :: (R139 ++ (R_a0_creds ++ (R_a0_uses ++ (R_a0_words ++ (R143 ++ (R24 ++ L175)))))))) ∧ E 0 = (.pointer (some ⟨b_a0, 0, none⟩)) ∧ E 3 = (.pointer (some ⟨b1, 0, none⟩)) ∧ E 11 = v23 ∧ DeepE (fun (x : Role) => (.agg (encRole x).toArray)) (MapRow Value.string (fun (x : Bool) => (Value.bool x))) v_a0_in_ l137 R139 ∧ Que 43 encFact 3 v140 l141 R143 ∧ m_model_Model_begin_w_L1 a0_creds a0_uses a0_words a1 (r18.drop i) l137 l141 x144 = some r) r18.length hR25.len ⟨a0_in_, R_a0_in_, v_a0_todo, a0_todo, R_a0_todo, a0_n, μ21, _, ⟨rfl, rfl⟩, (Sub.refl _), (hST.sublist (List.Sublist.refl _)), rfl, rfl, rfl, h_a0_in_, h_a0_todo, hm⟩ (by decide) (by decide) (by decide) (fun _ _ _ h => by obtain ⟨_, _, _, _, _, _, _, _, eIN, _⟩ := h; exact eIN) ?_ ?_
    · rintro i112 E W hi118 ⟨l137, R139, v140, l141, R143, x144, μ136, L175, ⟨eI, eN⟩, hle177, hST, e178, e179, e180, hs138, hs142, hm176⟩
      obtain ⟨x113, xs114, hx116, hx115, hx117⟩ := drop_cons hi118
      rw [hx116] at hm176
      rw [m_model_Model_begin_w_L1] at hm176
      refine CW_block ?_
      refine CW_seq ?_
      refine CW_region ?_
      refine LQ (R_indexRow (i := (i112 : Int)) (x0 := x113) Try.underlying37 Try.sizeOf9 e180 eI hR25 (Int.natCast_nonneg _) hx115) (fun p181 hp182 => ?_)
      refine LV (R_load (v := (.string x113)) rfl (load_ix1 hST.has (fun p hq => by simp [hq]) hR25 (fun _ => rfl) hp182 hx115 (y := (.string x113)) rfl Try.isAgg9)) ?_
      refine LV (R_assign (v := (.string x113)) rfl) ?_
      refine LW_nil ?_
      refine sq_n ?_
      refine CW_region ?_
      refine LV (R_move (v := (.pointer (some ⟨b_a0, 0, none⟩))) e178) ?_
      refine LV (R_load (v := (.agg (encCred a1).toArray)) e179 (load_boxA hST.has (.tail _ (.head _)) (encCred a1) rfl Try.isAgg36 Try.sizeOf36)) ?_
      refine LV (R_field fa36_3 e179) ?_
      refine LV (R_load (v := (.agg (encRole a1.B).toArray)) rfl (load_boxA hST.has (.tail _ (.head _)) (encRole a1.B) rfl Try.isAgg34 Try.sizeOf34)) ?_
      refine LV (R_move (v := (.string x113)) rfl) ?_
      refine LV (R_build (qs := #[(0, (.agg (encRole a1.B).toArray)), (1, (.string x113))]) (v := (.agg (encFact ((⟨a1.B, x113⟩ : Fact))).toArray)) (parts2 rfl rfl) (run_build Try.zeroValue43 Try.underlying43 (pl43 _ Try.underlying43) (by kernel_rfl))) ?_
      obtain ⟨r184, hr185, hm176⟩ := bind_some hm176
      replace hST : ST false (keys ((b_a0, Obj.cells (#[v_a0_in_, v_a0_creds, v_a0_uses, v_a0_words, v_a0_todo, (.int .i64 a0_n)] : Array Value) 53 (0, 0)) :: (R_a0_in_ ++ (R_a0_creds ++ (R_a0_uses ++ (R_a0_words ++ (R_a0_todo ++ []))))))) w _ _ ((b_a0, Obj.cells (#[v_a0_in_, v_a0_creds, v_a0_uses, v_a0_words, v140, (.int .i64 x144)] : Array Value) 53 (0, 0)) :: (R139 ++ (R_a0_creds ++ (R_a0_uses ++ (R_a0_words ++ (R143 ++ ((b1, Obj.cells ((encCred a1).toArray : Array Value) 36 (0, 0)) :: (R24 ++ L175)))))))) := hST.perm (permD [[(b_a0, Obj.cells (#[v_a0_in_, v_a0_creds, v_a0_uses, v_a0_words, v140, (.int .i64 x144)] : Array Value) 53 (0, 0))], [(b1, Obj.cells ((encCred a1).toArray : Array Value) 36 (0, 0))], R139, R_a0_creds, R_a0_uses, R_a0_words, R143] [0, 1, 2, 3, 4, 5, 6] [0, 2, 3, 4, 5, 6, 1] ((R24 ++ L175)) (by decide) rfl rfl)
      have hsz := hST.size
      refine LE (E_callM (args := [(.pointer (some ⟨b_a0, 0, none⟩)), (.agg (encCred a1).toArray), (.agg (encFact ((⟨a1.B, x113⟩ : Fact))).toArray)]) (caps := #[]) (((b_a0, Obj.cells (#[v_a0_in_, v_a0_creds, v_a0_uses, v_a0_words, v140, (.int .i64 x144)] : Array Value) 53 (0, 0)) :: (R139 ++ (R_a0_creds ++ (R_a0_uses ++ (R_a0_words ++ (R143 ++ []))))))) (((b1, Obj.cells ((encCred a1).toArray : Array Value) 36 (0, 0)) :: (R24 ++ L175))) hST (by simp only [List.append_assoc, List.cons_append, List.nil_append]; exact List.Perm.refl _) rfl Try.call46 (by exact args3 rfl rfl rfl) (fun hH hN hsb hmm => (w_model_Model_use_w b_a0 v_a0_in_ l137 R139 v_a0_creds a0_creds R_a0_creds v_a0_uses a0_uses R_a0_uses v_a0_words a0_words R_a0_words v140 l141 R143 x144 a1 ((⟨a1.B, x113⟩ : Fact)) _ _ hH hN (Sub.refl _) hs138 h_a0_creds h_a0_uses h_a0_words hs142 hr185)) (fun W186 v189 μ187 L191 hST hle188 hlift hK190 => ?_))
      obtain ⟨S192, y194, S195, hv197, rfl, hy193, hy196⟩ := hK190
      replace hv197 := hv197.symm; subst hv197
      simp only [List.append_assoc, List.cons_append, List.nil_append] at hST
      replace hST : ST false (keys ((b_a0, Obj.cells (#[v_a0_in_, v_a0_creds, v_a0_uses, v_a0_words, v_a0_todo, (.int .i64 a0_n)] : Array Value) 53 (0, 0)) :: (R_a0_in_ ++ (R_a0_creds ++ (R_a0_uses ++ (R_a0_words ++ (R_a0_todo ++ []))))))) w _ _ ((b_a0, Obj.cells (#[v_a0_in_, v_a0_creds, v_a0_uses, v_a0_words, y194, (.int .i64 (r184.2.2))] : Array Value) 53 (0, 0)) :: ((b1, Obj.cells ((encCred a1).toArray : Array Value) 36 (0, 0)) :: (S192 ++ (R_a0_creds ++ (R_a0_uses ++ (R_a0_words ++ (S195 ++ (R24 ++ L175)))))))) := hST.perm (permD [[(b_a0, Obj.cells (#[v_a0_in_, v_a0_creds, v_a0_uses, v_a0_words, y194, (.int .i64 (r184.2.2))] : Array Value) 53 (0, 0))], S192, R_a0_creds, R_a0_uses, R_a0_words, S195, [(b1, Obj.cells ((encCred a1).toArray : Array Value) 36 (0, 0))]] [0, 1, 2, 3, 4, 5, 6] [0, 6, 1, 2, 3, 4, 5] ((R24 ++ L175)) (by decide) rfl rfl)
      refine LW_nil ?_
      refine bq_n ?_
      refine sq_n ?_
      exact ⟨eI, r184.1, S192, y194, r184.2.1, S195, r184.2.2, μ187, _, ⟨rfl, eN⟩, (hle177.trans hle188), (hST.sublist (List.Sublist.refl _)), e178, e179, e180, hy193, hy196, (by rw [hx117]; exact hm176)⟩
    · rintro E W ⟨l137, R139, v140, l141, R143, x144, μ136, L175, ⟨eI, eN⟩, hle177, hST, e178, e179, e180, hs138, hs142, hm176⟩
      rw [List.drop_length] at hm176
      rw [m_model_Model_begin_w_L1] at hm176
      refine sq_n ?_
      replace hST : ST false (keys ((b_a0, Obj.cells (#[v_a0_in_, v_a0_creds, v_a0_uses, v_a0_words, v_a0_todo, (.int .i64 a0_n)] : Array Value) 53 (0, 0)) :: (R_a0_in_ ++ (R_a0_creds ++ (R_a0_uses ++ (R_a0_words ++ (R_a0_todo ++ []))))))) w _ _ ((b_a0, Obj.cells (#[v_a0_in_, v_a0_creds, v_a0_uses, v_a0_words, v140, (.int .i64 x144)] : Array Value) 53 (0, 0)) :: (R139 ++ (R_a0_creds ++ (R_a0_uses ++ (R_a0_words ++ (R143 ++ L175)))))) := hST.sublist (List.Sublist.cons_cons _ (List.Sublist.cons _ (List.Sublist.append (List.Sublist.refl _) (List.Sublist.append (List.Sublist.refl _) (List.Sublist.append (List.Sublist.refl _) (List.Sublist.append (List.Sublist.refl _) (List.Sublist.append (List.Sublist.refl _) ((List.Sublist.refl _).trans (List.sublist_append_right _ _)))))))))
      refine bq_n ?_
      refine retQ_n ?_
      replace hm176 := Option.some.inj hm176; subst hm176
      refine retQ_0 rfl ?_
      replace hST : ST false (keys ((b_a0, Obj.cells (#[v_a0_in_, v_a0_creds, v_a0_uses, v_a0_words, v_a0_todo, (.int .i64 a0_n)] : Array Value) 53 (0, 0)) :: (R_a0_in_ ++ (R_a0_creds ++ (R_a0_uses ++ (R_a0_words ++ (R_a0_todo ++ []))))))) w _ _ ((b_a0, Obj.cells (#[v_a0_in_, v_a0_creds, v_a0_uses, v_a0_words, v140, (.int .i64 x144)] : Array Value) 53 (0, 0)) :: (R139 ++ (R_a0_creds ++ (R_a0_uses ++ (R_a0_words ++ (R143 ++ L175)))))) := hST
      exact ⟨_, ((b_a0, Obj.cells (#[v_a0_in_, v_a0_creds, v_a0_uses, v_a0_words, v140, (.int .i64 x144)] : Array Value) 53 (0, 0)) :: (R139 ++ (R_a0_creds ++ (R_a0_uses ++ (R_a0_words ++ (R143 ++ [])))))), rfl, (ST.backM (L1 := ((b_a0, Obj.cells (#[v_a0_in_, v_a0_creds, v_a0_uses, v_a0_words, v140, (.int .i64 x144)] : Array Value) 53 (0, 0)) :: (R139 ++ (R_a0_creds ++ (R_a0_uses ++ (R_a0_words ++ (R143 ++ []))))))) (by have hh : ST false (keys ((b_a0, Obj.cells (#[v_a0_in_, v_a0_creds, v_a0_uses, v_a0_words, v_a0_todo, (.int .i64 a0_n)] : Array Value) 53 (0, 0)) :: (R_a0_in_ ++ (R_a0_creds ++ (R_a0_uses ++ (R_a0_words ++ (R_a0_todo ++ []))))))) w _ _ ((b_a0, Obj.cells (#[v_a0_in_, v_a0_creds, v_a0_uses, v_a0_words, v140, (.int .i64 x144)] : Array Value) 53 (0, 0)) :: (R139 ++ (R_a0_creds ++ (R_a0_uses ++ (R_a0_words ++ (R143 ++ L175)))))) := hST.perm (List.Perm.refl _); simpa only [List.append_assoc, List.cons_append, List.nil_append] using hh)), R139, v140, R143, rfl, rfl, hs138, hs142⟩
end Go.Proofs.Ytfjdjbdnnoijgaa
