/- A part of the proof that the law GraphEdges answers true for every input of bulk at most 1048576. -/
import Derived.Test.YtfjdjbdnnoijgaaGreatG2M
import Derived.Test.YtfjdjbdnnoijgaaGreatLs
import Derived.Test.YtfjdjbdnnoijgaaGreatProg
set_option linter.all false
set_option linter.unusedSimpArgs false
set_option linter.unusedVariables false
namespace Go.Proofs.YtfjdjbdnnoijgaaGreat
open Go.RowKit
set_option linter.unusedVariables false
set_option linter.unusedSimpArgs false
set_option maxRecDepth 10000
theorem Tryz_mixed : Tryz.prog.follows .mixedOrders = true := by rfl
theorem info5 : Tryz.prog.info? 5 = some Tryz.t5 ∧ Tryz.t5.zero = some (.int .u8 0) ∧ Tryz.t5.size = 1 ∧ Tryz.t5.bytes = 1 := ⟨by kernel_rfl, by kernel_rfl, by kernel_rfl, by kernel_rfl⟩
theorem info9 : Tryz.prog.info? 9 = some Tryz.t9 ∧ Tryz.t9.zero = some (.string ⟨#[]⟩) ∧ Tryz.t9.size = 1 ∧ Tryz.t9.bytes = 16 := ⟨by kernel_rfl, by kernel_rfl, by kernel_rfl, by kernel_rfl⟩
theorem info47 : Tryz.prog.info? 47 = some Tryz.t47 ∧ Tryz.t47.zero = some (.agg #[(.string ⟨#[]⟩), (.string ⟨#[]⟩)]) ∧ Tryz.t47.size = 2 ∧ Tryz.t47.bytes = 32 := ⟨by kernel_rfl, by kernel_rfl, by kernel_rfl, by kernel_rfl⟩
theorem info48 : Tryz.prog.info? 48 = some Tryz.t48 ∧ Tryz.t48.zero = some (.agg #[(.string ⟨#[]⟩), (.string ⟨#[]⟩), (.string ⟨#[]⟩), (.string ⟨#[]⟩)]) ∧ Tryz.t48.size = 4 ∧ Tryz.t48.bytes = 64 := ⟨by kernel_rfl, by kernel_rfl, by kernel_rfl, by kernel_rfl⟩
theorem info83 : Tryz.prog.info? 83 = some Tryz.t83 ∧ Tryz.t83.zero = some (.agg #[(.int .i64 0), (.string ⟨#[]⟩), (.string ⟨#[]⟩), (.string ⟨#[]⟩), (.string ⟨#[]⟩), (.string ⟨#[]⟩), (.string ⟨#[]⟩), (.string ⟨#[]⟩), (.string ⟨#[]⟩)]) ∧ Tryz.t83.size = 9 ∧ Tryz.t83.bytes = 136 := ⟨by kernel_rfl, by kernel_rfl, by kernel_rfl, by kernel_rfl⟩
theorem fa47_0 : FieldAt Tryz.prog 47 0 0 := FieldAt_of Tryz.underlying47 rfl Tryz.sizeOf9 (by decide) rfl
theorem fa47_1 : FieldAt Tryz.prog 47 1 1 := FieldAt_of Tryz.underlying47 rfl Tryz.sizeOf9 (by decide) rfl
theorem fields47 : (Tryz.prog.fieldsOf 47).toList = (match Tryz.prog.underlying 47 with | some (.struct fs) => fs.toList | _ => []) := by rw [Tryz.underlying47]; simp [Program.fieldsOf, Tryz.underlying47]
theorem eqInRole (d : Nat) (x y : Role) (W : World) : (Op.equalIn (d + 2) 47 (.agg (encRole x).toArray) (.agg (encRole y).toArray)).run Tryz.prog W = .ok (beqRole x y) W := by
  rw [run_equalIn_struct W (d + 1) 47 _ _ (by kernel_rfl) Tryz.stoodInHeld47, fields47, Tryz.underlying47]
  exact (eqFields_cons (by decide) (part_one Tryz.isAgg9 rfl) (part_one Tryz.isAgg9 rfl) (eqS Tryz.underlying9 _ _ _ _) (eqFields_cons (by decide) (part_one Tryz.isAgg9 rfl) (part_one Tryz.isAgg9 rfl) (eqS Tryz.underlying9 _ _ _ _) (eqFields_nil _ _ _)))
theorem pl47 : ∀ fs, Tryz.prog.underlying 47 = some (.struct fs) → ∀ w, (fs.mapM (fun (f : Field) => do pure (f.offset, ← sizeOf f.type)) : Sem (Array (Nat × Nat))).run Tryz.prog w = .ok #[(0, 1), (1, 1)] w := by
  intro fs h w
  rw [Tryz.underlying47] at h
  cases h
  kernel_rfl
theorem fa83_0 : FieldAt Tryz.prog 83 0 0 := FieldAt_of Tryz.underlying83 rfl Tryz.sizeOf3 (by decide) rfl
theorem fa83_1 : FieldAt Tryz.prog 83 1 1 := FieldAt_of Tryz.underlying83 rfl Tryz.sizeOf47 (by decide) rfl
theorem fa83_2 : FieldAt Tryz.prog 83 2 3 := FieldAt_of Tryz.underlying83 rfl Tryz.sizeOf9 (by decide) rfl
theorem fa83_3 : FieldAt Tryz.prog 83 3 4 := FieldAt_of Tryz.underlying83 rfl Tryz.sizeOf47 (by decide) rfl
theorem fa83_4 : FieldAt Tryz.prog 83 4 6 := FieldAt_of Tryz.underlying83 rfl Tryz.sizeOf47 (by decide) rfl
theorem fa83_5 : FieldAt Tryz.prog 83 5 8 := FieldAt_of Tryz.underlying83 rfl Tryz.sizeOf9 (by decide) rfl
theorem fields83 : (Tryz.prog.fieldsOf 83).toList = (match Tryz.prog.underlying 83 with | some (.struct fs) => fs.toList | _ => []) := by rw [Tryz.underlying83]; simp [Program.fieldsOf, Tryz.underlying83]
theorem eqInCred (d : Nat) (x y : Cred) (W : World) : (Op.equalIn (d + 3) 83 (.agg (encCred x).toArray) (.agg (encCred y).toArray)).run Tryz.prog W = .ok (beqCred x y) W := by
  rw [run_equalIn_struct W (d + 2) 83 _ _ (by kernel_rfl) Tryz.stoodInHeld83, fields83, Tryz.underlying83]
  exact (eqFields_cons (by decide) (part_one Tryz.isAgg3 rfl) (part_one Tryz.isAgg3 rfl) (eqI Tryz.underlying3 _ _ _ _) (eqFields_cons (by decide) (part_agg Tryz.isAgg47 Tryz.sizeOf47 rfl) (part_agg Tryz.isAgg47 Tryz.sizeOf47 rfl) (eqInRole _ x.Head y.Head W) (eqFields_cons (by decide) (part_one Tryz.isAgg9 rfl) (part_one Tryz.isAgg9 rfl) (eqS Tryz.underlying9 _ _ _ _) (eqFields_cons (by decide) (part_agg Tryz.isAgg47 Tryz.sizeOf47 rfl) (part_agg Tryz.isAgg47 Tryz.sizeOf47 rfl) (eqInRole _ x.B y.B W) (eqFields_cons (by decide) (part_agg Tryz.isAgg47 Tryz.sizeOf47 rfl) (part_agg Tryz.isAgg47 Tryz.sizeOf47 rfl) (eqInRole _ x.C y.C W) (eqFields_cons (by decide) (part_one Tryz.isAgg9 rfl) (part_one Tryz.isAgg9 rfl) (eqS Tryz.underlying9 _ _ _ _) (eqFields_nil _ _ _)))))))
theorem pl83 : ∀ fs, Tryz.prog.underlying 83 = some (.struct fs) → ∀ w, (fs.mapM (fun (f : Field) => do pure (f.offset, ← sizeOf f.type)) : Sem (Array (Nat × Nat))).run Tryz.prog w = .ok #[(0, 1), (1, 2), (3, 1), (4, 2), (6, 2), (8, 1)] w := by
  intro fs h w
  rw [Tryz.underlying83] at h
  cases h
  kernel_rfl
theorem cellsA47 : Tryz.prog.cellsOf 47 = 2 := by kernel_rfl
theorem eqInArr2Role (d : Nat) (x y : Arr2Role) (W : World) : (Op.equalIn (d + 3) 48 (.agg (encArr2Role x).toArray) (.agg (encArr2Role y).toArray)).run Tryz.prog W = .ok (beqArr2Role x y) W :=
  eqIn_array Tryz.underlying48 info47.1 cellsA47 (eqItems_cons (part_agg Tryz.isAgg47 Tryz.sizeOf47 rfl) (part_agg Tryz.isAgg47 Tryz.sizeOf47 rfl) (eqInRole _ x.at0 y.at0 W) (eqItems_cons (part_agg Tryz.isAgg47 Tryz.sizeOf47 rfl) (part_agg Tryz.isAgg47 Tryz.sizeOf47 rfl) (eqInRole _ x.at1 y.at1 W) (eqItems_nil _ _ _ _ _)))
theorem fa29_0 : FieldAt Tryz.prog 29 0 0 := FieldAt_of Tryz.underlying29 rfl Tryz.sizeOf23 (by decide) rfl
theorem fa29_1 : FieldAt Tryz.prog 29 1 1 := FieldAt_of Tryz.underlying29 rfl Tryz.sizeOf27 (by decide) rfl
theorem fa29_2 : FieldAt Tryz.prog 29 2 2 := FieldAt_of Tryz.underlying29 rfl Tryz.sizeOf22 (by decide) rfl
theorem pl29 : ∀ fs, Tryz.prog.underlying 29 = some (.struct fs) → ∀ w, (fs.mapM (fun (f : Field) => do pure (f.offset, ← sizeOf f.type)) : Sem (Array (Nat × Nat))).run Tryz.prog w = .ok #[(0, 1), (1, 1), (2, 1)] w := by
  intro fs h w
  rw [Tryz.underlying29] at h
  cases h
  kernel_rfl
theorem fa122_0 : FieldAt Tryz.prog 122 0 0 := FieldAt_of Tryz.underlying122 rfl Tryz.sizeOf22 (by decide) rfl
theorem fa122_1 : FieldAt Tryz.prog 122 1 1 := FieldAt_of Tryz.underlying122 rfl Tryz.sizeOf118 (by decide) rfl
theorem fa122_2 : FieldAt Tryz.prog 122 2 2 := FieldAt_of Tryz.underlying122 rfl Tryz.sizeOf119 (by decide) rfl
theorem fa122_3 : FieldAt Tryz.prog 122 3 3 := FieldAt_of Tryz.underlying122 rfl Tryz.sizeOf120 (by decide) rfl
theorem pl122 : ∀ fs, Tryz.prog.underlying 122 = some (.struct fs) → ∀ w, (fs.mapM (fun (f : Field) => do pure (f.offset, ← sizeOf f.type)) : Sem (Array (Nat × Nat))).run Tryz.prog w = .ok #[(0, 1), (1, 1), (2, 1), (3, 1)] w := by
  intro fs h w
  rw [Tryz.underlying122] at h
  cases h
  kernel_rfl
theorem fa221_0 : FieldAt Tryz.prog 221 0 0 := FieldAt_of Tryz.underlying221 rfl Tryz.sizeOf189 (by decide) rfl
theorem pl221 : ∀ fs, Tryz.prog.underlying 221 = some (.struct fs) → ∀ w, (fs.mapM (fun (f : Field) => do pure (f.offset, ← sizeOf f.type)) : Sem (Array (Nat × Nat))).run Tryz.prog w = .ok #[(0, 1)] w := by
  intro fs h w
  rw [Tryz.underlying221] at h
  cases h
  kernel_rfl
theorem kl9 : KeyLaw Tryz.prog 9 Value.string beqS := KeyLaw.string Tryz.underlying9
theorem kl47 : KeyLaw Tryz.prog 47 (fun (x : Role) => (.agg (encRole x).toArray)) beqRole :=
  KeyLaw.struct Tryz.underlying47 (fun d x y W => eqInRole (d + 8) x y W) (fun b k W => checkKey_struct Tryz.underlying47 rfl (List.forall_mem_cons.2 ⟨fun _ => ⟨.string k.Owner, part_one Tryz.isAgg9 rfl, checkKey_string Tryz.underlying9 _ _ _ _⟩, (List.forall_mem_cons.2 ⟨fun _ => ⟨.string k.Word, part_one Tryz.isAgg9 rfl, checkKey_string Tryz.underlying9 _ _ _ _⟩, (fun _ h => by cases h)⟩)⟩))
    (fun k x h => (beqRole_iff.1 h).symm) (fun k => by simp [Instr.sameBits, encRole, bytes_beq, beqS_iff])
theorem kl83 : KeyLaw Tryz.prog 83 (fun (x : Cred) => (.agg (encCred x).toArray)) beqCred :=
  KeyLaw.struct Tryz.underlying83 (fun d x y W => eqInCred (d + 7) x y W) (fun b k W => checkKey_struct Tryz.underlying83 rfl (List.forall_mem_cons.2 ⟨fun _ => ⟨.int .i64 k.Kind, part_one Tryz.isAgg3 rfl, checkKey_int Tryz.underlying3 _ _ _ _ _⟩, (List.forall_mem_cons.2 ⟨fun _ => ⟨.agg (encRole k.Head).toArray, part_agg Tryz.isAgg47 Tryz.sizeOf47 rfl, checkKey_struct Tryz.underlying47 rfl (List.forall_mem_cons.2 ⟨fun _ => ⟨.string k.Head.Owner, part_one Tryz.isAgg9 rfl, checkKey_string Tryz.underlying9 _ _ _ _⟩, (List.forall_mem_cons.2 ⟨fun _ => ⟨.string k.Head.Word, part_one Tryz.isAgg9 rfl, checkKey_string Tryz.underlying9 _ _ _ _⟩, (fun _ h => by cases h)⟩)⟩)⟩, (List.forall_mem_cons.2 ⟨fun _ => ⟨.string k.Who, part_one Tryz.isAgg9 rfl, checkKey_string Tryz.underlying9 _ _ _ _⟩, (List.forall_mem_cons.2 ⟨fun _ => ⟨.agg (encRole k.B).toArray, part_agg Tryz.isAgg47 Tryz.sizeOf47 rfl, checkKey_struct Tryz.underlying47 rfl (List.forall_mem_cons.2 ⟨fun _ => ⟨.string k.B.Owner, part_one Tryz.isAgg9 rfl, checkKey_string Tryz.underlying9 _ _ _ _⟩, (List.forall_mem_cons.2 ⟨fun _ => ⟨.string k.B.Word, part_one Tryz.isAgg9 rfl, checkKey_string Tryz.underlying9 _ _ _ _⟩, (fun _ h => by cases h)⟩)⟩)⟩, (List.forall_mem_cons.2 ⟨fun _ => ⟨.agg (encRole k.C).toArray, part_agg Tryz.isAgg47 Tryz.sizeOf47 rfl, checkKey_struct Tryz.underlying47 rfl (List.forall_mem_cons.2 ⟨fun _ => ⟨.string k.C.Owner, part_one Tryz.isAgg9 rfl, checkKey_string Tryz.underlying9 _ _ _ _⟩, (List.forall_mem_cons.2 ⟨fun _ => ⟨.string k.C.Word, part_one Tryz.isAgg9 rfl, checkKey_string Tryz.underlying9 _ _ _ _⟩, (fun _ h => by cases h)⟩)⟩)⟩, (List.forall_mem_cons.2 ⟨fun _ => ⟨.string k.Word2, part_one Tryz.isAgg9 rfl, checkKey_string Tryz.underlying9 _ _ _ _⟩, (fun _ h => by cases h)⟩)⟩)⟩)⟩)⟩)⟩))
    (fun k x h => (beqCred_iff.1 h).symm) (fun k => by simp [Instr.sameBits, encCred, bytes_beq, beqS_iff])

theorem w_slices_Clone_Cred (v_a0 : Value) (a0 : List Cred) (r : List Cred) (w : World) (h_a0 : Sl (Pl encCred) 9 (hp w) v_a0 a0) (hm : m_slices_Clone_Cred a0 = some r) :
    GivesRow Tryz.prog 81 [v_a0] w 83 encCred 9 r := by
  have hST := ST.start w
  unfold m_slices_Clone_Cred at hm
  refine calls_of_CW (n := 8) Tryz.func81 rfl rfl (Nat.le_of_ble_eq_true rfl) ?_
  refine CW_seq ?_
  refine CW_region ?_
  refine LW_v (.inl rfl) rfl (by decide) (R_assign (v := (.slice none 0 0)) rfl) ?_
  refine LW_nil ?_
  refine sq_n ?_
  refine CW_seq ?_
  refine CW_seq ?_
  refine CW_region ?_
  refine LW_v (.inl rfl) rfl (by decide) (R_move (v := v_a0) rfl) ?_
  obtain ⟨A1, c2, rfl⟩ := h_a0.form
  refine LW_v (.inl rfl) rfl (by decide) (R_slEqNil Tryz.underlying22 rfl rfl) ?_
  refine LW_nil ?_
  refine sq_n ?_
  rcases A1 with _ | A5
  · have hn4 := h_a0.isNil
    replace hm : some [] = some r := by rw [hn4] at hm; simpa [appB, maxLen] using hm
    refine CW_if_true (rfl) ?_
    refine CW_seq ?_
    refine CW_region ?_
    refine LW_v (.inl rfl) rfl (by decide) (R_assign (v := (.slice none 0 0)) rfl) ?_
    refine LW_nil ?_
    refine sq_n ?_
    refine CW_ret ?_
    refine sq_r ?_
    replace hm := Option.some.inj hm; subst hm
    refine retQ_1 (v := (.slice none 0 0)) rfl rfl ?_
    exact ⟨_, [], rfl, hST.backRow (fun p hq => by cases hq) (by simp), Row.nil _ _ _⟩
  · refine CW_if_false (rfl) ?_
    refine CW_skip ?_
    refine sq_n ?_
    refine CW_seq ?_
    refine CW_region ?_
    refine LW_e (.inl rfl) rfl (by decide) (E_buildSlice (qs := #[]) (cs := #[]) hST parts0 (run_lit [] Tryz.underlying22 Tryz.sizeOf83 Tryz.zeroValue83 (by decide) rfl (by simp) rfl rfl) (fun W7 b6 hST => ?_))
    refine LW_v (.inl rfl) rfl (by decide) (R_move (v := (.slice (some A5) a0.length c2)) rfl) ?_
    obtain ⟨l8, hb9, hm⟩ := bind_some hm
    replace hST := hST.perm (List.Perm.append_left [] (List.perm_middle (l₁ := [])).symm)
    refine LW_e (.inl rfl) rfl (by decide) (E_append (enc := encCred) (v := (.slice (some ⟨b6, 0, none⟩) 0 0)) (vs := (.slice (some A5) a0.length c2)) (R := [(b6, Obj.cells (#[] : Array Value) 83 (0, 0))]) [] hST lenCred (by decide) oneCred Tryz.underlying22 info83.1 info83.2.1 rfl info83.2.2.1 info83.2.2.2 rfl rfl (Row.lit (l := []) (enc := encCred) rfl (by decide) rfl rfl) (h_a0.mono (Pl.mono _) hST.sub_hp) hb9 (fun W10 v13 R11 hST hR12 => ?_))
    refine LW_v (.inl rfl) rfl (by decide) (R_assign (v := v13) rfl) ?_
    refine LW_nil ?_
    refine sq_n ?_
    refine CW_ret ?_
    replace hm := Option.some.inj hm; subst hm
    refine retQ_1 (v := v13) rfl rfl ?_
    exact ⟨_, R11, rfl, hST.backRow (fun p hq => by simp [hq]) hR12.nd, hR12⟩

theorem w_slices_IndexFunc_Cred (v_a0 : Value) (a0 : List Cred) (v_a1 : Value) (f1 : Cred → Option Bool) (r : Int) (w : World) (h_a0 : Sl (Pl encCred) 9 (hp w) v_a0 a0) (h_a1 : CbOk Tryz.prog v_a1 (hp w) (fun (x : Cred) => [(.agg (encCred x).toArray)]) (fun (r : Bool) => (.bool r)) f1) (hm : m_slices_IndexFunc_Cred a0 f1 = some r) :
    Gives Tryz.prog 137 [v_a0, v_a1] w (.int .i64 r) := by
  have hST := ST.start w
  unfold m_slices_IndexFunc_Cred at hm
  refine calls_of_CW (n := 19) Tryz.func137 rfl rfl (Nat.le_of_ble_eq_true rfl) ?_
  refine CW_seq ?_
  refine CW_region ?_
  refine LW_v (.inl rfl) rfl (by decide) (R_assign (v := (.int .i64 0)) rfl) ?_
  refine LW_nil ?_
  refine sq_n ?_
  refine CW_seq ?_
  refine CW_seq ?_
  refine CW_region ?_
  refine LW_v (.inl rfl) rfl (by decide) (R_move (v := v_a0) rfl) ?_
  refine LW_v (.inl rfl) rfl (by decide) (R_len Tryz.underlying22 rfl h_a0) ?_
  refine LW_v (.inl rfl) rfl (by decide) (R_move (v := (.int .i64 0)) rfl) ?_
  refine LW_nil ?_
  refine sq_n ?_
  refine CW_range (fun i E W => ∃  (L58 : List (Nat × Obj)), (E 8 = .int .i64 (i : Nat) ∧ E 7 = .int .i64 (a0.length : Nat)) ∧ ST NoF w W (hp w) L58 ∧ E 0 = v_a0 ∧ E 1 = v_a1 ∧ m_slices_IndexFunc_Cred_L1 f1 (a0.drop i) i = some r) a0.length h_a0.len ⟨_, ⟨rfl, rfl⟩, (hST.sublist (List.Sublist.refl _)), rfl, rfl, hm⟩ (by decide) (by decide) (by decide) (fun _ _ _ h => by obtain ⟨_, eIN, _⟩ := h; exact eIN) ?_ ?_
  · rintro i35 E W hi41 ⟨L58, ⟨eI, eN⟩, hST, e60, e61, hm59⟩
    obtain ⟨x36, xs37, hx39, hx38, hx40⟩ := drop_cons hi41
    rw [hx39] at hm59
    rw [m_slices_IndexFunc_Cred_L1] at hm59
    refine CW_block ?_
    refine CW_seq ?_
    refine CW_region ?_
    refine LW_v (.inl rfl) rfl (by decide) (R_move (v := (.int .i64 ((i35 : Int)))) eI) ?_
    refine LW_v (.inl rfl) rfl (by decide) (R_assign (v := (.int .i64 ((i35 : Int)))) rfl) ?_
    refine LW_nil ?_
    refine sq_n ?_
    refine CW_seq ?_
    refine CW_region ?_
    refine LW_v (.inl rfl) rfl (by decide) (R_move (v := v_a1) e61) ?_
    refine LW_v (.inl rfl) rfl (by decide) (R_move (v := v_a0) e60) ?_
    refine LW_v (.inl rfl) rfl (by decide) (R_move (v := (.int .i64 ((i35 : Int)))) rfl) ?_
    refine LW_q (.inl rfl) rfl (by decide) (R_indexP (enc := encCred) (i := (i35 : Int)) (x0 := x36) Tryz.underlying22 Tryz.sizeOf83 rfl rfl h_a0 (Int.natCast_nonneg _) hx38) (fun p62 hp63 => ?_)
    refine LW_v (.inl rfl) rfl (by decide) (R_load rfl (load_atA hST.has hp63 Tryz.isAgg83 Tryz.sizeOf83)) ?_
    obtain ⟨r65, hr66, hm59⟩ := bind_some hm59
    refine LW_e (.inl rfl) rfl (by decide) (E_cb x36 hST h_a1 (Sub.refl _) rfl (args1 rfl) hr66 (fun W67 hST => ?_))
    refine LW_nil ?_
    refine sq_n ?_
    refine CW_if (b := r65) rfl (fun hb68 => ?_) (fun hb68 => ?_)
    · replace hm59 := if_t hb68 hm59
      refine CW_seq ?_
      refine CW_region ?_
      refine LW_v (.inl rfl) rfl (by decide) (R_move (v := (.int .i64 ((i35 : Int)))) rfl) ?_
      refine LW_v (.inl rfl) rfl (by decide) (R_assign (v := (.int .i64 ((i35 : Int)))) rfl) ?_
      refine LW_nil ?_
      refine sq_n ?_
      refine CW_ret ?_
      refine bq_r (sq_r (bq_r (sq_r ?_)))
      replace hm59 := Option.some.inj hm59; subst hm59
      refine retQ_1 (v := (.int .i64 ((i35 : Int)))) rfl rfl ?_
      exact ⟨rfl, hST.ex⟩
    · replace hm59 := if_f hb68 hm59
      refine CW_skip ?_
      refine bq_n ?_
      refine sq_n ?_
      exact ⟨eI, _, ⟨rfl, eN⟩, (hST.sublist (List.Sublist.refl _)), e60, e61, (by rw [hx40]; exact hm59)⟩
  · rintro E W ⟨L58, ⟨eI, eN⟩, hST, e60, e61, hm59⟩
    rw [List.drop_length] at hm59
    rw [m_slices_IndexFunc_Cred_L1] at hm59
    refine sq_n ?_
    refine CW_seq ?_
    refine CW_region ?_
    refine LW_v (.inl rfl) rfl (by decide) (R_assign (v := (.int .i64 ((-1)))) rfl) ?_
    refine LW_nil ?_
    refine sq_n ?_
    refine CW_ret ?_
    replace hm59 := Option.some.inj hm59; subst hm59
    refine retQ_1 (v := (.int .i64 ((-1)))) rfl rfl ?_
    exact ⟨rfl, hST.ex⟩

theorem w_slices_DeleteFunc_Cred (v_a0 : Value) (a0 : List Cred) (R_a0 : List (Nat × Obj)) (v_a1 : Value) (f1 : Cred → Option Bool) (r : List Cred) (w : World) {μ0 : Mem} (hH : Held (R_a0 ++ []) w) (hN : (((R_a0 ++ []) : List (Nat × Obj)).map (·.1)).Nodup) (hS0 : Sub μ0 (hpx w (R_a0 ++ []))) (h_a0 : Row 83 encCred 9 v_a0 a0 R_a0) (h_a1 : CbOk Tryz.prog v_a1 μ0 (fun (x : Cred) => [(.agg (encCred x).toArray)]) (fun (r : Bool) => (.bool r)) f1) (hm : m_slices_DeleteFunc_Cred a0 f1 = some r) :
    GivesM Tryz.prog 80 [v_a0, v_a1] w (R_a0 ++ []) (fun v L1 W' => ∃ (y1 : Value) (S2 : List (Nat × Obj)), v = y1 ∧ L1 = (S2 ++ []) ∧ Row 83 encCred 9 y1 r S2) := by
  have hST := (ST.startM hH hN).weak hS0
  unfold m_slices_DeleteFunc_Cred at hm
  refine calls_of_CW (n := 42) Tryz.func80 rfl rfl (Nat.le_of_ble_eq_true rfl) ?_
  refine CW_seq ?_
  refine CW_region ?_
  refine LW_v (.inl rfl) rfl (by decide) (R_assign (v := (.slice none 0 0)) rfl) ?_
  refine LW_nil ?_
  refine sq_n ?_
  refine CW_seq ?_
  refine CW_region ?_
  refine LW_v (.inl rfl) rfl (by decide) (R_move (v := v_a0) rfl) ?_
  refine LW_v (.inl rfl) rfl (by decide) (R_move (v := v_a1) rfl) ?_
  obtain ⟨r1, hr2, hm⟩ := bind_some hm
  replace hST : ST (keys (R_a0 ++ [])) w _ _ (R_a0 ++ []) := hST
  have hsz := hST.size
  refine LW_e (.inl rfl) rfl (by decide) (E_gives (args := [v_a0, v_a1]) hST rfl Tryz.call137 (by exact args2 rfl rfl) (w_slices_IndexFunc_Cred v_a0 a0 v_a1 f1 _ _ (h_a0.sl lenCred (fun b o hq => hST.at_ (List.mem_append_left _ hq))) (h_a1.mono hST.sub_hp) hr2) (fun W3 hST => ?_))
  refine LW_v (.inl rfl) rfl (by decide) (R_assign (v := (.int .i64 r1)) rfl) ?_
  refine LW_nil ?_
  refine sq_n ?_
  refine CW_seq ?_
  refine CW_seq ?_
  refine CW_region ?_
  refine LW_v (.inl rfl) rfl (by decide) (R_move (v := (.int .i64 r1)) rfl) ?_
  refine LW_v (.inl rfl) rfl (by decide) (R_int (k := .i64) (a := r1) (b := ((-1))) (v := (.bool ((r1 == ((-1)))))) rfl rfl rfl) ?_
  refine LW_nil ?_
  refine sq_n ?_
  refine CW_if (b := (r1 == ((-1)))) rfl (fun hb4 => ?_) (fun hb4 => ?_)
  · replace hm := if_t hb4 hm
    refine CW_seq ?_
    refine CW_region ?_
    refine LW_v (.inl rfl) rfl (by decide) (R_move (v := v_a0) rfl) ?_
    refine LW_v (.inl rfl) rfl (by decide) (R_assign (v := v_a0) rfl) ?_
    refine LW_nil ?_
    refine sq_n ?_
    refine CW_ret ?_
    refine sq_r ?_
    replace hm := Option.some.inj hm; subst hm
    refine retQ_1 (v := v_a0) rfl rfl ?_
    replace hST : ST (keys (R_a0 ++ [])) w _ _ (R_a0 ++ []) := hST
    exact ⟨_, (R_a0 ++ []), rfl, (ST.backM (L1 := (R_a0 ++ [])) (by have hh : ST (keys (R_a0 ++ [])) w _ _ (R_a0 ++ []) := hST.perm (List.Perm.refl _); simpa only [List.append_assoc, List.cons_append, List.nil_append] using hh)), v_a0, R_a0, rfl, rfl, h_a0⟩
  · replace hm := if_f hb4 hm
    refine CW_skip ?_
    refine sq_n ?_
    refine CW_seq ?_
    refine CW_seq ?_
    refine CW_region ?_
    refine LW_v (.inl rfl) rfl (by decide) (R_move (v := (.int .i64 r1)) rfl) ?_
    refine LW_v (.inl rfl) rfl (by decide) (R_int (k := .i64) (a := r1) (b := 1) (v := (.int .i64 ((IntKind.i64.wrap (r1 + 1))))) rfl rfl rfl) ?_
    refine LW_v (.inl rfl) rfl (by decide) (R_assign (v := (.int .i64 ((IntKind.i64.wrap (r1 + 1))))) rfl) ?_
    refine LW_nil ?_
    refine sq_n ?_
    refine CW_block (CW_loop (fun m E W => ∃ (l249 : List Cred) (R251 : List (Nat × Obj)) (x252 : Int) (x253 : Int) (L319 : List (Nat × Obj)), ST (keys (R_a0 ++ [])) w W μ0 (R251 ++ L319) ∧ E 0 = v_a0 ∧ E 1 = v_a1 ∧ E 5 = (.int .i64 x252) ∧ E 6 = (.int .i64 x253) ∧ Row 83 encCred 9 v_a0 l249 R251 ∧ m_slices_DeleteFunc_Cred_L1 f1 m l249 x252 x253 = some r) FUEL ⟨a0, R_a0, r1, ((IntKind.i64.wrap (r1 + 1))), _, (hST.sublist (List.Sublist.refl _)), rfl, rfl, rfl, rfl, h_a0, hm⟩ ?_)
    rintro m E W ⟨l249, R251, x252, x253, L319, hST, e322, e323, e324, e325, hs250, hm320⟩
    cases m with
    | zero => rw [m_slices_DeleteFunc_Cred_L1] at hm320; cases hm320
    | succ n321 =>
      rw [m_slices_DeleteFunc_Cred_L1] at hm320
      refine CW_seq ?_
      refine CW_seq ?_
      refine CW_region ?_
      refine LW_v (.inl rfl) rfl (by decide) (R_move (v := (.int .i64 x253)) e325) ?_
      refine LW_v (.inl rfl) rfl (by decide) (R_move (v := v_a0) e322) ?_
      refine LW_v (.inl rfl) rfl (by decide) (R_lenRow Tryz.underlying22 rfl hs250) ?_
      refine LW_v (.inl rfl) rfl (by decide) (R_int (k := .i64) (a := x253) (b := ((l249.length : Int))) (v := (.bool ((decide (x253 < ((l249.length : Int))))))) rfl rfl rfl) ?_
      refine LW_nil ?_
      refine sq_n ?_
      refine CW_if (b := (decide (x253 < ((l249.length : Int))))) rfl (fun hb326 => ?_) (fun hb326 => ?_)
      · replace hm320 := if_t hb326 hm320
        refine CW_skip ?_
        refine sq_n ?_
        refine CW_seq ?_
        obtain ⟨s358, hm359, hm360⟩ := bind_some hm320
        refine CW_cut (fun E W => ∃ (l348 : List Cred) (R350 : List (Nat × Obj)) (x351 : Int) (L352 : List (Nat × Obj)), ST (keys (R_a0 ++ [])) w W μ0 (R350 ++ L352) ∧ E 0 = v_a0 ∧ E 1 = v_a1 ∧ E 5 = (.int .i64 x351) ∧ E 6 = (.int .i64 x253) ∧ Row 83 encCred 9 v_a0 l348 R350 ∧ (m_slices_DeleteFunc_Cred_L1 f1 n321 l348 x351 ((IntKind.i64.wrap (x253 + 1)))) = some r) ?_ ?_
        · refine CW_block ?_
          refine CW_seq ?_
          refine CW_region ?_
          refine LW_v (.inl rfl) rfl (by decide) (R_move (v := v_a0) e322) ?_
          refine LW_v (.inl rfl) rfl (by decide) (R_move (v := (.int .i64 x253)) e325) ?_
          obtain ⟨x364, hx365, hm359⟩ := bind_some hm359
          refine LW_q (.inl rfl) rfl (by decide) (R_indexRow (i := x253) (x0 := x364) Tryz.underlying22 Tryz.sizeOf83 rfl rfl hs250 (idx_nonneg hx365) (idx_get hx365)) (fun p361 hp362 => ?_)
          refine LW_v (.inl rfl) rfl (by decide) (R_load (v := (.agg (encCred x364).toArray)) rfl (load_ixA hST.has (fun p hq => by simp [hq]) hs250 lenCred hp362 (idx_get hx365) Tryz.isAgg83 Tryz.sizeOf83)) ?_
          refine LW_e (.inl rfl) rfl (by decide) (E_alloc hST Tryz.zeroValue83 (fun W367 b366 hST => ?_))
          refine LW_e0 (.inl rfl) rfl (E_store [] (.agg (encCred x364).toArray) ((encCred x364).toArray) hST rfl rfl Tryz.sizeOf83 (oneCred x364) (Nat.le_of_ble_eq_true rfl) rfl (fun W368 hST => ?_))
          refine LW_nil ?_
          refine sq_n ?_
          refine CW_seq ?_
          refine CW_region ?_
          refine LW_v (.inl rfl) rfl (by decide) (R_move (v := v_a1) e323) ?_
          refine LW_v (.inl rfl) rfl (by decide) (R_load (v := (.agg (encCred x364).toArray)) rfl (load_boxA hST.has (.head _) (encCred x364) rfl Tryz.isAgg83 Tryz.sizeOf83)) ?_
          obtain ⟨r369, hr370, hm359⟩ := bind_some hm359
          refine LW_e (.inl rfl) rfl (by decide) (E_cb x364 hST h_a1 (Sub.refl _) rfl (args1 rfl) hr370 (fun W371 hST => ?_))
          refine LW_v (.inl rfl) rfl (by decide) (R_not (b := r369) rfl) ?_
          refine LW_nil ?_
          refine sq_n ?_
          refine CW_if (b := (!r369)) rfl (fun hb372 => ?_) (fun hb372 => ?_)
          · replace hm359 := if_t hb372 hm359
            refine CW_seq ?_
            refine CW_region ?_
            refine LW_v (.inl rfl) rfl (by decide) (R_move (v := v_a0) e322) ?_
            refine LW_v (.inl rfl) rfl (by decide) (R_move (v := (.int .i64 x252)) e324) ?_
            refine LW_v (.inl rfl) rfl (by decide) (R_load (v := (.agg (encCred x364).toArray)) rfl (load_boxA hST.has (.head _) (encCred x364) rfl Tryz.isAgg83 Tryz.sizeOf83)) ?_
            obtain ⟨x376, hx377, hm359⟩ := bind_some hm359
            refine LW_q (.inl rfl) rfl (by decide) (R_indexRow (i := x252) (x0 := x376) Tryz.underlying22 Tryz.sizeOf83 rfl rfl hs250 (idx_nonneg hx377) (idx_get hx377)) (fun p373 hp374 => ?_)
            refine LW_e0 (.inl rfl) rfl (E_storeRow (u := (.agg (encCred x364).toArray)) (x1 := x364) [_] hST hs250 lenCred oneCred rfl rfl rfl hp374 (idx_get hx377) Tryz.sizeOf83 (fun W378 R379 hST hR380 => ?_))
            refine LW_nil ?_
            refine sq_n ?_
            replace hST : ST (keys (R_a0 ++ [])) w _ _ ((b366, Obj.cells ((encCred x364).toArray : Array Value) 83 (0, 0)) :: (R379 ++ L319)) := hST
            replace hST : ST (keys (R_a0 ++ [])) w _ _ (R379 ++ L319) := hST.sublist (List.Sublist.cons _ (List.Sublist.refl _))
            refine CW_region ?_
            refine LW_v (.inl rfl) rfl (by decide) (R_move (v := (.int .i64 x252)) e324) ?_
            refine LW_v (.inl rfl) rfl (by decide) (R_int (k := .i64) (a := x252) (b := 1) (v := (.int .i64 ((IntKind.i64.wrap (x252 + 1))))) rfl rfl rfl) ?_
            refine LW_v (.inl rfl) rfl (by decide) (R_assign (v := (.int .i64 ((IntKind.i64.wrap (x252 + 1))))) rfl) ?_
            refine LW_nil ?_
            refine bq_n ?_
            refine sq_n ?_
            replace hm359 := Option.some.inj hm359; subst hm359
            exact ⟨((l249.set (Int.toNat x252) x364)), R379, ((IntKind.i64.wrap (x252 + 1))), _, (hST.sublist (List.Sublist.refl _)), e322, e323, rfl, e325, hR380, hm360⟩
          · replace hm359 := if_f hb372 hm359
            refine CW_skip ?_
            refine bq_n ?_
            refine sq_n ?_
            replace hm359 := Option.some.inj hm359; subst hm359
            exact ⟨l249, R251, x252, _, (hST.sublist (List.Sublist.cons _ (List.Sublist.refl _))), e322, e323, e324, e325, hs250, hm360⟩
        · rintro E W ⟨l348, R350, x351, L352, hST, e354, e355, e356, e357, hs349, hm353⟩
          refine CW_region ?_
          refine LW_v (.inl rfl) rfl (by decide) (R_move (v := (.int .i64 x253)) e357) ?_
          refine LW_v (.inl rfl) rfl (by decide) (R_int (k := .i64) (a := x253) (b := 1) (v := (.int .i64 ((IntKind.i64.wrap (x253 + 1))))) rfl rfl rfl) ?_
          refine LW_v (.inl rfl) rfl (by decide) (R_assign (v := (.int .i64 ((IntKind.i64.wrap (x253 + 1))))) rfl) ?_
          refine LW_nil ?_
          refine sq_n ?_
          exact ⟨n321, Nat.lt_succ_self _, l348, R350, x351, ((IntKind.i64.wrap (x253 + 1))), _, (hST.sublist (List.Sublist.refl _)), e354, e355, e356, rfl, hs349, hm353⟩
      · replace hm320 := if_f hb326 hm320
        refine CW_exit ?_
        refine sq_e (sq_e (bq_e ?_))
        refine sq_n ?_
        refine CW_seq ?_
        refine CW_region ?_
        refine LW_v (.inl rfl) rfl (by decide) (R_move (v := v_a0) e322) ?_
        refine LW_v (.inl rfl) rfl (by decide) (R_move (v := (.int .i64 x252)) e324) ?_
        obtain ⟨_, hg383, hm320⟩ := bind_some hm320
        refine LW_q (.inl rfl) rfl (by decide) (R_sliceTail (i := x252) Tryz.underlying22 Tryz.sizeOf83 rfl rfl hs250 (chk_1 hg383) (chk_2 hg383)) (fun v381 hs382 => ?_)
        refine LW_e0 (.inl rfl) rfl (E_clearTail (z := (⟨0, (⟨zS, zS⟩ : Role), zS, (⟨zS, zS⟩ : Role), (⟨zS, zS⟩ : Role), zS⟩ : Cred)) [] hST hs250 lenCred oneCred Tryz.underlying22 Tryz.zeroValue83 hs382 rfl rfl (fun W384 R385 hST hR386 => ?_))
        refine LW_nil ?_
        refine sq_n ?_
        refine CW_seq ?_
        refine CW_region ?_
        refine LW_v (.inl rfl) rfl (by decide) (R_move (v := v_a0) e322) ?_
        refine LW_v (.inl rfl) rfl (by decide) (R_move (v := (.int .i64 x252)) e324) ?_
        obtain ⟨_, hg389, hm320⟩ := bind_some hm320
        refine LW_q (.inl rfl) rfl (by decide) (R_sliceTo (i := x252) Tryz.underlying22 Tryz.sizeOf83 rfl rfl hR386 lenCred (chk_1 hg389) (chk_2 hg389)) (fun v387 hs388 => ?_)
        refine LW_v (.inl rfl) rfl (by decide) (R_assign (v := v387) rfl) ?_
        refine LW_nil ?_
        refine sq_n ?_
        refine CW_ret ?_
        replace hm320 := Option.some.inj hm320; subst hm320
        refine retQ_1 (v := v387) rfl rfl ?_
        replace hST : ST (keys (R_a0 ++ [])) w _ _ (R385 ++ L319) := hST
        exact ⟨_, (R385 ++ []), rfl, (ST.backM (L1 := (R385 ++ [])) (by have hh : ST (keys (R_a0 ++ [])) w _ _ (R385 ++ L319) := hST.perm (List.Perm.refl _); simpa only [List.append_assoc, List.cons_append, List.nil_append] using hh)), v387, R385, rfl, rfl, hs388⟩

theorem ext244 (w : World) (s : ByteArray) (c : Int) : (callFunc 244 [Value.string s, .int .u8 c].toArray).run Tryz.prog w = .ok (.value (.int .i64 (xIndexByte s c))) w := run_indexByteS Tryz.func244 (by kernel_rfl) (by kernel_rfl) (by kernel_rfl) (by kernel_rfl) s c w

theorem w_internal_stringslite_IndexByte (a0 : ByteArray) (a1 : Int) (r : Int) (w : World)  (hm : m_internal_stringslite_IndexByte a0 a1 = some r) :
    Gives Tryz.prog 215 [(.string a0), (.int .u8 a1)] w (.int .i64 r) := by
  have hST := ST.start w
  unfold m_internal_stringslite_IndexByte at hm
  refine calls_of_CW (n := 8) Tryz.func215 rfl rfl (Nat.le_of_ble_eq_true rfl) ?_
  refine CW_seq ?_
  refine CW_region ?_
  refine LW_v (.inl rfl) rfl (by decide) (R_assign (v := (.int .i64 0)) rfl) ?_
  refine LW_nil ?_
  refine sq_n ?_
  refine CW_seq ?_
  refine CW_region ?_
  refine LW_v (.inl rfl) rfl (by decide) (R_move (v := (.string a0)) rfl) ?_
  refine LW_v (.inl rfl) rfl (by decide) (R_move (v := (.int .u8 a1)) rfl) ?_
  refine LW_e (.inl rfl) rfl (by decide) (E_ext (args := [(.string a0), (.int .u8 a1)]) (v := .int .i64 (xIndexByte a0 a1)) rfl (by exact args2 rfl rfl) (ext244 _ a0 a1) ?_)
  refine LW_v (.inl rfl) rfl (by decide) (R_assign (v := (.int .i64 ((xIndexByte a0 a1)))) rfl) ?_
  refine LW_nil ?_
  refine sq_n ?_
  refine CW_ret ?_
  replace hm := Option.some.inj hm; subst hm
  refine retQ_1 (v := (.int .i64 ((xIndexByte a0 a1)))) rfl rfl ?_
  exact ⟨rfl, hST.ex⟩

theorem w_strings_IndexByte (a0 : ByteArray) (a1 : Int) (r : Int) (w : World)  (hm : m_strings_IndexByte a0 a1 = some r) :
    Gives Tryz.prog 169 [(.string a0), (.int .u8 a1)] w (.int .i64 r) := by
  have hST := ST.start w
  unfold m_strings_IndexByte at hm
  refine calls_of_CW (n := 8) Tryz.func169 rfl rfl (Nat.le_of_ble_eq_true rfl) ?_
  refine CW_seq ?_
  refine CW_region ?_
  refine LW_v (.inl rfl) rfl (by decide) (R_assign (v := (.int .i64 0)) rfl) ?_
  refine LW_nil ?_
  refine sq_n ?_
  refine CW_seq ?_
  refine CW_region ?_
  refine LW_v (.inl rfl) rfl (by decide) (R_move (v := (.string a0)) rfl) ?_
  refine LW_v (.inl rfl) rfl (by decide) (R_move (v := (.int .u8 a1)) rfl) ?_
  obtain ⟨r1, hr2, hm⟩ := bind_some hm
  replace hST : ST NoF w _ _ [] := hST
  have hsz := hST.size
  refine LW_e (.inl rfl) rfl (by decide) (E_gives (args := [(.string a0), (.int .u8 a1)]) hST rfl Tryz.call215 (by exact args2 rfl rfl) (w_internal_stringslite_IndexByte a0 a1 _ _  hr2) (fun W3 hST => ?_))
  refine LW_v (.inl rfl) rfl (by decide) (R_assign (v := (.int .i64 r1)) rfl) ?_
  refine LW_nil ?_
  refine sq_n ?_
  refine CW_ret ?_
  replace hm := Option.some.inj hm; subst hm
  refine retQ_1 (v := (.int .i64 r1)) rfl rfl ?_
  exact ⟨rfl, hST.ex⟩

theorem w_name_only (a0 : ByteArray) (r : Bool) (w : World)  (hm : m_name_only a0 = some r) :
    Gives Tryz.prog 170 [(.string a0)] w (.bool r) := by
  have hST := ST.start w
  unfold m_name_only at hm
  refine calls_of_CW (n := 16) Tryz.func170 rfl rfl (Nat.le_of_ble_eq_true rfl) ?_
  refine CW_seq ?_
  refine CW_region ?_
  refine LW_v (.inl rfl) rfl (by decide) (R_assign (v := (.bool false)) rfl) ?_
  refine LW_nil ?_
  refine sq_n ?_
  refine CW_seq ?_
  refine CW_seq ?_
  refine CW_region ?_
  refine LW_v (.inl rfl) rfl (by decide) (R_move (v := (.string a0)) rfl) ?_
  obtain ⟨l1, hr2, hm⟩ := bind_some hm
  refine LW_e (.inl rfl) rfl (by decide) (E_bytesOf hST Tryz.underlying9 Tryz.underlying189 Tryz.underlying5 rfl hr2 (fun W3 v4 μ5 hST hle6 hs7 hf8 => ?_))
  refine LW_v (.inl rfl) rfl (by decide) (R_len Tryz.underlying189 rfl hs7) ?_
  refine LW_v (.inl rfl) rfl (by decide) (R_move (v := (.int .i64 0)) rfl) ?_
  refine LW_nil ?_
  refine sq_n ?_
  refine CW_range (fun i E W => ∃  (L63 : List (Nat × Obj)), (E 8 = .int .i64 (i : Nat) ∧ E 7 = .int .i64 (l1.length : Nat)) ∧ ST NoF w W μ5 L63 ∧ E 6 = v4 ∧ m_name_only_L1 (l1.drop i) = some r) l1.length hs7.len ⟨_, ⟨rfl, rfl⟩, (hST.sublist (List.Sublist.refl _)), rfl, hm⟩ (by decide) (by decide) (by decide) (fun _ _ _ h => by obtain ⟨_, eIN, _⟩ := h; exact eIN) ?_ ?_
  · rintro i41 E W hi47 ⟨L63, ⟨eI, eN⟩, hST, e65, hm64⟩
    obtain ⟨x42, xs43, hx45, hx44, hx46⟩ := drop_cons hi47
    rw [hx45] at hm64
    rw [m_name_only_L1] at hm64
    refine CW_block ?_
    refine CW_seq ?_
    refine CW_region ?_
    refine LW_q (.inl rfl) rfl (by decide) (R_indexP (enc := (encI .u8)) (i := (i41 : Int)) (x0 := x42) Tryz.underlying189 Tryz.sizeOf5 e65 eI hs7 (Int.natCast_nonneg _) hx44) (fun p66 hp67 => ?_)
    refine LW_v (.inl rfl) rfl (by decide) (R_load rfl (load_at1 hST.has (y := (.int .u8 x42)) hp67 Tryz.isAgg5)) ?_
    refine LW_v (.inl rfl) rfl (by decide) (R_assign (v := (.int .u8 x42)) rfl) ?_
    refine LW_nil ?_
    refine sq_n ?_
    refine CW_seq ?_
    refine CW_region ?_
    refine LW_v (.inl rfl) rfl (by decide) (R_move (v := (.int .u8 x42)) rfl) ?_
    obtain ⟨r69, hr70, hm64⟩ := bind_some hm64
    replace hST : ST NoF w _ _ L63 := hST
    have hsz := hST.size
    refine LW_e (.inl rfl) rfl (by decide) (E_gives (args := [(.string ((⟨#[97, 98, 99, 100, 101, 102, 103, 104, 105, 106, 107, 108, 109, 110, 111, 112, 113, 114, 115, 116, 117, 118, 119, 120, 121, 122, 48, 49, 50, 51, 52, 53, 54, 55, 56, 57, 45]⟩ : ByteArray))), (.int .u8 x42)]) hST rfl Tryz.call169 (by exact args2 rfl rfl) (w_strings_IndexByte ((⟨#[97, 98, 99, 100, 101, 102, 103, 104, 105, 106, 107, 108, 109, 110, 111, 112, 113, 114, 115, 116, 117, 118, 119, 120, 121, 122, 48, 49, 50, 51, 52, 53, 54, 55, 56, 57, 45]⟩ : ByteArray)) x42 _ _  hr70) (fun W71 hST => ?_))
    refine LW_v (.inl rfl) rfl (by decide) (R_int (k := .i64) (a := r69) (b := 0) (v := (.bool ((decide (r69 < 0))))) rfl rfl rfl) ?_
    refine LW_nil ?_
    refine sq_n ?_
    refine CW_if (b := (decide (r69 < 0))) rfl (fun hb72 => ?_) (fun hb72 => ?_)
    · replace hm64 := if_t hb72 hm64
      refine CW_seq ?_
      refine CW_region ?_
      refine LW_v (.inl rfl) rfl (by decide) (R_assign (v := (.bool false)) rfl) ?_
      refine LW_nil ?_
      refine sq_n ?_
      refine CW_ret ?_
      refine bq_r (sq_r (bq_r (sq_r ?_)))
      replace hm64 := Option.some.inj hm64; subst hm64
      refine retQ_1 (v := (.bool false)) rfl rfl ?_
      exact ⟨rfl, hST.ex⟩
    · replace hm64 := if_f hb72 hm64
      refine CW_skip ?_
      refine bq_n ?_
      refine sq_n ?_
      exact ⟨eI, _, ⟨rfl, eN⟩, (hST.sublist (List.Sublist.refl _)), e65, (by rw [hx46]; exact hm64)⟩
  · rintro E W ⟨L63, ⟨eI, eN⟩, hST, e65, hm64⟩
    rw [List.drop_length] at hm64
    rw [m_name_only_L1] at hm64
    refine sq_n ?_
    refine CW_seq ?_
    refine CW_region ?_
    refine LW_v (.inl rfl) rfl (by decide) (R_assign (v := (.bool true)) rfl) ?_
    refine LW_nil ?_
    refine sq_n ?_
    refine CW_ret ?_
    replace hm64 := Option.some.inj hm64; subst hm64
    refine retQ_1 (v := (.bool true)) rfl rfl ?_
    exact ⟨rfl, hST.ex⟩

theorem w_name_Right (a0 : ByteArray) (r : Bool) (w : World)  (hm : m_name_Right a0 = some r) :
    Gives Tryz.prog 134 [(.string a0)] w (.bool r) := by
  have hST := ST.start w
  unfold m_name_Right at hm
  refine calls_of_CW (n := 21) Tryz.func134 rfl rfl (Nat.le_of_ble_eq_true rfl) ?_
  refine CW_seq ?_
  refine CW_region ?_
  refine LW_v (.inl rfl) rfl (by decide) (R_assign (v := (.bool false)) rfl) ?_
  refine LW_nil ?_
  refine sq_n ?_
  refine CW_seq ?_
  obtain ⟨s16, hm17, hm18⟩ := bind_some hm
  refine CW_cut (fun E W => ∃ (x12 : Bool) (L13 : List (Nat × Obj)), ST NoF w W (hp w) L13 ∧ E 2 = (.bool x12) ∧ some x12 = some r) ?_ ?_
  · refine CW_region ?_
    refine LW_v (.inl rfl) rfl (by decide) (R_move (v := (.string a0)) rfl) ?_
    refine LW_v (.inl rfl) rfl (by decide) (R_lenStr (s := a0) Tryz.underlying9 rfl) ?_
    refine LW_v (.inl rfl) rfl (by decide) (R_int (k := .i64) (a := ((a0.size : Int))) (b := 1) (v := (.bool ((decide (((a0.size : Int)) ≥ 1))))) rfl rfl rfl) ?_
    refine LW_v (.inl rfl) rfl (by decide) (R_move (v := (.bool ((decide (((a0.size : Int)) ≥ 1))))) rfl) ?_
    rcases bool_cases ((decide (((a0.size : Int)) ≥ 1))) with hb19 | hb19
    · replace hm17 := if_t hb19 hm17
      refine LW_v (.inr ⟨3, true, 6, rfl, rfl, by decide, (congrArg Value.bool hb19)⟩) rfl (by decide) (R_move (v := (.string a0)) rfl) ?_
      refine LW_v (.inr ⟨3, true, 6, rfl, rfl, by decide, (congrArg Value.bool hb19)⟩) rfl (by decide) (R_lenStr (s := a0) Tryz.underlying9 rfl) ?_
      refine LW_v (.inr ⟨3, true, 6, rfl, rfl, by decide, (congrArg Value.bool hb19)⟩) rfl (by decide) (R_int (k := .i64) (a := ((a0.size : Int))) (b := 16) (v := (.bool ((decide (((a0.size : Int)) ≤ 16))))) rfl rfl rfl) ?_
      refine LW_v (.inl rfl) rfl (by decide) (R_pickT (v := (.bool ((decide (((a0.size : Int)) ≤ 16))))) (congrArg Value.bool hb19) rfl) ?_
      refine LW_v (.inl rfl) rfl (by decide) (R_move (v := (.bool ((decide (((a0.size : Int)) ≤ 16))))) rfl) ?_
      rcases bool_cases ((decide (((a0.size : Int)) ≤ 16))) with hb20 | hb20
      · replace hm17 := if_t hb20 hm17
        refine LW_v (.inr ⟨8, true, 11, rfl, rfl, by decide, (congrArg Value.bool hb20)⟩) rfl (by decide) (R_move (v := (.string a0)) rfl) ?_
        obtain ⟨c21, hx22, hm17⟩ := bind_some hm17
        refine LW_v (.inr ⟨8, true, 11, rfl, rfl, by decide, (congrArg Value.bool hb20)⟩) rfl (by decide) (R_indexStr (i := 0) Tryz.underlying9 rfl rfl (idxS_nonneg hx22) (idxS_get hx22)) ?_
        obtain ⟨r23, hr24, hm17⟩ := bind_some hm17
        replace hST : ST NoF w _ _ [] := hST
        have hsz := hST.size
        refine LW_e (.inr ⟨8, true, 11, rfl, rfl, by decide, (congrArg Value.bool hb20)⟩) rfl (by decide) (E_gives (args := [(.string ((⟨#[97, 98, 99, 100, 101, 102, 103, 104, 105, 106, 107, 108, 109, 110, 111, 112, 113, 114, 115, 116, 117, 118, 119, 120, 121, 122]⟩ : ByteArray))), (.int .u8 ((c21.toNat : Int)))]) hST rfl Tryz.call169 (by exact args2 rfl rfl) (w_strings_IndexByte ((⟨#[97, 98, 99, 100, 101, 102, 103, 104, 105, 106, 107, 108, 109, 110, 111, 112, 113, 114, 115, 116, 117, 118, 119, 120, 121, 122]⟩ : ByteArray)) ((c21.toNat : Int)) _ _  hr24) (fun W25 hST => ?_))
        refine LW_v (.inr ⟨8, true, 11, rfl, rfl, by decide, (congrArg Value.bool hb20)⟩) rfl (by decide) (R_int (k := .i64) (a := r23) (b := 0) (v := (.bool ((decide (r23 ≥ 0))))) rfl rfl rfl) ?_
        refine LW_v (.inl rfl) rfl (by decide) (R_pickT (v := (.bool ((decide (r23 ≥ 0))))) (congrArg Value.bool hb20) rfl) ?_
        refine LW_v (.inl rfl) rfl (by decide) (R_move (v := (.bool ((decide (r23 ≥ 0))))) rfl) ?_
        rcases bool_cases ((decide (r23 ≥ 0))) with hb26 | hb26
        · replace hm17 := if_t hb26 hm17
          refine LW_v (.inr ⟨14, true, 17, rfl, rfl, by decide, (congrArg Value.bool hb26)⟩) rfl (by decide) (R_move (v := (.string a0)) rfl) ?_
          obtain ⟨r27, hr28, hm17⟩ := bind_some hm17
          replace hST : ST NoF w _ _ [] := hST
          have hsz := hST.size
          refine LW_e (.inr ⟨14, true, 17, rfl, rfl, by decide, (congrArg Value.bool hb26)⟩) rfl (by decide) (E_gives (args := [(.string a0)]) hST rfl Tryz.call170 (by exact args1 rfl) (w_name_only a0 _ _  hr28) (fun W29 hST => ?_))
          refine LW_v (.inl rfl) rfl (by decide) (R_pickT (v := (.bool r27)) (congrArg Value.bool hb26) rfl) ?_
          refine LW_v (.inl rfl) rfl (by decide) (R_assign (v := (.bool r27)) rfl) ?_
          refine LW_nil ?_
          refine sq_n ?_
          replace hm17 := Option.some.inj hm17; subst hm17
          exact ⟨r27, _, (hST.sublist (List.Sublist.refl _)), rfl, hm18⟩
        · replace hm17 := if_f hb26 hm17
          refine LW_no rfl (by decide) rfl rfl (by decide) (congrArg Value.bool hb26) ?_
          refine LW_no rfl (by decide) rfl rfl (by decide) (congrArg Value.bool hb26) ?_
          refine LW_v (.inl rfl) rfl (by decide) (R_pickF (v := (.bool false)) (congrArg Value.bool hb26) rfl) ?_
          refine LW_v (.inl rfl) rfl (by decide) (R_assign (v := (.bool false)) rfl) ?_
          refine LW_nil ?_
          refine sq_n ?_
          replace hm17 := Option.some.inj hm17; subst hm17
          exact ⟨false, _, (hST.sublist (List.Sublist.refl _)), rfl, hm18⟩
      · replace hm17 := if_f hb20 hm17
        refine LW_no rfl (by decide) rfl rfl (by decide) (congrArg Value.bool hb20) ?_
        refine LW_no rfl (by decide) rfl rfl (by decide) (congrArg Value.bool hb20) ?_
        refine LW_no rfl (by decide) rfl rfl (by decide) (congrArg Value.bool hb20) ?_
        refine LW_no rfl (by decide) rfl rfl (by decide) (congrArg Value.bool hb20) ?_
        refine LW_v (.inl rfl) rfl (by decide) (R_pickF (v := (.bool false)) (congrArg Value.bool hb20) rfl) ?_
        refine LW_v (.inl rfl) rfl (by decide) (R_move (v := (.bool false)) rfl) ?_
        refine LW_no rfl (by decide) rfl rfl (by decide) rfl ?_
        refine LW_no rfl (by decide) rfl rfl (by decide) rfl ?_
        refine LW_v (.inl rfl) rfl (by decide) (R_pickF (v := (.bool false)) rfl rfl) ?_
        refine LW_v (.inl rfl) rfl (by decide) (R_assign (v := (.bool false)) rfl) ?_
        refine LW_nil ?_
        refine sq_n ?_
        replace hm17 := Option.some.inj hm17; subst hm17
        exact ⟨false, _, (hST.sublist (List.Sublist.refl _)), rfl, hm18⟩
    · replace hm17 := if_f hb19 hm17
      refine LW_no rfl (by decide) rfl rfl (by decide) (congrArg Value.bool hb19) ?_
      refine LW_no rfl (by decide) rfl rfl (by decide) (congrArg Value.bool hb19) ?_
      refine LW_no rfl (by decide) rfl rfl (by decide) (congrArg Value.bool hb19) ?_
      refine LW_v (.inl rfl) rfl (by decide) (R_pickF (v := (.bool false)) (congrArg Value.bool hb19) rfl) ?_
      refine LW_v (.inl rfl) rfl (by decide) (R_move (v := (.bool false)) rfl) ?_
      refine LW_no rfl (by decide) rfl rfl (by decide) rfl ?_
      refine LW_no rfl (by decide) rfl rfl (by decide) rfl ?_
      refine LW_no rfl (by decide) rfl rfl (by decide) rfl ?_
      refine LW_no rfl (by decide) rfl rfl (by decide) rfl ?_
      refine LW_v (.inl rfl) rfl (by decide) (R_pickF (v := (.bool false)) rfl rfl) ?_
      refine LW_v (.inl rfl) rfl (by decide) (R_move (v := (.bool false)) rfl) ?_
      refine LW_no rfl (by decide) rfl rfl (by decide) rfl ?_
      refine LW_no rfl (by decide) rfl rfl (by decide) rfl ?_
      refine LW_v (.inl rfl) rfl (by decide) (R_pickF (v := (.bool false)) rfl rfl) ?_
      refine LW_v (.inl rfl) rfl (by decide) (R_assign (v := (.bool false)) rfl) ?_
      refine LW_nil ?_
      refine sq_n ?_
      replace hm17 := Option.some.inj hm17; subst hm17
      exact ⟨false, _, (hST.sublist (List.Sublist.refl _)), rfl, hm18⟩
  · rintro E W ⟨x12, L13, hST, e15, hm14⟩
    refine CW_ret ?_
    replace hm14 := Option.some.inj hm14; subst hm14
    refine retQ_1 (v := (.bool x12)) rfl e15 ?_
    exact ⟨rfl, hST.ex⟩

theorem w_role_Right (a0 : Role) (r : Bool) (w : World)  (hm : m_role_Right a0 = some r) :
    Gives Tryz.prog 131 [(.agg (encRole a0).toArray)] w (.bool r) := by
  have hST := ST.start w
  unfold m_role_Right at hm
  refine calls_of_CW (n := 11) Tryz.func131 rfl rfl (Nat.le_of_ble_eq_true rfl) ?_
  refine CW_seq ?_
  refine CW_region ?_
  refine LW_e (.inl rfl) rfl (by decide) (E_box (v := (.agg (encRole a0).toArray)) hST rfl (fun W2 b1 hST => ?_))
  refine LW_v (.inl rfl) rfl (by decide) (R_assign (v := (.bool false)) rfl) ?_
  refine LW_nil ?_
  refine sq_n ?_
  refine CW_seq ?_
  obtain ⟨s14, hm15, hm16⟩ := bind_some hm
  refine CW_cut (fun E W => ∃ (x10 : Bool) (L11 : List (Nat × Obj)), ST NoF w W (hp w) L11 ∧ E 2 = (.bool x10) ∧ some x10 = some r) ?_ ?_
  · refine CW_region ?_
    refine LW_v (.inl rfl) rfl (by decide) (R_field fa47_0 rfl) ?_
    refine LW_v (.inl rfl) rfl (by decide) (R_load (v := (.string a0.Owner)) rfl (load_box1 hST.has (.head _) rfl Tryz.isAgg9)) ?_
    obtain ⟨r17, hr18, hm15⟩ := bind_some hm15
    replace hST : ST NoF w _ _ ((b1, Obj.cells ((encRole a0).toArray : Array Value) 47 (0, 0)) :: []) := hST
    have hsz := hST.size
    refine LW_e (.inl rfl) rfl (by decide) (E_gives (args := [(.string a0.Owner)]) hST rfl Tryz.call134 (by exact args1 rfl) (w_name_Right a0.Owner _ _  hr18) (fun W19 hST => ?_))
    refine LW_v (.inl rfl) rfl (by decide) (R_move (v := (.bool r17)) rfl) ?_
    rcases bool_cases r17 with hb20 | hb20
    · replace hm15 := if_t hb20 hm15
      refine LW_v (.inr ⟨3, true, 6, rfl, rfl, by decide, (congrArg Value.bool hb20)⟩) rfl (by decide) (R_field fa47_1 rfl) ?_
      refine LW_v (.inr ⟨3, true, 6, rfl, rfl, by decide, (congrArg Value.bool hb20)⟩) rfl (by decide) (R_load (v := (.string a0.Word)) rfl (load_box1 hST.has (.head _) rfl Tryz.isAgg9)) ?_
      obtain ⟨r21, hr22, hm15⟩ := bind_some hm15
      replace hST : ST NoF w _ _ ((b1, Obj.cells ((encRole a0).toArray : Array Value) 47 (0, 0)) :: []) := hST
      have hsz := hST.size
      refine LW_e (.inr ⟨3, true, 6, rfl, rfl, by decide, (congrArg Value.bool hb20)⟩) rfl (by decide) (E_gives (args := [(.string a0.Word)]) hST rfl Tryz.call134 (by exact args1 rfl) (w_name_Right a0.Word _ _  hr22) (fun W23 hST => ?_))
      refine LW_v (.inl rfl) rfl (by decide) (R_pickT (v := (.bool r21)) (congrArg Value.bool hb20) rfl) ?_
      refine LW_v (.inl rfl) rfl (by decide) (R_assign (v := (.bool r21)) rfl) ?_
      refine LW_nil ?_
      refine sq_n ?_
      replace hm15 := Option.some.inj hm15; subst hm15
      exact ⟨r21, _, (hST.sublist (List.Sublist.cons _ (List.Sublist.refl _))), rfl, hm16⟩
    · replace hm15 := if_f hb20 hm15
      refine LW_no rfl (by decide) rfl rfl (by decide) (congrArg Value.bool hb20) ?_
      refine LW_no rfl (by decide) rfl rfl (by decide) (congrArg Value.bool hb20) ?_
      refine LW_no rfl (by decide) rfl rfl (by decide) (congrArg Value.bool hb20) ?_
      refine LW_v (.inl rfl) rfl (by decide) (R_pickF (v := (.bool false)) (congrArg Value.bool hb20) rfl) ?_
      refine LW_v (.inl rfl) rfl (by decide) (R_assign (v := (.bool false)) rfl) ?_
      refine LW_nil ?_
      refine sq_n ?_
      replace hm15 := Option.some.inj hm15; subst hm15
      exact ⟨false, _, (hST.sublist (List.Sublist.cons _ (List.Sublist.refl _))), rfl, hm16⟩
  · rintro E W ⟨x10, L11, hST, e13, hm12⟩
    refine CW_ret ?_
    replace hm12 := Option.some.inj hm12; subst hm12
    refine retQ_1 (v := (.bool x10)) rfl e13 ?_
    exact ⟨rfl, hST.ex⟩

theorem ext184 (w : World) (a b : ByteArray) : (callFunc 184 [Value.string a, .string b].toArray).run Tryz.prog w = .ok (.value (.int .i64 (xCompareS a b))) w := run_cmpS Tryz.func184 (by kernel_rfl) (by kernel_rfl) (by kernel_rfl) (by kernel_rfl) a b w

theorem w_internal_bytealg_CompareString (a0 : ByteArray) (a1 : ByteArray) (r : Int) (w : World)  (hm : m_internal_bytealg_CompareString a0 a1 = some r) :
    Gives Tryz.prog 142 [(.string a0), (.string a1)] w (.int .i64 r) := by
  have hST := ST.start w
  unfold m_internal_bytealg_CompareString at hm
  refine calls_of_CW (n := 8) Tryz.func142 rfl rfl (Nat.le_of_ble_eq_true rfl) ?_
  refine CW_seq ?_
  refine CW_region ?_
  refine LW_v (.inl rfl) rfl (by decide) (R_assign (v := (.int .i64 0)) rfl) ?_
  refine LW_nil ?_
  refine sq_n ?_
  refine CW_seq ?_
  refine CW_region ?_
  refine LW_v (.inl rfl) rfl (by decide) (R_move (v := (.string a0)) rfl) ?_
  refine LW_v (.inl rfl) rfl (by decide) (R_move (v := (.string a1)) rfl) ?_
  refine LW_e (.inl rfl) rfl (by decide) (E_ext (args := [(.string a0), (.string a1)]) (v := .int .i64 (xCompareS a0 a1)) rfl (by exact args2 rfl rfl) (ext184 _ a0 a1) ?_)
  refine LW_v (.inl rfl) rfl (by decide) (R_assign (v := (.int .i64 ((xCompareS a0 a1)))) rfl) ?_
  refine LW_nil ?_
  refine sq_n ?_
  refine CW_ret ?_
  replace hm := Option.some.inj hm; subst hm
  refine retQ_1 (v := (.int .i64 ((xCompareS a0 a1)))) rfl rfl ?_
  exact ⟨rfl, hST.ex⟩

theorem w_strings_Compare (a0 : ByteArray) (a1 : ByteArray) (r : Int) (w : World)  (hm : m_strings_Compare a0 a1 = some r) :
    Gives Tryz.prog 95 [(.string a0), (.string a1)] w (.int .i64 r) := by
  have hST := ST.start w
  unfold m_strings_Compare at hm
  refine calls_of_CW (n := 8) Tryz.func95 rfl rfl (Nat.le_of_ble_eq_true rfl) ?_
  refine CW_seq ?_
  refine CW_region ?_
  refine LW_v (.inl rfl) rfl (by decide) (R_assign (v := (.int .i64 0)) rfl) ?_
  refine LW_nil ?_
  refine sq_n ?_
  refine CW_seq ?_
  refine CW_region ?_
  refine LW_v (.inl rfl) rfl (by decide) (R_move (v := (.string a0)) rfl) ?_
  refine LW_v (.inl rfl) rfl (by decide) (R_move (v := (.string a1)) rfl) ?_
  obtain ⟨r1, hr2, hm⟩ := bind_some hm
  replace hST : ST NoF w _ _ [] := hST
  have hsz := hST.size
  refine LW_e (.inl rfl) rfl (by decide) (E_gives (args := [(.string a0), (.string a1)]) hST rfl Tryz.call142 (by exact args2 rfl rfl) (w_internal_bytealg_CompareString a0 a1 _ _  hr2) (fun W3 hST => ?_))
  refine LW_v (.inl rfl) rfl (by decide) (R_assign (v := (.int .i64 r1)) rfl) ?_
  refine LW_nil ?_
  refine sq_n ?_
  refine CW_ret ?_
  replace hm := Option.some.inj hm; subst hm
  refine retQ_1 (v := (.int .i64 r1)) rfl rfl ?_
  exact ⟨rfl, hST.ex⟩

theorem w_cmp_Or_int (v_a0 : Value) (a0 : List Int) (r : Int) (w : World) (h_a0 : Sl (Pl (encI .i64)) 1 (hp w) v_a0 a0) (hm : m_cmp_Or_int a0 = some r) :
    Gives Tryz.prog 93 [v_a0] w (.int .i64 r) := by
  have hST := ST.start w
  unfold m_cmp_Or_int at hm
  refine calls_of_CW (n := 18) Tryz.func93 rfl rfl (Nat.le_of_ble_eq_true rfl) ?_
  refine CW_seq ?_
  refine CW_region ?_
  refine LW_v (.inl rfl) rfl (by decide) (R_assign (v := (.int .i64 0)) rfl) ?_
  refine LW_nil ?_
  refine sq_n ?_
  refine CW_seq ?_
  refine CW_region ?_
  refine LW_v (.inl rfl) rfl (by decide) (R_assign (v := (.int .i64 0)) rfl) ?_
  refine LW_nil ?_
  refine sq_n ?_
  refine CW_seq ?_
  refine CW_seq ?_
  refine CW_region ?_
  refine LW_v (.inl rfl) rfl (by decide) (R_move (v := v_a0) rfl) ?_
  refine LW_v (.inl rfl) rfl (by decide) (R_len Tryz.underlying173 rfl h_a0) ?_
  refine LW_v (.inl rfl) rfl (by decide) (R_move (v := (.int .i64 0)) rfl) ?_
  refine LW_nil ?_
  refine sq_n ?_
  refine CW_range (fun i E W => ∃  (L43 : List (Nat × Obj)), (E 8 = .int .i64 (i : Nat) ∧ E 7 = .int .i64 (a0.length : Nat)) ∧ ST NoF w W (hp w) L43 ∧ E 3 = (.int .i64 0) ∧ E 6 = v_a0 ∧ m_cmp_Or_int_L1 (a0.drop i) = some r) a0.length h_a0.len ⟨_, ⟨rfl, rfl⟩, (hST.sublist (List.Sublist.refl _)), rfl, rfl, hm⟩ (by decide) (by decide) (by decide) (fun _ _ _ h => by obtain ⟨_, eIN, _⟩ := h; exact eIN) ?_ ?_
  · rintro i26 E W hi32 ⟨L43, ⟨eI, eN⟩, hST, e45, e46, hm44⟩
    obtain ⟨x27, xs28, hx30, hx29, hx31⟩ := drop_cons hi32
    rw [hx30] at hm44
    rw [m_cmp_Or_int_L1] at hm44
    refine CW_block ?_
    refine CW_seq ?_
    refine CW_region ?_
    refine LW_q (.inl rfl) rfl (by decide) (R_indexP (enc := (encI .i64)) (i := (i26 : Int)) (x0 := x27) Tryz.underlying173 Tryz.sizeOf3 e46 eI h_a0 (Int.natCast_nonneg _) hx29) (fun p47 hp48 => ?_)
    refine LW_v (.inl rfl) rfl (by decide) (R_load rfl (load_at1 hST.has (y := (.int .i64 x27)) hp48 Tryz.isAgg3)) ?_
    refine LW_v (.inl rfl) rfl (by decide) (R_assign (v := (.int .i64 x27)) rfl) ?_
    refine LW_nil ?_
    refine sq_n ?_
    refine CW_seq ?_
    refine CW_region ?_
    refine LW_v (.inl rfl) rfl (by decide) (R_move (v := (.int .i64 x27)) rfl) ?_
    refine LW_v (.inl rfl) rfl (by decide) (R_move (v := (.int .i64 0)) e45) ?_
    refine LW_v (.inl rfl) rfl (by decide) (R_int (k := .i64) (a := x27) (b := 0) (v := (.bool ((x27 != 0)))) rfl rfl rfl) ?_
    refine LW_nil ?_
    refine sq_n ?_
    refine CW_if (b := (x27 != 0)) rfl (fun hb50 => ?_) (fun hb50 => ?_)
    · replace hm44 := if_t hb50 hm44
      refine CW_seq ?_
      refine CW_region ?_
      refine LW_v (.inl rfl) rfl (by decide) (R_move (v := (.int .i64 x27)) rfl) ?_
      refine LW_v (.inl rfl) rfl (by decide) (R_assign (v := (.int .i64 x27)) rfl) ?_
      refine LW_nil ?_
      refine sq_n ?_
      refine CW_ret ?_
      refine bq_r (sq_r (bq_r (sq_r ?_)))
      replace hm44 := Option.some.inj hm44; subst hm44
      refine retQ_1 (v := (.int .i64 x27)) rfl rfl ?_
      exact ⟨rfl, hST.ex⟩
    · replace hm44 := if_f hb50 hm44
      refine CW_skip ?_
      refine bq_n ?_
      refine sq_n ?_
      exact ⟨eI, _, ⟨rfl, eN⟩, (hST.sublist (List.Sublist.refl _)), e45, e46, (by rw [hx31]; exact hm44)⟩
  · rintro E W ⟨L43, ⟨eI, eN⟩, hST, e45, e46, hm44⟩
    rw [List.drop_length] at hm44
    rw [m_cmp_Or_int_L1] at hm44
    refine sq_n ?_
    refine CW_seq ?_
    refine CW_region ?_
    refine LW_v (.inl rfl) rfl (by decide) (R_move (v := (.int .i64 0)) e45) ?_
    refine LW_v (.inl rfl) rfl (by decide) (R_assign (v := (.int .i64 0)) rfl) ?_
    refine LW_nil ?_
    refine sq_n ?_
    refine CW_ret ?_
    replace hm44 := Option.some.inj hm44; subst hm44
    refine retQ_1 (v := (.int .i64 0)) rfl rfl ?_
    exact ⟨rfl, hST.ex⟩

theorem w_role_Compare (a0 : Role) (a1 : Role) (r : Int) (w : World)  (hm : m_role_Compare a0 a1 = some r) :
    Gives Tryz.prog 94 [(.agg (encRole a0).toArray), (.agg (encRole a1).toArray)] w (.int .i64 r) := by
  have hST := ST.start w
  unfold m_role_Compare at hm
  refine calls_of_CW (n := 17) Tryz.func94 rfl rfl (Nat.le_of_ble_eq_true rfl) ?_
  refine CW_seq ?_
  refine CW_region ?_
  refine LW_e (.inl rfl) rfl (by decide) (E_box (v := (.agg (encRole a0).toArray)) hST rfl (fun W2 b1 hST => ?_))
  refine LW_e (.inl rfl) rfl (by decide) (E_box (v := (.agg (encRole a1).toArray)) hST rfl (fun W4 b3 hST => ?_))
  refine LW_v (.inl rfl) rfl (by decide) (R_assign (v := (.int .i64 0)) rfl) ?_
  refine LW_nil ?_
  refine sq_n ?_
  refine CW_seq ?_
  refine PW_start (Has (hp w) ((b3, Obj.cells ((encRole a1).toArray : Array Value) 47 (0, 0)) :: ((b1, Obj.cells ((encRole a0).toArray : Array Value) 47 (0, 0)) :: []))) Tryz_mixed ?_
  replace hST := hST.drew
  have hSS : (Has (hp w) ((b3, Obj.cells ((encRole a1).toArray : Array Value) 47 (0, 0)) :: ((b1, Obj.cells ((encRole a0).toArray : Array Value) 47 (0, 0)) :: [])) _) := ((show ST NoF w _ _ ((b3, Obj.cells ((encRole a1).toArray : Array Value) 47 (0, 0)) :: ((b1, Obj.cells ((encRole a0).toArray : Array Value) 47 (0, 0)) :: [])) from hST).has.sub (Sub.refl _) (fun p hq => ((List.mem_cons.1 hq).elim (fun hq => by rw [hq]; exact (.head _)) (fun hq => ((List.mem_cons.1 hq).elim (fun hq => by rw [hq]; exact (.tail _ (.head _))) (fun hq => (absurd hq List.not_mem_nil)))))))
  refine PW_v 0 rfl (by kernel_rfl) (by kernel_rfl) (by kernel_rfl) (.inl rfl) rfl (by decide) hSS (fun W hS => R_field fa47_0 rfl) ?_
  refine PW_v 1 rfl (by kernel_rfl) (by kernel_rfl) (by kernel_rfl) (.inl rfl) rfl (by decide) hSS (fun W hS => R_load (v := (.string a0.Owner)) rfl (load_box1 hS (.tail _ (.head _)) rfl Tryz.isAgg9)) ?_
  refine PW_v 2 rfl (by kernel_rfl) (by kernel_rfl) (by kernel_rfl) (.inl rfl) rfl (by decide) hSS (fun W hS => R_field fa47_0 rfl) ?_
  refine PW_v 3 rfl (by kernel_rfl) (by kernel_rfl) (by kernel_rfl) (.inl rfl) rfl (by decide) hSS (fun W hS => R_load (v := (.string a1.Owner)) rfl (load_box1 hS (.head _) rfl Tryz.isAgg9)) ?_
  refine PW_v 5 rfl (by kernel_rfl) (by kernel_rfl) (by kernel_rfl) (.inl rfl) rfl (by decide) hSS (fun W hS => R_field fa47_1 rfl) ?_
  refine PW_v 6 rfl (by kernel_rfl) (by kernel_rfl) (by kernel_rfl) (.inl rfl) rfl (by decide) hSS (fun W hS => R_load (v := (.string a0.Word)) rfl (load_box1 hS (.tail _ (.head _)) rfl Tryz.isAgg9)) ?_
  refine PW_v 7 rfl (by kernel_rfl) (by kernel_rfl) (by kernel_rfl) (.inl rfl) rfl (by decide) hSS (fun W hS => R_field fa47_1 rfl) ?_
  refine PW_v 8 rfl (by kernel_rfl) (by kernel_rfl) (by kernel_rfl) (.inl rfl) rfl (by decide) hSS (fun W hS => R_load (v := (.string a1.Word)) rfl (load_box1 hS (.head _) rfl Tryz.isAgg9)) ?_
  obtain ⟨r16, hr17, hm⟩ := bind_some hm
  replace hST : ST NoF w _ _ ((b3, Obj.cells ((encRole a1).toArray : Array Value) 47 (0, 0)) :: ((b1, Obj.cells ((encRole a0).toArray : Array Value) 47 (0, 0)) :: [])) := hST
  have hsz := hST.size
  refine PW_e 4 rfl (by kernel_rfl) (.inl rfl) rfl (by decide) (E_gives (args := [(.string a0.Owner), (.string a1.Owner)]) hST rfl Tryz.call95 (by exact args2 rfl rfl) (w_strings_Compare a0.Owner a1.Owner _ _  hr17) (fun W18 hST => ?_))
  have hSS : (Has (hp w) ((b3, Obj.cells ((encRole a1).toArray : Array Value) 47 (0, 0)) :: ((b1, Obj.cells ((encRole a0).toArray : Array Value) 47 (0, 0)) :: [])) _) := ((show ST NoF w _ _ ((b3, Obj.cells ((encRole a1).toArray : Array Value) 47 (0, 0)) :: ((b1, Obj.cells ((encRole a0).toArray : Array Value) 47 (0, 0)) :: [])) from hST).has.sub (Sub.refl _) (fun p hq => ((List.mem_cons.1 hq).elim (fun hq => by rw [hq]; exact (.head _)) (fun hq => ((List.mem_cons.1 hq).elim (fun hq => by rw [hq]; exact (.tail _ (.head _))) (fun hq => (absurd hq List.not_mem_nil)))))))
  refine ⟨hSS, ?_⟩
  obtain ⟨r19, hr20, hm⟩ := bind_some hm
  replace hST : ST NoF w _ _ ((b3, Obj.cells ((encRole a1).toArray : Array Value) 47 (0, 0)) :: ((b1, Obj.cells ((encRole a0).toArray : Array Value) 47 (0, 0)) :: [])) := hST
  have hsz := hST.size
  refine PW_e 9 rfl (by kernel_rfl) (.inl rfl) rfl (by decide) (E_gives (args := [(.string a0.Word), (.string a1.Word)]) hST rfl Tryz.call95 (by exact args2 rfl rfl) (w_strings_Compare a0.Word a1.Word _ _  hr20) (fun W21 hST => ?_))
  have hSS : (Has (hp w) ((b3, Obj.cells ((encRole a1).toArray : Array Value) 47 (0, 0)) :: ((b1, Obj.cells ((encRole a0).toArray : Array Value) 47 (0, 0)) :: [])) _) := ((show ST NoF w _ _ ((b3, Obj.cells ((encRole a1).toArray : Array Value) 47 (0, 0)) :: ((b1, Obj.cells ((encRole a0).toArray : Array Value) 47 (0, 0)) :: [])) from hST).has.sub (Sub.refl _) (fun p hq => ((List.mem_cons.1 hq).elim (fun hq => by rw [hq]; exact (.head _)) (fun hq => ((List.mem_cons.1 hq).elim (fun hq => by rw [hq]; exact (.tail _ (.head _))) (fun hq => (absurd hq List.not_mem_nil)))))))
  refine ⟨hSS, ?_⟩
  refine PW_e 10 rfl (by kernel_rfl) (.inl rfl) rfl (by decide) (E_buildSlice (qs := #[(0, (.int .i64 r16)), (1, (.int .i64 r19))]) (cs := #[(.int .i64 r16), (.int .i64 r19)]) hST (parts2 rfl rfl) (run_lit [(.int .i64 r16), (.int .i64 r19)] Tryz.underlying173 Tryz.sizeOf3 Tryz.zeroValue3 (by decide) rfl (by intro v hv; simp only [List.mem_cons, List.not_mem_nil, or_false] at hv; rcases hv with rfl | rfl <;> rfl) rfl rfl) (fun W23 b22 hST => ?_))
  have hSS : (Has (hp w) ((b3, Obj.cells ((encRole a1).toArray : Array Value) 47 (0, 0)) :: ((b1, Obj.cells ((encRole a0).toArray : Array Value) 47 (0, 0)) :: [])) _) := ((show ST NoF w _ _ ((b22, Obj.cells (#[(.int .i64 r16), (.int .i64 r19)] : Array Value) 3 (0, 0)) :: ((b3, Obj.cells ((encRole a1).toArray : Array Value) 47 (0, 0)) :: ((b1, Obj.cells ((encRole a0).toArray : Array Value) 47 (0, 0)) :: []))) from hST).has.sub (Sub.refl _) (fun p hq => ((List.mem_cons.1 hq).elim (fun hq => by rw [hq]; exact (.tail _ (.head _))) (fun hq => ((List.mem_cons.1 hq).elim (fun hq => by rw [hq]; exact (.tail _ (.tail _ (.head _)))) (fun hq => (absurd hq List.not_mem_nil)))))))
  refine ⟨hSS, ?_⟩
  obtain ⟨r24, hr25, hm⟩ := bind_some hm
  replace hST : ST NoF w _ _ ((b22, Obj.cells (#[(.int .i64 r16), (.int .i64 r19)] : Array Value) 3 (0, 0)) :: ((b3, Obj.cells ((encRole a1).toArray : Array Value) 47 (0, 0)) :: ((b1, Obj.cells ((encRole a0).toArray : Array Value) 47 (0, 0)) :: []))) := hST
  have hsz := hST.size
  refine PW_e 11 rfl (by kernel_rfl) (.inl rfl) rfl (by decide) (E_gives (args := [(.slice (some ⟨b22, 0, none⟩) 2 2)]) hST rfl Tryz.call93 (by exact args1 rfl) (w_cmp_Or_int (.slice (some ⟨b22, 0, none⟩) 2 2) ([r16, r19]) _ _ (Sl.lit (enc := (encI .i64)) (l := [r16, r19]) (fun _ => rfl) rfl (Nat.le_of_ble_eq_true rfl) rfl (hST.at_ (.head _))) hr25) (fun W26 hST => ?_))
  have hSS : (Has (hp w) ((b3, Obj.cells ((encRole a1).toArray : Array Value) 47 (0, 0)) :: ((b1, Obj.cells ((encRole a0).toArray : Array Value) 47 (0, 0)) :: [])) _) := ((show ST NoF w _ _ ((b22, Obj.cells (#[(.int .i64 r16), (.int .i64 r19)] : Array Value) 3 (0, 0)) :: ((b3, Obj.cells ((encRole a1).toArray : Array Value) 47 (0, 0)) :: ((b1, Obj.cells ((encRole a0).toArray : Array Value) 47 (0, 0)) :: []))) from hST).has.sub (Sub.refl _) (fun p hq => ((List.mem_cons.1 hq).elim (fun hq => by rw [hq]; exact (.tail _ (.head _))) (fun hq => ((List.mem_cons.1 hq).elim (fun hq => by rw [hq]; exact (.tail _ (.tail _ (.head _)))) (fun hq => (absurd hq List.not_mem_nil)))))))
  refine ⟨hSS, ?_⟩
  refine PW_v 12 rfl (by kernel_rfl) (by kernel_rfl) (by kernel_rfl) (.inl rfl) rfl (by decide) hSS (fun W hS => R_assign (v := (.int .i64 r24)) rfl) ?_
  refine PW_done (by kernel_rfl) ?_
  refine sq_n ?_
  replace hST : ST NoF w _ _ [] := hST.sublist (List.Sublist.cons _ (List.Sublist.cons _ (List.Sublist.cons _ (List.Sublist.refl _))))
  refine CW_ret ?_
  replace hm := Option.some.inj hm; subst hm
  refine retQ_1 (v := (.int .i64 r24)) rfl rfl ?_
  exact ⟨rfl, hST.ex⟩

theorem w_cred_Right (a0 : Cred) (r : Bool) (w : World)  (hm : m_cred_Right a0 = some r) :
    Gives Tryz.prog 98 [(.agg (encCred a0).toArray)] w (.bool r) := by
  have hST := ST.start w
  unfold m_cred_Right at hm
  refine calls_of_CW (n := 98) Tryz.func98 rfl rfl (Nat.le_of_ble_eq_true rfl) ?_
  refine CW_seq ?_
  refine CW_region ?_
  refine LW_e (.inl rfl) rfl (by decide) (E_box (v := (.agg (encCred a0).toArray)) hST rfl (fun W2 b1 hST => ?_))
  refine LW_v (.inl rfl) rfl (by decide) (R_assign (v := (.bool false)) rfl) ?_
  refine LW_nil ?_
  refine sq_n ?_
  refine CW_seq ?_
  refine CW_region ?_
  refine LW_v (.inl rfl) rfl (by decide) (R_field fa83_0 rfl) ?_
  refine LW_v (.inl rfl) rfl (by decide) (R_load (v := (.int .i64 a0.Kind)) rfl (load_box1 hST.has (.head _) rfl Tryz.isAgg3)) ?_
  refine LW_v (.inl rfl) rfl (by decide) (R_field fa83_1 rfl) ?_
  refine LW_v (.inl rfl) rfl (by decide) (R_load (v := (.agg (encRole a0.Head).toArray)) rfl (load_boxA hST.has (.head _) (encRole a0.Head) rfl Tryz.isAgg47 Tryz.sizeOf47)) ?_
  refine LW_v (.inl rfl) rfl (by decide) (R_build (qs := #[(0, (.int .i64 a0.Kind)), (1, (.agg (encRole a0.Head).toArray))]) (v := (.agg (encCred ((⟨a0.Kind, a0.Head, zS, (⟨zS, zS⟩ : Role), (⟨zS, zS⟩ : Role), zS⟩ : Cred))).toArray)) (parts2 rfl rfl) (run_build Tryz.zeroValue83 Tryz.underlying83 (pl83 _ Tryz.underlying83) (by kernel_rfl))) ?_
  refine LW_e (.inl rfl) rfl (by decide) (E_alloc hST Tryz.zeroValue83 (fun W4 b3 hST => ?_))
  refine LW_e0 (.inl rfl) rfl (E_store [] (.agg (encCred ((⟨a0.Kind, a0.Head, zS, (⟨zS, zS⟩ : Role), (⟨zS, zS⟩ : Role), zS⟩ : Cred))).toArray) ((encCred ((⟨a0.Kind, a0.Head, zS, (⟨zS, zS⟩ : Role), (⟨zS, zS⟩ : Role), zS⟩ : Cred))).toArray) hST rfl rfl Tryz.sizeOf83 (oneCred ((⟨a0.Kind, a0.Head, zS, (⟨zS, zS⟩ : Role), (⟨zS, zS⟩ : Role), zS⟩ : Cred))) (Nat.le_of_ble_eq_true rfl) rfl (fun W5 hST => ?_))
  refine LW_nil ?_
  refine sq_n ?_
  refine CW_seq ?_
  refine CW_region ?_
  refine LW_v (.inl rfl) rfl (by decide) (R_field fa83_1 rfl) ?_
  refine LW_v (.inl rfl) rfl (by decide) (R_load (v := (.agg (encRole a0.Head).toArray)) rfl (load_boxA hST.has (.tail _ (.head _)) (encRole a0.Head) rfl Tryz.isAgg47 Tryz.sizeOf47)) ?_
  obtain ⟨r6, hr7, hm⟩ := bind_some hm
  replace hST : ST NoF w _ _ ((b3, Obj.cells ((encCred ((⟨a0.Kind, a0.Head, zS, (⟨zS, zS⟩ : Role), (⟨zS, zS⟩ : Role), zS⟩ : Cred))).toArray : Array Value) 83 (0, 0)) :: ((b1, Obj.cells ((encCred a0).toArray : Array Value) 83 (0, 0)) :: [])) := hST
  have hsz := hST.size
  refine LW_e (.inl rfl) rfl (by decide) (E_gives (args := [(.agg (encRole a0.Head).toArray)]) hST rfl Tryz.call131 (by exact args1 rfl) (w_role_Right a0.Head _ _  hr7) (fun W8 hST => ?_))
  refine LW_v (.inl rfl) rfl (by decide) (R_assign (v := (.bool r6)) rfl) ?_
  refine LW_nil ?_
  refine sq_n ?_
  refine CW_seq ?_
  obtain ⟨s82, hm83, hm84⟩ := bind_some hm
  refine CW_cut (fun E W => ∃ (x66 : Bool) (x67 : Cred) (L68 : List (Nat × Obj)), ST NoF w W (hp w) ((b3, Obj.cells ((encCred x67).toArray : Array Value) 83 (0, 0)) :: ((b1, Obj.cells ((encCred a0).toArray : Array Value) 83 (0, 0)) :: L68)) ∧ E 1 = (.pointer (some ⟨b1, 0, none⟩)) ∧ E 3 = (.pointer (some ⟨b3, 0, none⟩)) ∧ E 4 = (.bool x66) ∧ (((if x66 then some ((beqCred x67 a0)) else some false) : Option Bool).bind fun x74 => some x74) = some r) ?_ ?_
  · refine CW_seq ?_
    refine CW_region ?_
    refine LW_v (.inl rfl) rfl (by decide) (R_field fa83_0 rfl) ?_
    refine LW_v (.inl rfl) rfl (by decide) (R_load (v := (.int .i64 a0.Kind)) rfl (load_box1 hST.has (.tail _ (.head _)) rfl Tryz.isAgg3)) ?_
    refine LW_nil ?_
    refine sq_n ?_
    refine CW_block ?_
    refine CW_seq ?_
    refine CW_region ?_
    refine LW_v (.inl rfl) rfl (by decide) (R_int (k := .i64) (a := a0.Kind) (b := 1) (v := (.bool ((a0.Kind == 1)))) rfl rfl rfl) ?_
    refine LW_v (.inl rfl) rfl (by decide) (R_assign (v := (.bool ((a0.Kind == 1)))) rfl) ?_
    refine LW_nil ?_
    refine sq_n ?_
    refine CW_if (b := (a0.Kind == 1)) rfl (fun hb85 => ?_) (fun hb85 => ?_)
    · replace hm83 := if_t hb85 hm83
      refine PW_start (Has (hp w) ((b1, Obj.cells ((encCred a0).toArray : Array Value) 83 (0, 0)) :: [])) Tryz_mixed ?_
      replace hST := hST.drew
      have hSS : (Has (hp w) ((b1, Obj.cells ((encCred a0).toArray : Array Value) 83 (0, 0)) :: []) _) := ((show ST NoF w _ _ ((b3, Obj.cells ((encCred ((⟨a0.Kind, a0.Head, zS, (⟨zS, zS⟩ : Role), (⟨zS, zS⟩ : Role), zS⟩ : Cred))).toArray : Array Value) 83 (0, 0)) :: ((b1, Obj.cells ((encCred a0).toArray : Array Value) 83 (0, 0)) :: [])) from hST).has.sub (Sub.refl _) (fun p hq => ((List.mem_cons.1 hq).elim (fun hq => by rw [hq]; exact (.tail _ (.head _))) (fun hq => (absurd hq List.not_mem_nil)))))
      refine PW_v 0 rfl (by kernel_rfl) (by kernel_rfl) (by kernel_rfl) (.inl rfl) rfl (by decide) hSS (fun W hS => R_field fa83_2 rfl) ?_
      refine PW_v 1 rfl (by kernel_rfl) (by kernel_rfl) (by kernel_rfl) (.inl rfl) rfl (by decide) hSS (fun W hS => R_load (v := (.string a0.Who)) rfl (load_box1 hS (.head _) rfl Tryz.isAgg9)) ?_
      refine PW_v 2 rfl (by kernel_rfl) (by kernel_rfl) (by kernel_rfl) (.inl rfl) rfl (by decide) hSS (fun W hS => R_move (v := (.bool r6)) rfl) ?_
      refine PW_v 3 rfl (by kernel_rfl) (by kernel_rfl) (by kernel_rfl) (.inl rfl) rfl (by decide) hSS (fun W hS => R_move (v := (.bool r6)) rfl) ?_
      rcases bool_cases r6 with hb92 | hb92
      · replace hm83 := if_t hb92 hm83
        refine PW_v 4 rfl (by kernel_rfl) (by kernel_rfl) (by kernel_rfl) (.inr ⟨3, true, 20, rfl, rfl, by decide, (congrArg Value.bool hb92)⟩) rfl (by decide) hSS (fun W hS => R_field fa83_2 rfl) ?_
        refine PW_v 5 rfl (by kernel_rfl) (by kernel_rfl) (by kernel_rfl) (.inr ⟨3, true, 20, rfl, rfl, by decide, (congrArg Value.bool hb92)⟩) rfl (by decide) hSS (fun W hS => R_load (v := (.string a0.Who)) rfl (load_box1 hS (.head _) rfl Tryz.isAgg9)) ?_
        refine PW_v 8 rfl (by kernel_rfl) (by kernel_rfl) (by kernel_rfl) (.inl rfl) rfl (by decide) hSS (fun W hS => R_field fa83_2 rfl) ?_
        obtain ⟨r93, hr94, hm83⟩ := bind_some hm83
        replace hST : ST NoF w _ _ ((b3, Obj.cells ((encCred ((⟨a0.Kind, a0.Head, zS, (⟨zS, zS⟩ : Role), (⟨zS, zS⟩ : Role), zS⟩ : Cred))).toArray : Array Value) 83 (0, 0)) :: ((b1, Obj.cells ((encCred a0).toArray : Array Value) 83 (0, 0)) :: [])) := hST
        have hsz := hST.size
        refine PW_e 6 rfl (by kernel_rfl) (.inr ⟨3, true, 20, rfl, rfl, by decide, (congrArg Value.bool hb92)⟩) rfl (by decide) (E_gives (args := [(.string a0.Who)]) hST rfl Tryz.call134 (by exact args1 rfl) (w_name_Right a0.Who _ _  hr94) (fun W95 hST => ?_))
        have hSS : (Has (hp w) ((b1, Obj.cells ((encCred a0).toArray : Array Value) 83 (0, 0)) :: []) _) := ((show ST NoF w _ _ ((b3, Obj.cells ((encCred ((⟨a0.Kind, a0.Head, zS, (⟨zS, zS⟩ : Role), (⟨zS, zS⟩ : Role), zS⟩ : Cred))).toArray : Array Value) 83 (0, 0)) :: ((b1, Obj.cells ((encCred a0).toArray : Array Value) 83 (0, 0)) :: [])) from hST).has.sub (Sub.refl _) (fun p hq => ((List.mem_cons.1 hq).elim (fun hq => by rw [hq]; exact (.tail _ (.head _))) (fun hq => (absurd hq List.not_mem_nil)))))
        refine ⟨hSS, ?_⟩
        refine PW_v 7 rfl (by kernel_rfl) (by kernel_rfl) (by kernel_rfl) (.inl rfl) rfl (by decide) hSS (fun W hS => R_pickT (v := (.bool r93)) (congrArg Value.bool hb92) rfl) ?_
        refine PW_e0 9 rfl (by kernel_rfl) (.inl rfl) rfl (E_store [] (.string a0.Who) ((encCred ((⟨a0.Kind, a0.Head, a0.Who, (⟨zS, zS⟩ : Role), (⟨zS, zS⟩ : Role), zS⟩ : Cred))).toArray) hST rfl rfl Tryz.sizeOf9 (oneS a0.Who) (Nat.le_of_ble_eq_true rfl) rfl (fun W96 hST => ?_))
        have hSS : (Has (hp w) ((b1, Obj.cells ((encCred a0).toArray : Array Value) 83 (0, 0)) :: []) _) := ((show ST NoF w _ _ ((b3, Obj.cells ((encCred ((⟨a0.Kind, a0.Head, a0.Who, (⟨zS, zS⟩ : Role), (⟨zS, zS⟩ : Role), zS⟩ : Cred))).toArray : Array Value) 83 (0, 0)) :: ((b1, Obj.cells ((encCred a0).toArray : Array Value) 83 (0, 0)) :: [])) from hST).has.sub (Sub.refl _) (fun p hq => ((List.mem_cons.1 hq).elim (fun hq => by rw [hq]; exact (.tail _ (.head _))) (fun hq => (absurd hq List.not_mem_nil)))))
        refine ⟨hSS, ?_⟩
        refine PW_v 10 rfl (by kernel_rfl) (by kernel_rfl) (by kernel_rfl) (.inl rfl) rfl (by decide) hSS (fun W hS => R_assign (v := (.bool r93)) rfl) ?_
        refine PW_done (by kernel_rfl) ?_
        refine bq_n ?_
        refine sq_n ?_
        replace hm83 := Option.some.inj hm83; subst hm83
        exact ⟨r93, ((⟨a0.Kind, a0.Head, a0.Who, (⟨zS, zS⟩ : Role), (⟨zS, zS⟩ : Role), zS⟩ : Cred)), _, (hST.sublist (List.Sublist.refl _)), rfl, rfl, rfl, hm84⟩
      · replace hm83 := if_f hb92 hm83
        refine PW_no 4 rfl (by kernel_rfl) (by kernel_rfl) (by kernel_rfl) rfl rfl (by decide) (congrArg Value.bool hb92) rfl (by decide) hSS ?_
        refine PW_no 5 rfl (by kernel_rfl) (by kernel_rfl) (by kernel_rfl) rfl rfl (by decide) (congrArg Value.bool hb92) rfl (by decide) hSS ?_
        refine PW_no 6 rfl (by kernel_rfl) (by kernel_rfl) (by kernel_rfl) rfl rfl (by decide) (congrArg Value.bool hb92) rfl (by decide) hSS ?_
        refine PW_v 7 rfl (by kernel_rfl) (by kernel_rfl) (by kernel_rfl) (.inl rfl) rfl (by decide) hSS (fun W hS => R_pickF (v := (.bool false)) (congrArg Value.bool hb92) rfl) ?_
        refine PW_v 8 rfl (by kernel_rfl) (by kernel_rfl) (by kernel_rfl) (.inl rfl) rfl (by decide) hSS (fun W hS => R_field fa83_2 rfl) ?_
        refine PW_e0 9 rfl (by kernel_rfl) (.inl rfl) rfl (E_store [] (.string a0.Who) ((encCred ((⟨a0.Kind, a0.Head, a0.Who, (⟨zS, zS⟩ : Role), (⟨zS, zS⟩ : Role), zS⟩ : Cred))).toArray) hST rfl rfl Tryz.sizeOf9 (oneS a0.Who) (Nat.le_of_ble_eq_true rfl) rfl (fun W97 hST => ?_))
        have hSS : (Has (hp w) ((b1, Obj.cells ((encCred a0).toArray : Array Value) 83 (0, 0)) :: []) _) := ((show ST NoF w _ _ ((b3, Obj.cells ((encCred ((⟨a0.Kind, a0.Head, a0.Who, (⟨zS, zS⟩ : Role), (⟨zS, zS⟩ : Role), zS⟩ : Cred))).toArray : Array Value) 83 (0, 0)) :: ((b1, Obj.cells ((encCred a0).toArray : Array Value) 83 (0, 0)) :: [])) from hST).has.sub (Sub.refl _) (fun p hq => ((List.mem_cons.1 hq).elim (fun hq => by rw [hq]; exact (.tail _ (.head _))) (fun hq => (absurd hq List.not_mem_nil)))))
        refine ⟨hSS, ?_⟩
        refine PW_v 10 rfl (by kernel_rfl) (by kernel_rfl) (by kernel_rfl) (.inl rfl) rfl (by decide) hSS (fun W hS => R_assign (v := (.bool false)) rfl) ?_
        refine PW_done (by kernel_rfl) ?_
        refine bq_n ?_
        refine sq_n ?_
        replace hm83 := Option.some.inj hm83; subst hm83
        exact ⟨false, ((⟨a0.Kind, a0.Head, a0.Who, (⟨zS, zS⟩ : Role), (⟨zS, zS⟩ : Role), zS⟩ : Cred)), _, (hST.sublist (List.Sublist.refl _)), rfl, rfl, rfl, hm84⟩
    · replace hm83 := if_f hb85 hm83
      refine CW_seq ?_
      refine CW_region ?_
      refine LW_v (.inl rfl) rfl (by decide) (R_int (k := .i64) (a := a0.Kind) (b := 2) (v := (.bool ((a0.Kind == 2)))) rfl rfl rfl) ?_
      refine LW_v (.inl rfl) rfl (by decide) (R_assign (v := (.bool ((a0.Kind == 2)))) rfl) ?_
      refine LW_nil ?_
      refine sq_n ?_
      refine CW_if (b := (a0.Kind == 2)) rfl (fun hb98 => ?_) (fun hb98 => ?_)
      · replace hm83 := if_t hb98 hm83
        refine PW_start (Has (hp w) ((b1, Obj.cells ((encCred a0).toArray : Array Value) 83 (0, 0)) :: [])) Tryz_mixed ?_
        replace hST := hST.drew
        have hSS : (Has (hp w) ((b1, Obj.cells ((encCred a0).toArray : Array Value) 83 (0, 0)) :: []) _) := ((show ST NoF w _ _ ((b3, Obj.cells ((encCred ((⟨a0.Kind, a0.Head, zS, (⟨zS, zS⟩ : Role), (⟨zS, zS⟩ : Role), zS⟩ : Cred))).toArray : Array Value) 83 (0, 0)) :: ((b1, Obj.cells ((encCred a0).toArray : Array Value) 83 (0, 0)) :: [])) from hST).has.sub (Sub.refl _) (fun p hq => ((List.mem_cons.1 hq).elim (fun hq => by rw [hq]; exact (.tail _ (.head _))) (fun hq => (absurd hq List.not_mem_nil)))))
        refine PW_v 0 rfl (by kernel_rfl) (by kernel_rfl) (by kernel_rfl) (.inl rfl) rfl (by decide) hSS (fun W hS => R_field fa83_3 rfl) ?_
        refine PW_v 1 rfl (by kernel_rfl) (by kernel_rfl) (by kernel_rfl) (.inl rfl) rfl (by decide) hSS (fun W hS => R_load (v := (.agg (encRole a0.B).toArray)) rfl (load_boxA hS (.head _) (encRole a0.B) rfl Tryz.isAgg47 Tryz.sizeOf47)) ?_
        refine PW_v 2 rfl (by kernel_rfl) (by kernel_rfl) (by kernel_rfl) (.inl rfl) rfl (by decide) hSS (fun W hS => R_move (v := (.bool r6)) rfl) ?_
        refine PW_v 3 rfl (by kernel_rfl) (by kernel_rfl) (by kernel_rfl) (.inl rfl) rfl (by decide) hSS (fun W hS => R_move (v := (.bool r6)) rfl) ?_
        rcases bool_cases r6 with hb105 | hb105
        · replace hm83 := if_t hb105 hm83
          refine PW_v 4 rfl (by kernel_rfl) (by kernel_rfl) (by kernel_rfl) (.inr ⟨3, true, 31, rfl, rfl, by decide, (congrArg Value.bool hb105)⟩) rfl (by decide) hSS (fun W hS => R_field fa83_3 rfl) ?_
          refine PW_v 5 rfl (by kernel_rfl) (by kernel_rfl) (by kernel_rfl) (.inr ⟨3, true, 31, rfl, rfl, by decide, (congrArg Value.bool hb105)⟩) rfl (by decide) hSS (fun W hS => R_load (v := (.agg (encRole a0.B).toArray)) rfl (load_boxA hS (.head _) (encRole a0.B) rfl Tryz.isAgg47 Tryz.sizeOf47)) ?_
          refine PW_v 8 rfl (by kernel_rfl) (by kernel_rfl) (by kernel_rfl) (.inl rfl) rfl (by decide) hSS (fun W hS => R_field fa83_3 rfl) ?_
          obtain ⟨r106, hr107, hm83⟩ := bind_some hm83
          replace hST : ST NoF w _ _ ((b3, Obj.cells ((encCred ((⟨a0.Kind, a0.Head, zS, (⟨zS, zS⟩ : Role), (⟨zS, zS⟩ : Role), zS⟩ : Cred))).toArray : Array Value) 83 (0, 0)) :: ((b1, Obj.cells ((encCred a0).toArray : Array Value) 83 (0, 0)) :: [])) := hST
          have hsz := hST.size
          refine PW_e 6 rfl (by kernel_rfl) (.inr ⟨3, true, 31, rfl, rfl, by decide, (congrArg Value.bool hb105)⟩) rfl (by decide) (E_gives (args := [(.agg (encRole a0.B).toArray)]) hST rfl Tryz.call131 (by exact args1 rfl) (w_role_Right a0.B _ _  hr107) (fun W108 hST => ?_))
          have hSS : (Has (hp w) ((b1, Obj.cells ((encCred a0).toArray : Array Value) 83 (0, 0)) :: []) _) := ((show ST NoF w _ _ ((b3, Obj.cells ((encCred ((⟨a0.Kind, a0.Head, zS, (⟨zS, zS⟩ : Role), (⟨zS, zS⟩ : Role), zS⟩ : Cred))).toArray : Array Value) 83 (0, 0)) :: ((b1, Obj.cells ((encCred a0).toArray : Array Value) 83 (0, 0)) :: [])) from hST).has.sub (Sub.refl _) (fun p hq => ((List.mem_cons.1 hq).elim (fun hq => by rw [hq]; exact (.tail _ (.head _))) (fun hq => (absurd hq List.not_mem_nil)))))
          refine ⟨hSS, ?_⟩
          refine PW_v 7 rfl (by kernel_rfl) (by kernel_rfl) (by kernel_rfl) (.inl rfl) rfl (by decide) hSS (fun W hS => R_pickT (v := (.bool r106)) (congrArg Value.bool hb105) rfl) ?_
          refine PW_e0 9 rfl (by kernel_rfl) (.inl rfl) rfl (E_store [] (.agg (encRole a0.B).toArray) ((encCred ((⟨a0.Kind, a0.Head, zS, a0.B, (⟨zS, zS⟩ : Role), zS⟩ : Cred))).toArray) hST rfl rfl Tryz.sizeOf47 (oneRole a0.B) (Nat.le_of_ble_eq_true rfl) rfl (fun W109 hST => ?_))
          have hSS : (Has (hp w) ((b1, Obj.cells ((encCred a0).toArray : Array Value) 83 (0, 0)) :: []) _) := ((show ST NoF w _ _ ((b3, Obj.cells ((encCred ((⟨a0.Kind, a0.Head, zS, a0.B, (⟨zS, zS⟩ : Role), zS⟩ : Cred))).toArray : Array Value) 83 (0, 0)) :: ((b1, Obj.cells ((encCred a0).toArray : Array Value) 83 (0, 0)) :: [])) from hST).has.sub (Sub.refl _) (fun p hq => ((List.mem_cons.1 hq).elim (fun hq => by rw [hq]; exact (.tail _ (.head _))) (fun hq => (absurd hq List.not_mem_nil)))))
          refine ⟨hSS, ?_⟩
          refine PW_v 10 rfl (by kernel_rfl) (by kernel_rfl) (by kernel_rfl) (.inl rfl) rfl (by decide) hSS (fun W hS => R_assign (v := (.bool r106)) rfl) ?_
          refine PW_done (by kernel_rfl) ?_
          refine bq_n ?_
          refine sq_n ?_
          replace hm83 := Option.some.inj hm83; subst hm83
          exact ⟨r106, ((⟨a0.Kind, a0.Head, zS, a0.B, (⟨zS, zS⟩ : Role), zS⟩ : Cred)), _, (hST.sublist (List.Sublist.refl _)), rfl, rfl, rfl, hm84⟩
        · replace hm83 := if_f hb105 hm83
          refine PW_no 4 rfl (by kernel_rfl) (by kernel_rfl) (by kernel_rfl) rfl rfl (by decide) (congrArg Value.bool hb105) rfl (by decide) hSS ?_
          refine PW_no 5 rfl (by kernel_rfl) (by kernel_rfl) (by kernel_rfl) rfl rfl (by decide) (congrArg Value.bool hb105) rfl (by decide) hSS ?_
          refine PW_no 6 rfl (by kernel_rfl) (by kernel_rfl) (by kernel_rfl) rfl rfl (by decide) (congrArg Value.bool hb105) rfl (by decide) hSS ?_
          refine PW_v 7 rfl (by kernel_rfl) (by kernel_rfl) (by kernel_rfl) (.inl rfl) rfl (by decide) hSS (fun W hS => R_pickF (v := (.bool false)) (congrArg Value.bool hb105) rfl) ?_
          refine PW_v 8 rfl (by kernel_rfl) (by kernel_rfl) (by kernel_rfl) (.inl rfl) rfl (by decide) hSS (fun W hS => R_field fa83_3 rfl) ?_
          refine PW_e0 9 rfl (by kernel_rfl) (.inl rfl) rfl (E_store [] (.agg (encRole a0.B).toArray) ((encCred ((⟨a0.Kind, a0.Head, zS, a0.B, (⟨zS, zS⟩ : Role), zS⟩ : Cred))).toArray) hST rfl rfl Tryz.sizeOf47 (oneRole a0.B) (Nat.le_of_ble_eq_true rfl) rfl (fun W110 hST => ?_))
          have hSS : (Has (hp w) ((b1, Obj.cells ((encCred a0).toArray : Array Value) 83 (0, 0)) :: []) _) := ((show ST NoF w _ _ ((b3, Obj.cells ((encCred ((⟨a0.Kind, a0.Head, zS, a0.B, (⟨zS, zS⟩ : Role), zS⟩ : Cred))).toArray : Array Value) 83 (0, 0)) :: ((b1, Obj.cells ((encCred a0).toArray : Array Value) 83 (0, 0)) :: [])) from hST).has.sub (Sub.refl _) (fun p hq => ((List.mem_cons.1 hq).elim (fun hq => by rw [hq]; exact (.tail _ (.head _))) (fun hq => (absurd hq List.not_mem_nil)))))
          refine ⟨hSS, ?_⟩
          refine PW_v 10 rfl (by kernel_rfl) (by kernel_rfl) (by kernel_rfl) (.inl rfl) rfl (by decide) hSS (fun W hS => R_assign (v := (.bool false)) rfl) ?_
          refine PW_done (by kernel_rfl) ?_
          refine bq_n ?_
          refine sq_n ?_
          replace hm83 := Option.some.inj hm83; subst hm83
          exact ⟨false, ((⟨a0.Kind, a0.Head, zS, a0.B, (⟨zS, zS⟩ : Role), zS⟩ : Cred)), _, (hST.sublist (List.Sublist.refl _)), rfl, rfl, rfl, hm84⟩
      · replace hm83 := if_f hb98 hm83
        refine CW_seq ?_
        refine CW_region ?_
        refine LW_v (.inl rfl) rfl (by decide) (R_int (k := .i64) (a := a0.Kind) (b := 3) (v := (.bool ((a0.Kind == 3)))) rfl rfl rfl) ?_
        refine LW_v (.inl rfl) rfl (by decide) (R_assign (v := (.bool ((a0.Kind == 3)))) rfl) ?_
        refine LW_nil ?_
        refine sq_n ?_
        refine CW_if (b := (a0.Kind == 3)) rfl (fun hb111 => ?_) (fun hb111 => ?_)
        · replace hm83 := if_t hb111 hm83
          refine CW_seq ?_
          refine PW_start (Has (hp w) ((b1, Obj.cells ((encCred a0).toArray : Array Value) 83 (0, 0)) :: [])) Tryz_mixed ?_
          replace hST := hST.drew
          have hSS : (Has (hp w) ((b1, Obj.cells ((encCred a0).toArray : Array Value) 83 (0, 0)) :: []) _) := ((show ST NoF w _ _ ((b3, Obj.cells ((encCred ((⟨a0.Kind, a0.Head, zS, (⟨zS, zS⟩ : Role), (⟨zS, zS⟩ : Role), zS⟩ : Cred))).toArray : Array Value) 83 (0, 0)) :: ((b1, Obj.cells ((encCred a0).toArray : Array Value) 83 (0, 0)) :: [])) from hST).has.sub (Sub.refl _) (fun p hq => ((List.mem_cons.1 hq).elim (fun hq => by rw [hq]; exact (.tail _ (.head _))) (fun hq => (absurd hq List.not_mem_nil)))))
          refine PW_v 0 rfl (by kernel_rfl) (by kernel_rfl) (by kernel_rfl) (.inl rfl) rfl (by decide) hSS (fun W hS => R_field fa83_3 rfl) ?_
          refine PW_v 1 rfl (by kernel_rfl) (by kernel_rfl) (by kernel_rfl) (.inl rfl) rfl (by decide) hSS (fun W hS => R_load (v := (.agg (encRole a0.B).toArray)) rfl (load_boxA hS (.head _) (encRole a0.B) rfl Tryz.isAgg47 Tryz.sizeOf47)) ?_
          refine PW_v 2 rfl (by kernel_rfl) (by kernel_rfl) (by kernel_rfl) (.inl rfl) rfl (by decide) hSS (fun W hS => R_field fa83_5 rfl) ?_
          refine PW_v 3 rfl (by kernel_rfl) (by kernel_rfl) (by kernel_rfl) (.inl rfl) rfl (by decide) hSS (fun W hS => R_load (v := (.string a0.Word2)) rfl (load_box1 hS (.head _) rfl Tryz.isAgg9)) ?_
          refine PW_v 4 rfl (by kernel_rfl) (by kernel_rfl) (by kernel_rfl) (.inl rfl) rfl (by decide) hSS (fun W hS => R_field fa83_3 rfl) ?_
          refine PW_e0 5 rfl (by kernel_rfl) (.inl rfl) rfl (E_store [] (.agg (encRole a0.B).toArray) ((encCred ((⟨a0.Kind, a0.Head, zS, a0.B, (⟨zS, zS⟩ : Role), zS⟩ : Cred))).toArray) hST rfl rfl Tryz.sizeOf47 (oneRole a0.B) (Nat.le_of_ble_eq_true rfl) rfl (fun W114 hST => ?_))
          have hSS : (Has (hp w) ((b1, Obj.cells ((encCred a0).toArray : Array Value) 83 (0, 0)) :: []) _) := ((show ST NoF w _ _ ((b3, Obj.cells ((encCred ((⟨a0.Kind, a0.Head, zS, a0.B, (⟨zS, zS⟩ : Role), zS⟩ : Cred))).toArray : Array Value) 83 (0, 0)) :: ((b1, Obj.cells ((encCred a0).toArray : Array Value) 83 (0, 0)) :: [])) from hST).has.sub (Sub.refl _) (fun p hq => ((List.mem_cons.1 hq).elim (fun hq => by rw [hq]; exact (.tail _ (.head _))) (fun hq => (absurd hq List.not_mem_nil)))))
          refine ⟨hSS, ?_⟩
          refine PW_v 6 rfl (by kernel_rfl) (by kernel_rfl) (by kernel_rfl) (.inl rfl) rfl (by decide) hSS (fun W hS => R_field fa83_5 rfl) ?_
          refine PW_e0 7 rfl (by kernel_rfl) (.inl rfl) rfl (E_store [] (.string a0.Word2) ((encCred ((⟨a0.Kind, a0.Head, zS, a0.B, (⟨zS, zS⟩ : Role), a0.Word2⟩ : Cred))).toArray) hST rfl rfl Tryz.sizeOf9 (oneS a0.Word2) (Nat.le_of_ble_eq_true rfl) rfl (fun W115 hST => ?_))
          have hSS : (Has (hp w) ((b1, Obj.cells ((encCred a0).toArray : Array Value) 83 (0, 0)) :: []) _) := ((show ST NoF w _ _ ((b3, Obj.cells ((encCred ((⟨a0.Kind, a0.Head, zS, a0.B, (⟨zS, zS⟩ : Role), a0.Word2⟩ : Cred))).toArray : Array Value) 83 (0, 0)) :: ((b1, Obj.cells ((encCred a0).toArray : Array Value) 83 (0, 0)) :: [])) from hST).has.sub (Sub.refl _) (fun p hq => ((List.mem_cons.1 hq).elim (fun hq => by rw [hq]; exact (.tail _ (.head _))) (fun hq => (absurd hq List.not_mem_nil)))))
          refine ⟨hSS, ?_⟩
          refine PW_done (by kernel_rfl) ?_
          refine sq_n ?_
          refine CW_region ?_
          refine LW_v (.inl rfl) rfl (by decide) (R_move (v := (.bool r6)) rfl) ?_
          refine LW_v (.inl rfl) rfl (by decide) (R_move (v := (.bool r6)) rfl) ?_
          rcases bool_cases r6 with hb116 | hb116
          · replace hm83 := if_t hb116 hm83
            refine LW_v (.inr ⟨1, true, 46, rfl, rfl, by decide, (congrArg Value.bool hb116)⟩) rfl (by decide) (R_field fa83_3 rfl) ?_
            refine LW_v (.inr ⟨1, true, 46, rfl, rfl, by decide, (congrArg Value.bool hb116)⟩) rfl (by decide) (R_load (v := (.agg (encRole a0.B).toArray)) rfl (load_boxA hST.has (.tail _ (.head _)) (encRole a0.B) rfl Tryz.isAgg47 Tryz.sizeOf47)) ?_
            obtain ⟨r117, hr118, hm83⟩ := bind_some hm83
            replace hST : ST NoF w _ _ ((b3, Obj.cells ((encCred ((⟨a0.Kind, a0.Head, zS, a0.B, (⟨zS, zS⟩ : Role), a0.Word2⟩ : Cred))).toArray : Array Value) 83 (0, 0)) :: ((b1, Obj.cells ((encCred a0).toArray : Array Value) 83 (0, 0)) :: [])) := hST
            have hsz := hST.size
            refine LW_e (.inr ⟨1, true, 46, rfl, rfl, by decide, (congrArg Value.bool hb116)⟩) rfl (by decide) (E_gives (args := [(.agg (encRole a0.B).toArray)]) hST rfl Tryz.call131 (by exact args1 rfl) (w_role_Right a0.B _ _  hr118) (fun W119 hST => ?_))
            refine LW_v (.inl rfl) rfl (by decide) (R_pickT (v := (.bool r117)) (congrArg Value.bool hb116) rfl) ?_
            refine LW_v (.inl rfl) rfl (by decide) (R_move (v := (.bool r117)) rfl) ?_
            rcases bool_cases r117 with hb120 | hb120
            · replace hm83 := if_t hb120 hm83
              refine LW_v (.inr ⟨6, true, 51, rfl, rfl, by decide, (congrArg Value.bool hb120)⟩) rfl (by decide) (R_field fa83_3 rfl) ?_
              refine LW_v (.inr ⟨6, true, 51, rfl, rfl, by decide, (congrArg Value.bool hb120)⟩) rfl (by decide) (R_field fa47_0 rfl) ?_
              refine LW_v (.inr ⟨6, true, 51, rfl, rfl, by decide, (congrArg Value.bool hb120)⟩) rfl (by decide) (R_load (v := (.string a0.B.Owner)) rfl (load_box1 hST.has (.tail _ (.head _)) rfl Tryz.isAgg9)) ?_
              refine LW_v (.inr ⟨6, true, 51, rfl, rfl, by decide, (congrArg Value.bool hb120)⟩) rfl (by decide) (R_field fa83_1 rfl) ?_
              refine LW_v (.inr ⟨6, true, 51, rfl, rfl, by decide, (congrArg Value.bool hb120)⟩) rfl (by decide) (R_field fa47_0 rfl) ?_
              refine LW_v (.inr ⟨6, true, 51, rfl, rfl, by decide, (congrArg Value.bool hb120)⟩) rfl (by decide) (R_load (v := (.string a0.Head.Owner)) rfl (load_box1 hST.has (.tail _ (.head _)) rfl Tryz.isAgg9)) ?_
              refine LW_v (.inr ⟨6, true, 51, rfl, rfl, by decide, (congrArg Value.bool hb120)⟩) rfl (by decide) (R_str (a := a0.B.Owner) (b := a0.Head.Owner) (v := (.bool ((beqS a0.B.Owner a0.Head.Owner)))) rfl rfl rfl) ?_
              refine LW_v (.inl rfl) rfl (by decide) (R_pickT (v := (.bool ((beqS a0.B.Owner a0.Head.Owner)))) (congrArg Value.bool hb120) rfl) ?_
              refine LW_v (.inl rfl) rfl (by decide) (R_move (v := (.bool ((beqS a0.B.Owner a0.Head.Owner)))) rfl) ?_
              rcases bool_cases ((beqS a0.B.Owner a0.Head.Owner)) with hb121 | hb121
              · replace hm83 := if_t hb121 hm83
                refine LW_v (.inr ⟨15, true, 60, rfl, rfl, by decide, (congrArg Value.bool hb121)⟩) rfl (by decide) (R_field fa83_5 rfl) ?_
                refine LW_v (.inr ⟨15, true, 60, rfl, rfl, by decide, (congrArg Value.bool hb121)⟩) rfl (by decide) (R_load (v := (.string a0.Word2)) rfl (load_box1 hST.has (.tail _ (.head _)) rfl Tryz.isAgg9)) ?_
                obtain ⟨r122, hr123, hm83⟩ := bind_some hm83
                replace hST : ST NoF w _ _ ((b3, Obj.cells ((encCred ((⟨a0.Kind, a0.Head, zS, a0.B, (⟨zS, zS⟩ : Role), a0.Word2⟩ : Cred))).toArray : Array Value) 83 (0, 0)) :: ((b1, Obj.cells ((encCred a0).toArray : Array Value) 83 (0, 0)) :: [])) := hST
                have hsz := hST.size
                refine LW_e (.inr ⟨15, true, 60, rfl, rfl, by decide, (congrArg Value.bool hb121)⟩) rfl (by decide) (E_gives (args := [(.string a0.Word2)]) hST rfl Tryz.call134 (by exact args1 rfl) (w_name_Right a0.Word2 _ _  hr123) (fun W124 hST => ?_))
                refine LW_v (.inl rfl) rfl (by decide) (R_pickT (v := (.bool r122)) (congrArg Value.bool hb121) rfl) ?_
                refine LW_v (.inl rfl) rfl (by decide) (R_assign (v := (.bool r122)) rfl) ?_
                refine LW_nil ?_
                refine bq_n ?_
                refine sq_n ?_
                replace hm83 := Option.some.inj hm83; subst hm83
                exact ⟨r122, ((⟨a0.Kind, a0.Head, zS, a0.B, (⟨zS, zS⟩ : Role), a0.Word2⟩ : Cred)), _, (hST.sublist (List.Sublist.refl _)), rfl, rfl, rfl, hm84⟩
              · replace hm83 := if_f hb121 hm83
                refine LW_no rfl (by decide) rfl rfl (by decide) (congrArg Value.bool hb121) ?_
                refine LW_no rfl (by decide) rfl rfl (by decide) (congrArg Value.bool hb121) ?_
                refine LW_no rfl (by decide) rfl rfl (by decide) (congrArg Value.bool hb121) ?_
                refine LW_v (.inl rfl) rfl (by decide) (R_pickF (v := (.bool false)) (congrArg Value.bool hb121) rfl) ?_
                refine LW_v (.inl rfl) rfl (by decide) (R_assign (v := (.bool false)) rfl) ?_
                refine LW_nil ?_
                refine bq_n ?_
                refine sq_n ?_
                replace hm83 := Option.some.inj hm83; subst hm83
                exact ⟨false, ((⟨a0.Kind, a0.Head, zS, a0.B, (⟨zS, zS⟩ : Role), a0.Word2⟩ : Cred)), _, (hST.sublist (List.Sublist.refl _)), rfl, rfl, rfl, hm84⟩
            · replace hm83 := if_f hb120 hm83
              refine LW_no rfl (by decide) rfl rfl (by decide) (congrArg Value.bool hb120) ?_
              refine LW_no rfl (by decide) rfl rfl (by decide) (congrArg Value.bool hb120) ?_
              refine LW_no rfl (by decide) rfl rfl (by decide) (congrArg Value.bool hb120) ?_
              refine LW_no rfl (by decide) rfl rfl (by decide) (congrArg Value.bool hb120) ?_
              refine LW_no rfl (by decide) rfl rfl (by decide) (congrArg Value.bool hb120) ?_
              refine LW_no rfl (by decide) rfl rfl (by decide) (congrArg Value.bool hb120) ?_
              refine LW_no rfl (by decide) rfl rfl (by decide) (congrArg Value.bool hb120) ?_
              refine LW_v (.inl rfl) rfl (by decide) (R_pickF (v := (.bool false)) (congrArg Value.bool hb120) rfl) ?_
              refine LW_v (.inl rfl) rfl (by decide) (R_move (v := (.bool false)) rfl) ?_
              refine LW_no rfl (by decide) rfl rfl (by decide) rfl ?_
              refine LW_no rfl (by decide) rfl rfl (by decide) rfl ?_
              refine LW_no rfl (by decide) rfl rfl (by decide) rfl ?_
              refine LW_v (.inl rfl) rfl (by decide) (R_pickF (v := (.bool false)) rfl rfl) ?_
              refine LW_v (.inl rfl) rfl (by decide) (R_assign (v := (.bool false)) rfl) ?_
              refine LW_nil ?_
              refine bq_n ?_
              refine sq_n ?_
              replace hm83 := Option.some.inj hm83; subst hm83
              exact ⟨false, ((⟨a0.Kind, a0.Head, zS, a0.B, (⟨zS, zS⟩ : Role), a0.Word2⟩ : Cred)), _, (hST.sublist (List.Sublist.refl _)), rfl, rfl, rfl, hm84⟩
          · replace hm83 := if_f hb116 hm83
            refine LW_no rfl (by decide) rfl rfl (by decide) (congrArg Value.bool hb116) ?_
            refine LW_no rfl (by decide) rfl rfl (by decide) (congrArg Value.bool hb116) ?_
            refine LW_no rfl (by decide) rfl rfl (by decide) (congrArg Value.bool hb116) ?_
            refine LW_v (.inl rfl) rfl (by decide) (R_pickF (v := (.bool false)) (congrArg Value.bool hb116) rfl) ?_
            refine LW_v (.inl rfl) rfl (by decide) (R_move (v := (.bool false)) rfl) ?_
            refine LW_no rfl (by decide) rfl rfl (by decide) rfl ?_
            refine LW_no rfl (by decide) rfl rfl (by decide) rfl ?_
            refine LW_no rfl (by decide) rfl rfl (by decide) rfl ?_
            refine LW_no rfl (by decide) rfl rfl (by decide) rfl ?_
            refine LW_no rfl (by decide) rfl rfl (by decide) rfl ?_
            refine LW_no rfl (by decide) rfl rfl (by decide) rfl ?_
            refine LW_no rfl (by decide) rfl rfl (by decide) rfl ?_
            refine LW_v (.inl rfl) rfl (by decide) (R_pickF (v := (.bool false)) rfl rfl) ?_
            refine LW_v (.inl rfl) rfl (by decide) (R_move (v := (.bool false)) rfl) ?_
            refine LW_no rfl (by decide) rfl rfl (by decide) rfl ?_
            refine LW_no rfl (by decide) rfl rfl (by decide) rfl ?_
            refine LW_no rfl (by decide) rfl rfl (by decide) rfl ?_
            refine LW_v (.inl rfl) rfl (by decide) (R_pickF (v := (.bool false)) rfl rfl) ?_
            refine LW_v (.inl rfl) rfl (by decide) (R_assign (v := (.bool false)) rfl) ?_
            refine LW_nil ?_
            refine bq_n ?_
            refine sq_n ?_
            replace hm83 := Option.some.inj hm83; subst hm83
            exact ⟨false, ((⟨a0.Kind, a0.Head, zS, a0.B, (⟨zS, zS⟩ : Role), a0.Word2⟩ : Cred)), _, (hST.sublist (List.Sublist.refl _)), rfl, rfl, rfl, hm84⟩
        · replace hm83 := if_f hb111 hm83
          refine CW_seq ?_
          refine CW_region ?_
          refine LW_v (.inl rfl) rfl (by decide) (R_int (k := .i64) (a := a0.Kind) (b := 4) (v := (.bool ((a0.Kind == 4)))) rfl rfl rfl) ?_
          refine LW_v (.inl rfl) rfl (by decide) (R_assign (v := (.bool ((a0.Kind == 4)))) rfl) ?_
          refine LW_nil ?_
          refine sq_n ?_
          refine CW_if (b := (a0.Kind == 4)) rfl (fun hb125 => ?_) (fun hb125 => ?_)
          · replace hm83 := if_t hb125 hm83
            refine CW_seq ?_
            refine PW_start (Has (hp w) ((b1, Obj.cells ((encCred a0).toArray : Array Value) 83 (0, 0)) :: [])) Tryz_mixed ?_
            replace hST := hST.drew
            have hSS : (Has (hp w) ((b1, Obj.cells ((encCred a0).toArray : Array Value) 83 (0, 0)) :: []) _) := ((show ST NoF w _ _ ((b3, Obj.cells ((encCred ((⟨a0.Kind, a0.Head, zS, (⟨zS, zS⟩ : Role), (⟨zS, zS⟩ : Role), zS⟩ : Cred))).toArray : Array Value) 83 (0, 0)) :: ((b1, Obj.cells ((encCred a0).toArray : Array Value) 83 (0, 0)) :: [])) from hST).has.sub (Sub.refl _) (fun p hq => ((List.mem_cons.1 hq).elim (fun hq => by rw [hq]; exact (.tail _ (.head _))) (fun hq => (absurd hq List.not_mem_nil)))))
            refine PW_v 0 rfl (by kernel_rfl) (by kernel_rfl) (by kernel_rfl) (.inl rfl) rfl (by decide) hSS (fun W hS => R_field fa83_3 rfl) ?_
            refine PW_v 1 rfl (by kernel_rfl) (by kernel_rfl) (by kernel_rfl) (.inl rfl) rfl (by decide) hSS (fun W hS => R_load (v := (.agg (encRole a0.B).toArray)) rfl (load_boxA hS (.head _) (encRole a0.B) rfl Tryz.isAgg47 Tryz.sizeOf47)) ?_
            refine PW_v 2 rfl (by kernel_rfl) (by kernel_rfl) (by kernel_rfl) (.inl rfl) rfl (by decide) hSS (fun W hS => R_field fa83_4 rfl) ?_
            refine PW_v 3 rfl (by kernel_rfl) (by kernel_rfl) (by kernel_rfl) (.inl rfl) rfl (by decide) hSS (fun W hS => R_load (v := (.agg (encRole a0.C).toArray)) rfl (load_boxA hS (.head _) (encRole a0.C) rfl Tryz.isAgg47 Tryz.sizeOf47)) ?_
            refine PW_v 4 rfl (by kernel_rfl) (by kernel_rfl) (by kernel_rfl) (.inl rfl) rfl (by decide) hSS (fun W hS => R_field fa83_3 rfl) ?_
            refine PW_e0 5 rfl (by kernel_rfl) (.inl rfl) rfl (E_store [] (.agg (encRole a0.B).toArray) ((encCred ((⟨a0.Kind, a0.Head, zS, a0.B, (⟨zS, zS⟩ : Role), zS⟩ : Cred))).toArray) hST rfl rfl Tryz.sizeOf47 (oneRole a0.B) (Nat.le_of_ble_eq_true rfl) rfl (fun W128 hST => ?_))
            have hSS : (Has (hp w) ((b1, Obj.cells ((encCred a0).toArray : Array Value) 83 (0, 0)) :: []) _) := ((show ST NoF w _ _ ((b3, Obj.cells ((encCred ((⟨a0.Kind, a0.Head, zS, a0.B, (⟨zS, zS⟩ : Role), zS⟩ : Cred))).toArray : Array Value) 83 (0, 0)) :: ((b1, Obj.cells ((encCred a0).toArray : Array Value) 83 (0, 0)) :: [])) from hST).has.sub (Sub.refl _) (fun p hq => ((List.mem_cons.1 hq).elim (fun hq => by rw [hq]; exact (.tail _ (.head _))) (fun hq => (absurd hq List.not_mem_nil)))))
            refine ⟨hSS, ?_⟩
            refine PW_v 6 rfl (by kernel_rfl) (by kernel_rfl) (by kernel_rfl) (.inl rfl) rfl (by decide) hSS (fun W hS => R_field fa83_4 rfl) ?_
            refine PW_e0 7 rfl (by kernel_rfl) (.inl rfl) rfl (E_store [] (.agg (encRole a0.C).toArray) ((encCred ((⟨a0.Kind, a0.Head, zS, a0.B, a0.C, zS⟩ : Cred))).toArray) hST rfl rfl Tryz.sizeOf47 (oneRole a0.C) (Nat.le_of_ble_eq_true rfl) rfl (fun W129 hST => ?_))
            have hSS : (Has (hp w) ((b1, Obj.cells ((encCred a0).toArray : Array Value) 83 (0, 0)) :: []) _) := ((show ST NoF w _ _ ((b3, Obj.cells ((encCred ((⟨a0.Kind, a0.Head, zS, a0.B, a0.C, zS⟩ : Cred))).toArray : Array Value) 83 (0, 0)) :: ((b1, Obj.cells ((encCred a0).toArray : Array Value) 83 (0, 0)) :: [])) from hST).has.sub (Sub.refl _) (fun p hq => ((List.mem_cons.1 hq).elim (fun hq => by rw [hq]; exact (.tail _ (.head _))) (fun hq => (absurd hq List.not_mem_nil)))))
            refine ⟨hSS, ?_⟩
            refine PW_done (by kernel_rfl) ?_
            refine sq_n ?_
            refine CW_region ?_
            refine LW_v (.inl rfl) rfl (by decide) (R_move (v := (.bool r6)) rfl) ?_
            refine LW_v (.inl rfl) rfl (by decide) (R_move (v := (.bool r6)) rfl) ?_
            rcases bool_cases r6 with hb130 | hb130
            · replace hm83 := if_t hb130 hm83
              refine LW_v (.inr ⟨1, true, 74, rfl, rfl, by decide, (congrArg Value.bool hb130)⟩) rfl (by decide) (R_field fa83_3 rfl) ?_
              refine LW_v (.inr ⟨1, true, 74, rfl, rfl, by decide, (congrArg Value.bool hb130)⟩) rfl (by decide) (R_load (v := (.agg (encRole a0.B).toArray)) rfl (load_boxA hST.has (.tail _ (.head _)) (encRole a0.B) rfl Tryz.isAgg47 Tryz.sizeOf47)) ?_
              obtain ⟨r131, hr132, hm83⟩ := bind_some hm83
              replace hST : ST NoF w _ _ ((b3, Obj.cells ((encCred ((⟨a0.Kind, a0.Head, zS, a0.B, a0.C, zS⟩ : Cred))).toArray : Array Value) 83 (0, 0)) :: ((b1, Obj.cells ((encCred a0).toArray : Array Value) 83 (0, 0)) :: [])) := hST
              have hsz := hST.size
              refine LW_e (.inr ⟨1, true, 74, rfl, rfl, by decide, (congrArg Value.bool hb130)⟩) rfl (by decide) (E_gives (args := [(.agg (encRole a0.B).toArray)]) hST rfl Tryz.call131 (by exact args1 rfl) (w_role_Right a0.B _ _  hr132) (fun W133 hST => ?_))
              refine LW_v (.inl rfl) rfl (by decide) (R_pickT (v := (.bool r131)) (congrArg Value.bool hb130) rfl) ?_
              refine LW_v (.inl rfl) rfl (by decide) (R_move (v := (.bool r131)) rfl) ?_
              rcases bool_cases r131 with hb134 | hb134
              · replace hm83 := if_t hb134 hm83
                refine LW_v (.inr ⟨6, true, 79, rfl, rfl, by decide, (congrArg Value.bool hb134)⟩) rfl (by decide) (R_field fa83_4 rfl) ?_
                refine LW_v (.inr ⟨6, true, 79, rfl, rfl, by decide, (congrArg Value.bool hb134)⟩) rfl (by decide) (R_load (v := (.agg (encRole a0.C).toArray)) rfl (load_boxA hST.has (.tail _ (.head _)) (encRole a0.C) rfl Tryz.isAgg47 Tryz.sizeOf47)) ?_
                obtain ⟨r135, hr136, hm83⟩ := bind_some hm83
                replace hST : ST NoF w _ _ ((b3, Obj.cells ((encCred ((⟨a0.Kind, a0.Head, zS, a0.B, a0.C, zS⟩ : Cred))).toArray : Array Value) 83 (0, 0)) :: ((b1, Obj.cells ((encCred a0).toArray : Array Value) 83 (0, 0)) :: [])) := hST
                have hsz := hST.size
                refine LW_e (.inr ⟨6, true, 79, rfl, rfl, by decide, (congrArg Value.bool hb134)⟩) rfl (by decide) (E_gives (args := [(.agg (encRole a0.C).toArray)]) hST rfl Tryz.call131 (by exact args1 rfl) (w_role_Right a0.C _ _  hr136) (fun W137 hST => ?_))
                refine LW_v (.inl rfl) rfl (by decide) (R_pickT (v := (.bool r135)) (congrArg Value.bool hb134) rfl) ?_
                refine LW_v (.inl rfl) rfl (by decide) (R_move (v := (.bool r135)) rfl) ?_
                rcases bool_cases r135 with hb138 | hb138
                · replace hm83 := if_t hb138 hm83
                  refine LW_v (.inr ⟨11, true, 84, rfl, rfl, by decide, (congrArg Value.bool hb138)⟩) rfl (by decide) (R_field fa83_3 rfl) ?_
                  refine LW_v (.inr ⟨11, true, 84, rfl, rfl, by decide, (congrArg Value.bool hb138)⟩) rfl (by decide) (R_load (v := (.agg (encRole a0.B).toArray)) rfl (load_boxA hST.has (.tail _ (.head _)) (encRole a0.B) rfl Tryz.isAgg47 Tryz.sizeOf47)) ?_
                  refine LW_v (.inr ⟨11, true, 84, rfl, rfl, by decide, (congrArg Value.bool hb138)⟩) rfl (by decide) (R_field fa83_4 rfl) ?_
                  refine LW_v (.inr ⟨11, true, 84, rfl, rfl, by decide, (congrArg Value.bool hb138)⟩) rfl (by decide) (R_load (v := (.agg (encRole a0.C).toArray)) rfl (load_boxA hST.has (.tail _ (.head _)) (encRole a0.C) rfl Tryz.isAgg47 Tryz.sizeOf47)) ?_
                  obtain ⟨r139, hr140, hm83⟩ := bind_some hm83
                  replace hST : ST NoF w _ _ ((b3, Obj.cells ((encCred ((⟨a0.Kind, a0.Head, zS, a0.B, a0.C, zS⟩ : Cred))).toArray : Array Value) 83 (0, 0)) :: ((b1, Obj.cells ((encCred a0).toArray : Array Value) 83 (0, 0)) :: [])) := hST
                  have hsz := hST.size
                  refine LW_e (.inr ⟨11, true, 84, rfl, rfl, by decide, (congrArg Value.bool hb138)⟩) rfl (by decide) (E_gives (args := [(.agg (encRole a0.B).toArray), (.agg (encRole a0.C).toArray)]) hST rfl Tryz.call94 (by exact args2 rfl rfl) (w_role_Compare a0.B a0.C _ _  hr140) (fun W141 hST => ?_))
                  refine LW_v (.inr ⟨11, true, 84, rfl, rfl, by decide, (congrArg Value.bool hb138)⟩) rfl (by decide) (R_int (k := .i64) (a := r139) (b := 0) (v := (.bool ((decide (r139 < 0))))) rfl rfl rfl) ?_
                  refine LW_v (.inl rfl) rfl (by decide) (R_pickT (v := (.bool ((decide (r139 < 0))))) (congrArg Value.bool hb138) rfl) ?_
                  refine LW_v (.inl rfl) rfl (by decide) (R_assign (v := (.bool ((decide (r139 < 0))))) rfl) ?_
                  refine LW_nil ?_
                  refine bq_n ?_
                  refine sq_n ?_
                  replace hm83 := Option.some.inj hm83; subst hm83
                  exact ⟨((decide (r139 < 0))), ((⟨a0.Kind, a0.Head, zS, a0.B, a0.C, zS⟩ : Cred)), _, (hST.sublist (List.Sublist.refl _)), rfl, rfl, rfl, hm84⟩
                · replace hm83 := if_f hb138 hm83
                  refine LW_no rfl (by decide) rfl rfl (by decide) (congrArg Value.bool hb138) ?_
                  refine LW_no rfl (by decide) rfl rfl (by decide) (congrArg Value.bool hb138) ?_
                  refine LW_no rfl (by decide) rfl rfl (by decide) (congrArg Value.bool hb138) ?_
                  refine LW_no rfl (by decide) rfl rfl (by decide) (congrArg Value.bool hb138) ?_
                  refine LW_no rfl (by decide) rfl rfl (by decide) (congrArg Value.bool hb138) ?_
                  refine LW_no rfl (by decide) rfl rfl (by decide) (congrArg Value.bool hb138) ?_
                  refine LW_v (.inl rfl) rfl (by decide) (R_pickF (v := (.bool false)) (congrArg Value.bool hb138) rfl) ?_
                  refine LW_v (.inl rfl) rfl (by decide) (R_assign (v := (.bool false)) rfl) ?_
                  refine LW_nil ?_
                  refine bq_n ?_
                  refine sq_n ?_
                  replace hm83 := Option.some.inj hm83; subst hm83
                  exact ⟨false, ((⟨a0.Kind, a0.Head, zS, a0.B, a0.C, zS⟩ : Cred)), _, (hST.sublist (List.Sublist.refl _)), rfl, rfl, rfl, hm84⟩
              · replace hm83 := if_f hb134 hm83
                refine LW_no rfl (by decide) rfl rfl (by decide) (congrArg Value.bool hb134) ?_
                refine LW_no rfl (by decide) rfl rfl (by decide) (congrArg Value.bool hb134) ?_
                refine LW_no rfl (by decide) rfl rfl (by decide) (congrArg Value.bool hb134) ?_
                refine LW_v (.inl rfl) rfl (by decide) (R_pickF (v := (.bool false)) (congrArg Value.bool hb134) rfl) ?_
                refine LW_v (.inl rfl) rfl (by decide) (R_move (v := (.bool false)) rfl) ?_
                refine LW_no rfl (by decide) rfl rfl (by decide) rfl ?_
                refine LW_no rfl (by decide) rfl rfl (by decide) rfl ?_
                refine LW_no rfl (by decide) rfl rfl (by decide) rfl ?_
                refine LW_no rfl (by decide) rfl rfl (by decide) rfl ?_
                refine LW_no rfl (by decide) rfl rfl (by decide) rfl ?_
                refine LW_no rfl (by decide) rfl rfl (by decide) rfl ?_
                refine LW_v (.inl rfl) rfl (by decide) (R_pickF (v := (.bool false)) rfl rfl) ?_
                refine LW_v (.inl rfl) rfl (by decide) (R_assign (v := (.bool false)) rfl) ?_
                refine LW_nil ?_
                refine bq_n ?_
                refine sq_n ?_
                replace hm83 := Option.some.inj hm83; subst hm83
                exact ⟨false, ((⟨a0.Kind, a0.Head, zS, a0.B, a0.C, zS⟩ : Cred)), _, (hST.sublist (List.Sublist.refl _)), rfl, rfl, rfl, hm84⟩
            · replace hm83 := if_f hb130 hm83
              refine LW_no rfl (by decide) rfl rfl (by decide) (congrArg Value.bool hb130) ?_
              refine LW_no rfl (by decide) rfl rfl (by decide) (congrArg Value.bool hb130) ?_
              refine LW_no rfl (by decide) rfl rfl (by decide) (congrArg Value.bool hb130) ?_
              refine LW_v (.inl rfl) rfl (by decide) (R_pickF (v := (.bool false)) (congrArg Value.bool hb130) rfl) ?_
              refine LW_v (.inl rfl) rfl (by decide) (R_move (v := (.bool false)) rfl) ?_
              refine LW_no rfl (by decide) rfl rfl (by decide) rfl ?_
              refine LW_no rfl (by decide) rfl rfl (by decide) rfl ?_
              refine LW_no rfl (by decide) rfl rfl (by decide) rfl ?_
              refine LW_v (.inl rfl) rfl (by decide) (R_pickF (v := (.bool false)) rfl rfl) ?_
              refine LW_v (.inl rfl) rfl (by decide) (R_move (v := (.bool false)) rfl) ?_
              refine LW_no rfl (by decide) rfl rfl (by decide) rfl ?_
              refine LW_no rfl (by decide) rfl rfl (by decide) rfl ?_
              refine LW_no rfl (by decide) rfl rfl (by decide) rfl ?_
              refine LW_no rfl (by decide) rfl rfl (by decide) rfl ?_
              refine LW_no rfl (by decide) rfl rfl (by decide) rfl ?_
              refine LW_no rfl (by decide) rfl rfl (by decide) rfl ?_
              refine LW_v (.inl rfl) rfl (by decide) (R_pickF (v := (.bool false)) rfl rfl) ?_
              refine LW_v (.inl rfl) rfl (by decide) (R_assign (v := (.bool false)) rfl) ?_
              refine LW_nil ?_
              refine bq_n ?_
              refine sq_n ?_
              replace hm83 := Option.some.inj hm83; subst hm83
              exact ⟨false, ((⟨a0.Kind, a0.Head, zS, a0.B, a0.C, zS⟩ : Cred)), _, (hST.sublist (List.Sublist.refl _)), rfl, rfl, rfl, hm84⟩
          · replace hm83 := if_f hb125 hm83
            refine CW_seq ?_
            refine CW_region ?_
            refine LW_v (.inl rfl) rfl (by decide) (R_assign (v := (.bool false)) rfl) ?_
            refine LW_nil ?_
            refine sq_n ?_
            replace hST : ST NoF w _ _ [] := hST.sublist (List.Sublist.cons _ (List.Sublist.cons _ (List.Sublist.refl _)))
            refine CW_ret ?_
            refine bq_r (sq_r ?_)
            replace hm83 := Option.some.inj hm83; subst hm83
            replace hm84 : some false = some r := hm84
            replace hm84 := Option.some.inj hm84; subst hm84
            refine retQ_1 (v := (.bool false)) rfl rfl ?_
            exact ⟨rfl, hST.ex⟩
  · rintro E W ⟨x66, x67, L68, hST, e70, e71, e72, hm69⟩
    refine CW_seq ?_
    obtain ⟨s78, hm79, hm80⟩ := bind_some hm69
    refine CW_cut (fun E W => ∃ (x74 : Bool) (L75 : List (Nat × Obj)), ST NoF w W (hp w) L75 ∧ E 2 = (.bool x74) ∧ some x74 = some r) ?_ ?_
    · refine CW_region ?_
      refine LW_v (.inl rfl) rfl (by decide) (R_move (v := (.bool x66)) e72) ?_
      refine LW_v (.inl rfl) rfl (by decide) (R_move (v := (.bool x66)) rfl) ?_
      rcases bool_cases x66 with hb81 | hb81
      · replace hm79 := if_t hb81 hm79
        refine LW_v (.inr ⟨1, true, 93, rfl, rfl, by decide, (congrArg Value.bool hb81)⟩) rfl (by decide) (R_load (v := (.agg (encCred x67).toArray)) e71 (load_boxA hST.has (.head _) (encCred x67) rfl Tryz.isAgg83 Tryz.sizeOf83)) ?_
        refine LW_v (.inr ⟨1, true, 93, rfl, rfl, by decide, (congrArg Value.bool hb81)⟩) rfl (by decide) (R_load (v := (.agg (encCred a0).toArray)) e70 (load_boxA hST.has (.tail _ (.head _)) (encCred a0) rfl Tryz.isAgg83 Tryz.sizeOf83)) ?_
        refine LW_v (.inr ⟨1, true, 93, rfl, rfl, by decide, (congrArg Value.bool hb81)⟩) rfl (by decide) (R_eql (a := (encCred x67).toArray) (b := (encCred a0).toArray) rfl rfl (guard_agg Tryz.eqGuardType83) (bin_eql (eqInCred _ x67 a0))) ?_
        refine LW_v (.inl rfl) rfl (by decide) (R_pickT (v := (.bool ((beqCred x67 a0)))) (congrArg Value.bool hb81) rfl) ?_
        refine LW_v (.inl rfl) rfl (by decide) (R_assign (v := (.bool ((beqCred x67 a0)))) rfl) ?_
        refine LW_nil ?_
        refine sq_n ?_
        replace hm79 := Option.some.inj hm79; subst hm79
        exact ⟨((beqCred x67 a0)), _, (hST.sublist (List.Sublist.cons _ (List.Sublist.cons _ (List.Sublist.refl _)))), rfl, hm80⟩
      · replace hm79 := if_f hb81 hm79
        refine LW_no rfl (by decide) rfl rfl (by decide) (congrArg Value.bool hb81) ?_
        refine LW_no rfl (by decide) rfl rfl (by decide) (congrArg Value.bool hb81) ?_
        refine LW_no rfl (by decide) rfl rfl (by decide) (congrArg Value.bool hb81) ?_
        refine LW_v (.inl rfl) rfl (by decide) (R_pickF (v := (.bool false)) (congrArg Value.bool hb81) rfl) ?_
        refine LW_v (.inl rfl) rfl (by decide) (R_assign (v := (.bool false)) rfl) ?_
        refine LW_nil ?_
        refine sq_n ?_
        replace hm79 := Option.some.inj hm79; subst hm79
        exact ⟨false, _, (hST.sublist (List.Sublist.cons _ (List.Sublist.cons _ (List.Sublist.refl _)))), rfl, hm80⟩
    · rintro E W ⟨x74, L75, hST, e77, hm76⟩
      refine CW_ret ?_
      replace hm76 := Option.some.inj hm76; subst hm76
      refine retQ_1 (v := (.bool x74)) rfl e77 ?_
      exact ⟨rfl, hST.ex⟩

theorem w_cred_Set_c1 (a0 : Cred) (r : Bool) (w : World)  (hm : m_cred_Set_c1 a0 = some r) :
    Gives Tryz.prog 124 [(.agg (encCred a0).toArray)] w (.bool r) := by
  have hST := ST.start w
  unfold m_cred_Set_c1 at hm
  refine calls_of_CW (n := 6) Tryz.func124 rfl rfl (Nat.le_of_ble_eq_true rfl) ?_
  refine CW_seq ?_
  refine CW_region ?_
  refine LW_e (.inl rfl) rfl (by decide) (E_box (v := (.agg (encCred a0).toArray)) hST rfl (fun W2 b1 hST => ?_))
  refine LW_v (.inl rfl) rfl (by decide) (R_assign (v := (.bool false)) rfl) ?_
  refine LW_nil ?_
  refine sq_n ?_
  refine CW_seq ?_
  refine CW_region ?_
  refine LW_v (.inl rfl) rfl (by decide) (R_load (v := (.agg (encCred a0).toArray)) rfl (load_boxA hST.has (.head _) (encCred a0) rfl Tryz.isAgg83 Tryz.sizeOf83)) ?_
  obtain ⟨r3, hr4, hm⟩ := bind_some hm
  replace hST : ST NoF w _ _ ((b1, Obj.cells ((encCred a0).toArray : Array Value) 83 (0, 0)) :: []) := hST
  have hsz := hST.size
  refine LW_e (.inl rfl) rfl (by decide) (E_gives (args := [(.agg (encCred a0).toArray)]) hST rfl Tryz.call98 (by exact args1 rfl) (w_cred_Right a0 _ _  hr4) (fun W5 hST => ?_))
  refine LW_v (.inl rfl) rfl (by decide) (R_not (b := r3) rfl) ?_
  refine LW_v (.inl rfl) rfl (by decide) (R_assign (v := (.bool ((!r3)))) rfl) ?_
  refine LW_nil ?_
  refine sq_n ?_
  replace hST : ST NoF w _ _ [] := hST.sublist (List.Sublist.cons _ (List.Sublist.refl _))
  refine CW_ret ?_
  replace hm := Option.some.inj hm; subst hm
  refine retQ_1 (v := (.bool ((!r3)))) rfl rfl ?_
  exact ⟨rfl, hST.ex⟩

theorem w_sortF125 (v_a0 : Value) (a0 : List Cred) (R_a0 : List (Nat × Obj)) (v_a1 : Value) (f1 : ((Cred × Cred)) → Option Int) (r : List Cred) (w : World) {μ0 : Mem} (hH : Held (R_a0 ++ []) w) (hN : (((R_a0 ++ []) : List (Nat × Obj)).map (·.1)).Nodup) (hS0 : Sub μ0 (hpx w (R_a0 ++ []))) (h_a0 : Row 83 encCred 9 v_a0 a0 R_a0) (h_a1 : CbOk Tryz.prog v_a1 μ0 (fun (x : (Cred × Cred)) => [(.agg (encCred x.1).toArray), (.agg (encCred x.2).toArray)]) (fun (r : Int) => (.int .i64 r)) f1) (hm : sortF f1 a0 = some r) :
    GivesM Tryz.prog 125 [v_a0, v_a1] w (R_a0 ++ []) (fun v L1 W' => ∃ (S : List (Nat × Obj)), v = (.tuple #[]) ∧ L1 = (S ++ []) ∧ Row 83 encCred 9 v_a0 r S) := sortF_gives (P := Tryz.prog) (ρ := ren125) lay125 9 Tryz.isAgg83 Tryz.sizeOf83 encCred lenCred oneCred hH hS0 h_a0 h_a1 hm

theorem w_tape_Pen_Number_w (b_a0 : Nat) (v_a0_b : Value) (a0_b : List Int) (R_a0_b : List (Nat × Obj)) (a1 : Int) (r : (Bool × (List Int))) (w : World) {μ0 : Mem} (hH : Held ((b_a0, Obj.cells (#[v_a0_b] : Array Value) 221 (0, 0)) :: (R_a0_b ++ [])) w) (hN : ((((b_a0, Obj.cells (#[v_a0_b] : Array Value) 221 (0, 0)) :: (R_a0_b ++ [])) : List (Nat × Obj)).map (·.1)).Nodup) (hS0 : Sub μ0 (hpx w ((b_a0, Obj.cells (#[v_a0_b] : Array Value) 221 (0, 0)) :: (R_a0_b ++ [])))) (h_a0_b : Row 5 (encI .u8) 1 v_a0_b a0_b R_a0_b) (hm : m_tape_Pen_Number_w a0_b a1 = some r) :
    GivesM Tryz.prog 203 [(.pointer (some ⟨b_a0, 0, none⟩)), (.int .i64 a1)] w ((b_a0, Obj.cells (#[v_a0_b] : Array Value) 221 (0, 0)) :: (R_a0_b ++ [])) (fun v L1 W' => ∃ (y1 : Value) (S2 : List (Nat × Obj)), v = (.bool (r.1)) ∧ L1 = ((b_a0, Obj.cells (#[y1] : Array Value) 221 (0, 0)) :: (S2 ++ [])) ∧ Row 5 (encI .u8) 1 y1 r.2 S2) := by
  have hST := (ST.startM hH hN).weak hS0
  unfold m_tape_Pen_Number_w at hm
  refine calls_of_CW (n := 38) Tryz.func203 rfl rfl (Nat.le_of_ble_eq_true rfl) ?_
  refine CW_seq ?_
  refine CW_region ?_
  refine LW_v (.inl rfl) rfl (by decide) (R_assign (v := (.bool false)) rfl) ?_
  refine LW_nil ?_
  refine sq_n ?_
  refine CW_seq ?_
  refine CW_seq ?_
  refine CW_region ?_
  refine LW_v (.inl rfl) rfl (by decide) (R_move (v := (.pointer (some ⟨b_a0, 0, none⟩))) rfl) ?_
  refine LW_v (.inl rfl) rfl (by decide) (R_ptrEqNil Tryz.underlying219 rfl rfl) ?_
  refine LW_v (.inl rfl) rfl (by decide) (R_move (v := (.bool false)) rfl) ?_
  refine LW_v (.inr ⟨2, false, 7, rfl, rfl, by decide, rfl⟩) rfl (by decide) (R_move (v := (.int .i64 a1)) rfl) ?_
  refine LW_v (.inr ⟨2, false, 7, rfl, rfl, by decide, rfl⟩) rfl (by decide) (R_int (k := .i64) (a := a1) (b := 0) (v := (.bool ((decide (a1 < 0))))) rfl rfl rfl) ?_
  refine LW_v (.inl rfl) rfl (by decide) (R_pickF (v := (.bool ((decide (a1 < 0))))) rfl rfl) ?_
  refine LW_nil ?_
  refine sq_n ?_
  refine CW_if (b := (decide (a1 < 0))) rfl (fun hb2 => ?_) (fun hb2 => ?_)
  · replace hm := if_t hb2 hm
    refine CW_seq ?_
    refine CW_region ?_
    refine LW_v (.inl rfl) rfl (by decide) (R_assign (v := (.bool false)) rfl) ?_
    refine LW_nil ?_
    refine sq_n ?_
    refine CW_ret ?_
    refine sq_r ?_
    replace hm := Option.some.inj hm; subst hm
    refine retQ_1 (v := (.bool false)) rfl rfl ?_
    replace hST : ST (keys ((b_a0, Obj.cells (#[v_a0_b] : Array Value) 221 (0, 0)) :: (R_a0_b ++ []))) w _ _ ((b_a0, Obj.cells (#[v_a0_b] : Array Value) 221 (0, 0)) :: (R_a0_b ++ [])) := hST
    exact ⟨_, ((b_a0, Obj.cells (#[v_a0_b] : Array Value) 221 (0, 0)) :: (R_a0_b ++ [])), rfl, (ST.backM (L1 := ((b_a0, Obj.cells (#[v_a0_b] : Array Value) 221 (0, 0)) :: (R_a0_b ++ []))) (by have hh : ST (keys ((b_a0, Obj.cells (#[v_a0_b] : Array Value) 221 (0, 0)) :: (R_a0_b ++ []))) w _ _ ((b_a0, Obj.cells (#[v_a0_b] : Array Value) 221 (0, 0)) :: (R_a0_b ++ [])) := hST.perm (List.Perm.refl _); simpa only [List.append_assoc, List.cons_append, List.nil_append] using hh)), v_a0_b, R_a0_b, rfl, rfl, h_a0_b⟩
  · replace hm := if_f hb2 hm
    refine CW_skip ?_
    refine sq_n ?_
    refine CW_seq ?_
    refine CW_block (CW_loop (fun m E W => ∃ (x68 : Int) (v69 : Value) (l70 : List Int) (R72 : List (Nat × Obj)) (L92 : List (Nat × Obj)), ST (keys ((b_a0, Obj.cells (#[v_a0_b] : Array Value) 221 (0, 0)) :: (R_a0_b ++ []))) w W μ0 ((b_a0, Obj.cells (#[v69] : Array Value) 221 (0, 0)) :: (R72 ++ L92)) ∧ E 0 = (.pointer (some ⟨b_a0, 0, none⟩)) ∧ E 1 = (.int .i64 x68) ∧ Row 5 (encI .u8) 1 v69 l70 R72 ∧ m_tape_Pen_Number_w_L1 m x68 l70 = some r) FUEL ⟨a1, v_a0_b, a0_b, R_a0_b, _, (hST.sublist (List.Sublist.refl _)), rfl, rfl, h_a0_b, hm⟩ ?_)
    rintro m E W ⟨x68, v69, l70, R72, L92, hST, e95, e96, hs71, hm93⟩
    cases m with
    | zero => rw [m_tape_Pen_Number_w_L1] at hm93; cases hm93
    | succ n94 =>
      rw [m_tape_Pen_Number_w_L1] at hm93
      refine CW_seq ?_
      refine CW_seq ?_
      refine CW_region ?_
      refine LW_v (.inl rfl) rfl (by decide) (R_move (v := (.int .i64 x68)) e96) ?_
      refine LW_v (.inl rfl) rfl (by decide) (R_int (k := .i64) (a := x68) (b := 128) (v := (.bool ((decide (x68 ≥ 128))))) rfl rfl rfl) ?_
      refine LW_nil ?_
      refine sq_n ?_
      refine CW_if (b := (decide (x68 ≥ 128))) rfl (fun hb97 => ?_) (fun hb97 => ?_)
      · replace hm93 := if_t hb97 hm93
        refine CW_skip ?_
        refine sq_n ?_
        refine CW_seq ?_
        refine CW_block ?_
        refine CW_region ?_
        refine LW_v (.inl rfl) rfl (by decide) (R_move (v := (.pointer (some ⟨b_a0, 0, none⟩))) e95) ?_
        refine LW_v (.inl rfl) rfl (by decide) (R_move (v := (.pointer (some ⟨b_a0, 0, none⟩))) e95) ?_
        refine LW_v (.inl rfl) rfl (by decide) (R_nilCheck rfl) ?_
        refine LW_v (.inl rfl) rfl (by decide) (R_field fa221_0 rfl) ?_
        refine LW_v (.inl rfl) rfl (by decide) (R_load (v := v69) rfl (load_box1 hST.has (.head _) rfl Tryz.isAgg189)) ?_
        refine LW_v (.inl rfl) rfl (by decide) (R_move (v := (.int .i64 x68)) e96) ?_
        refine LW_v (.inl rfl) rfl (by decide) (R_convInt (k' := .i64) (a := x68) Tryz.underlying3 Tryz.underlying5 rfl) ?_
        refine LW_v (.inl rfl) rfl (by decide) (R_div (k := .u8) (a := ((IntKind.u8.wrap x68))) (b := 128) (v := (.int .u8 ((IntKind.u8.wrap (BitVec.ofInt (IntKind.bits .u8) ((IntKind.u8.wrap x68)) ||| BitVec.ofInt (IntKind.bits .u8) 128).toNat)))) rfl rfl (by decide) rfl) ?_
        refine LW_e (.inl rfl) rfl (by decide) (E_buildSlice (qs := #[(0, (.int .u8 ((IntKind.u8.wrap (BitVec.ofInt (IntKind.bits .u8) ((IntKind.u8.wrap x68)) ||| BitVec.ofInt (IntKind.bits .u8) 128).toNat))))]) (cs := [(.int .u8 ((IntKind.u8.wrap (BitVec.ofInt (IntKind.bits .u8) ((IntKind.u8.wrap x68)) ||| BitVec.ofInt (IntKind.bits .u8) 128).toNat)))].toArray) hST (parts1 rfl) (run_lit [(.int .u8 ((IntKind.u8.wrap (BitVec.ofInt (IntKind.bits .u8) ((IntKind.u8.wrap x68)) ||| BitVec.ofInt (IntKind.bits .u8) 128).toNat)))] Tryz.underlying189 Tryz.sizeOf5 Tryz.zeroValue5 (by decide) rfl (by intro v hv; simp only [List.mem_cons, List.not_mem_nil, or_false] at hv; rcases hv with rfl <;> rfl) rfl rfl) (fun W99 b98 hST => ?_))
        obtain ⟨l100, hb101, hm93⟩ := bind_some hm93
        refine LW_e (.inl rfl) rfl (by decide) (E_append (enc := (encI .u8)) (v := v69) (vs := (.slice (some ⟨b98, 0, none⟩) 1 1)) (R := R72) [_, _] hST (fun _ => rfl) (by decide) (oneI _) Tryz.underlying189 info5.1 info5.2.1 rfl info5.2.2.1 info5.2.2.2 rfl rfl hs71 (Sl.lit (enc := (encI .u8)) (l := [(IntKind.u8.wrap (BitVec.ofInt (IntKind.bits .u8) ((IntKind.u8.wrap x68)) ||| BitVec.ofInt (IntKind.bits .u8) 128).toNat)]) (fun _ => rfl) rfl (Nat.le_of_ble_eq_true rfl) rfl (hST.at_ (.head _))) hb101 (fun W102 v105 R103 hST hR104 => ?_))
        refine LW_v (.inl rfl) rfl (by decide) (R_nilCheck rfl) ?_
        refine LW_v (.inl rfl) rfl (by decide) (R_field fa221_0 rfl) ?_
        obtain ⟨A106, c107, rfl⟩ := hR104.form
        refine LW_e0 (.inl rfl) rfl (E_store [_] (.slice A106 l100.length c107) (#[(.slice A106 l100.length c107)]) hST rfl rfl Tryz.sizeOf189 (by simp [Value.cells, Value.oneCell']) (Nat.le_of_ble_eq_true rfl) rfl (fun W108 hST => ?_))
        refine LW_nil ?_
        refine bq_n ?_
        refine sq_n ?_
        replace hST : ST (keys ((b_a0, Obj.cells (#[v_a0_b] : Array Value) 221 (0, 0)) :: (R_a0_b ++ []))) w _ _ ((b98, Obj.cells ([(.int .u8 ((IntKind.u8.wrap (BitVec.ofInt (IntKind.bits .u8) ((IntKind.u8.wrap x68)) ||| BitVec.ofInt (IntKind.bits .u8) 128).toNat)))].toArray : Array Value) 5 (0, 0)) :: ((b_a0, Obj.cells (#[(.slice A106 l100.length c107)] : Array Value) 221 (0, 0)) :: (R103 ++ L92))) := hST
        replace hST : ST (keys ((b_a0, Obj.cells (#[v_a0_b] : Array Value) 221 (0, 0)) :: (R_a0_b ++ []))) w _ _ ((b_a0, Obj.cells (#[(.slice A106 l100.length c107)] : Array Value) 221 (0, 0)) :: (R103 ++ L92)) := hST.sublist (List.Sublist.cons _ (List.Sublist.refl _))
        refine CW_region ?_
        refine LW_v (.inl rfl) rfl (by decide) (R_move (v := (.int .i64 x68)) e96) ?_
        refine LW_v (.inl rfl) rfl (by decide) (R_shr (a := x68) (b := 7) rfl rfl (by decide)) ?_
        refine LW_v (.inl rfl) rfl (by decide) (R_assign (v := (.int .i64 ((Int.fdiv x68 (2 ^ min (Int.toNat 7) (IntKind.bits .i64)))))) rfl) ?_
        refine LW_nil ?_
        refine sq_n ?_
        exact ⟨n94, Nat.lt_succ_self _, ((Int.fdiv x68 (2 ^ min (Int.toNat 7) (IntKind.bits .i64)))), (.slice A106 l100.length c107), l100, R103, _, (hST.sublist (List.Sublist.refl _)), e95, rfl, hR104, hm93⟩
      · replace hm93 := if_f hb97 hm93
        refine CW_exit ?_
        refine sq_e (sq_e (bq_e ?_))
        refine sq_n ?_
        refine CW_seq ?_
        refine CW_region ?_
        refine LW_v (.inl rfl) rfl (by decide) (R_move (v := (.pointer (some ⟨b_a0, 0, none⟩))) e95) ?_
        refine LW_v (.inl rfl) rfl (by decide) (R_move (v := (.pointer (some ⟨b_a0, 0, none⟩))) e95) ?_
        refine LW_v (.inl rfl) rfl (by decide) (R_nilCheck rfl) ?_
        refine LW_v (.inl rfl) rfl (by decide) (R_field fa221_0 rfl) ?_
        refine LW_v (.inl rfl) rfl (by decide) (R_load (v := v69) rfl (load_box1 hST.has (.head _) rfl Tryz.isAgg189)) ?_
        refine LW_v (.inl rfl) rfl (by decide) (R_move (v := (.int .i64 x68)) e96) ?_
        refine LW_v (.inl rfl) rfl (by decide) (R_convInt (k' := .i64) (a := x68) Tryz.underlying3 Tryz.underlying5 rfl) ?_
        refine LW_e (.inl rfl) rfl (by decide) (E_buildSlice (qs := #[(0, (.int .u8 ((IntKind.u8.wrap x68))))]) (cs := [(.int .u8 ((IntKind.u8.wrap x68)))].toArray) hST (parts1 rfl) (run_lit [(.int .u8 ((IntKind.u8.wrap x68)))] Tryz.underlying189 Tryz.sizeOf5 Tryz.zeroValue5 (by decide) rfl (by intro v hv; simp only [List.mem_cons, List.not_mem_nil, or_false] at hv; rcases hv with rfl <;> rfl) rfl rfl) (fun W110 b109 hST => ?_))
        obtain ⟨l111, hb112, hm93⟩ := bind_some hm93
        refine LW_e (.inl rfl) rfl (by decide) (E_append (enc := (encI .u8)) (v := v69) (vs := (.slice (some ⟨b109, 0, none⟩) 1 1)) (R := R72) [_, _] hST (fun _ => rfl) (by decide) (oneI _) Tryz.underlying189 info5.1 info5.2.1 rfl info5.2.2.1 info5.2.2.2 rfl rfl hs71 (Sl.lit (enc := (encI .u8)) (l := [(IntKind.u8.wrap x68)]) (fun _ => rfl) rfl (Nat.le_of_ble_eq_true rfl) rfl (hST.at_ (.head _))) hb112 (fun W113 v116 R114 hST hR115 => ?_))
        refine LW_v (.inl rfl) rfl (by decide) (R_nilCheck rfl) ?_
        refine LW_v (.inl rfl) rfl (by decide) (R_field fa221_0 rfl) ?_
        obtain ⟨A117, c118, rfl⟩ := hR115.form
        refine LW_e0 (.inl rfl) rfl (E_store [_] (.slice A117 l111.length c118) (#[(.slice A117 l111.length c118)]) hST rfl rfl Tryz.sizeOf189 (by simp [Value.cells, Value.oneCell']) (Nat.le_of_ble_eq_true rfl) rfl (fun W119 hST => ?_))
        refine LW_nil ?_
        refine sq_n ?_
        replace hST : ST (keys ((b_a0, Obj.cells (#[v_a0_b] : Array Value) 221 (0, 0)) :: (R_a0_b ++ []))) w _ _ ((b109, Obj.cells ([(.int .u8 ((IntKind.u8.wrap x68)))].toArray : Array Value) 5 (0, 0)) :: ((b_a0, Obj.cells (#[(.slice A117 l111.length c118)] : Array Value) 221 (0, 0)) :: (R114 ++ L92))) := hST
        replace hST : ST (keys ((b_a0, Obj.cells (#[v_a0_b] : Array Value) 221 (0, 0)) :: (R_a0_b ++ []))) w _ _ ((b_a0, Obj.cells (#[(.slice A117 l111.length c118)] : Array Value) 221 (0, 0)) :: (R114 ++ L92)) := hST.sublist (List.Sublist.cons _ (List.Sublist.refl _))
        refine CW_seq ?_
        refine CW_region ?_
        refine LW_v (.inl rfl) rfl (by decide) (R_assign (v := (.bool true)) rfl) ?_
        refine LW_nil ?_
        refine sq_n ?_
        refine CW_ret ?_
        replace hm93 := Option.some.inj hm93; subst hm93
        refine retQ_1 (v := (.bool true)) rfl rfl ?_
        replace hST : ST (keys ((b_a0, Obj.cells (#[v_a0_b] : Array Value) 221 (0, 0)) :: (R_a0_b ++ []))) w _ _ ((b_a0, Obj.cells (#[(.slice A117 l111.length c118)] : Array Value) 221 (0, 0)) :: (R114 ++ L92)) := hST
        exact ⟨_, ((b_a0, Obj.cells (#[(.slice A117 l111.length c118)] : Array Value) 221 (0, 0)) :: (R114 ++ [])), rfl, (ST.backM (L1 := ((b_a0, Obj.cells (#[(.slice A117 l111.length c118)] : Array Value) 221 (0, 0)) :: (R114 ++ []))) (by have hh : ST (keys ((b_a0, Obj.cells (#[v_a0_b] : Array Value) 221 (0, 0)) :: (R_a0_b ++ []))) w _ _ ((b_a0, Obj.cells (#[(.slice A117 l111.length c118)] : Array Value) 221 (0, 0)) :: (R114 ++ L92)) := hST.perm (List.Perm.refl _); simpa only [List.append_assoc, List.cons_append, List.nil_append] using hh)), (.slice A117 l111.length c118), R114, rfl, rfl, hR115⟩

theorem w_tape_Pen_Text_w (b_a0 : Nat) (v_a0_b : Value) (a0_b : List Int) (R_a0_b : List (Nat × Obj)) (v_a1 : Value) (a1 : List Int) (r : (Bool × (List Int))) (w : World) {μ0 : Mem} (hH : Held ((b_a0, Obj.cells (#[v_a0_b] : Array Value) 221 (0, 0)) :: (R_a0_b ++ [])) w) (hN : ((((b_a0, Obj.cells (#[v_a0_b] : Array Value) 221 (0, 0)) :: (R_a0_b ++ [])) : List (Nat × Obj)).map (·.1)).Nodup) (hS0 : Sub μ0 (hpx w ((b_a0, Obj.cells (#[v_a0_b] : Array Value) 221 (0, 0)) :: (R_a0_b ++ [])))) (h_a0_b : Row 5 (encI .u8) 1 v_a0_b a0_b R_a0_b) (h_a1 : Sl (Pl (encI .u8)) 1 μ0 v_a1 a1) (hm : m_tape_Pen_Text_w a0_b a1 = some r) :
    GivesM Tryz.prog 239 [(.pointer (some ⟨b_a0, 0, none⟩)), v_a1] w ((b_a0, Obj.cells (#[v_a0_b] : Array Value) 221 (0, 0)) :: (R_a0_b ++ [])) (fun v L1 W' => ∃ (y1 : Value) (S2 : List (Nat × Obj)), v = (.bool (r.1)) ∧ L1 = ((b_a0, Obj.cells (#[y1] : Array Value) 221 (0, 0)) :: (S2 ++ [])) ∧ Row 5 (encI .u8) 1 y1 r.2 S2) := by
  have hST := (ST.startM hH hN).weak hS0
  unfold m_tape_Pen_Text_w at hm
  refine calls_of_CW (n := 25) Tryz.func239 rfl rfl (Nat.le_of_ble_eq_true rfl) ?_
  refine CW_seq ?_
  refine CW_region ?_
  refine LW_v (.inl rfl) rfl (by decide) (R_assign (v := (.bool false)) rfl) ?_
  refine LW_nil ?_
  refine sq_n ?_
  refine CW_seq ?_
  refine CW_seq ?_
  refine CW_region ?_
  refine LW_v (.inl rfl) rfl (by decide) (R_move (v := (.pointer (some ⟨b_a0, 0, none⟩))) rfl) ?_
  refine LW_v (.inl rfl) rfl (by decide) (R_ptrEqNil Tryz.underlying219 rfl rfl) ?_
  refine LW_v (.inl rfl) rfl (by decide) (R_move (v := (.bool false)) rfl) ?_
  refine LW_v (.inr ⟨2, false, 7, rfl, rfl, by decide, rfl⟩) rfl (by decide) (R_move (v := v_a1) rfl) ?_
  refine LW_v (.inr ⟨2, false, 7, rfl, rfl, by decide, rfl⟩) rfl (by decide) (R_len Tryz.underlying189 rfl h_a1) ?_
  refine LW_v (.inr ⟨2, false, 7, rfl, rfl, by decide, rfl⟩) rfl (by decide) (R_int (k := .i64) (a := ((a1.length : Int))) (b := 2048) (v := (.bool ((decide (((a1.length : Int)) > 2048))))) rfl rfl rfl) ?_
  refine LW_v (.inl rfl) rfl (by decide) (R_pickF (v := (.bool ((decide (((a1.length : Int)) > 2048))))) rfl rfl) ?_
  refine LW_nil ?_
  refine sq_n ?_
  refine CW_if (b := (decide (((a1.length : Int)) > 2048))) rfl (fun hb2 => ?_) (fun hb2 => ?_)
  · replace hm := if_t hb2 hm
    refine CW_seq ?_
    refine CW_region ?_
    refine LW_v (.inl rfl) rfl (by decide) (R_assign (v := (.bool false)) rfl) ?_
    refine LW_nil ?_
    refine sq_n ?_
    refine CW_ret ?_
    refine sq_r ?_
    replace hm := Option.some.inj hm; subst hm
    refine retQ_1 (v := (.bool false)) rfl rfl ?_
    replace hST : ST (keys ((b_a0, Obj.cells (#[v_a0_b] : Array Value) 221 (0, 0)) :: (R_a0_b ++ []))) w _ _ ((b_a0, Obj.cells (#[v_a0_b] : Array Value) 221 (0, 0)) :: (R_a0_b ++ [])) := hST
    exact ⟨_, ((b_a0, Obj.cells (#[v_a0_b] : Array Value) 221 (0, 0)) :: (R_a0_b ++ [])), rfl, (ST.backM (L1 := ((b_a0, Obj.cells (#[v_a0_b] : Array Value) 221 (0, 0)) :: (R_a0_b ++ []))) (by have hh : ST (keys ((b_a0, Obj.cells (#[v_a0_b] : Array Value) 221 (0, 0)) :: (R_a0_b ++ []))) w _ _ ((b_a0, Obj.cells (#[v_a0_b] : Array Value) 221 (0, 0)) :: (R_a0_b ++ [])) := hST.perm (List.Perm.refl _); simpa only [List.append_assoc, List.cons_append, List.nil_append] using hh)), v_a0_b, R_a0_b, rfl, rfl, h_a0_b⟩
  · replace hm := if_f hb2 hm
    refine CW_skip ?_
    refine sq_n ?_
    refine CW_seq ?_
    refine CW_region ?_
    refine LW_v (.inl rfl) rfl (by decide) (R_move (v := (.pointer (some ⟨b_a0, 0, none⟩))) rfl) ?_
    refine LW_v (.inl rfl) rfl (by decide) (R_move (v := v_a1) rfl) ?_
    refine LW_v (.inl rfl) rfl (by decide) (R_len Tryz.underlying189 rfl h_a1) ?_
    obtain ⟨r3, hr4, hm⟩ := bind_some hm
    replace hST : ST (keys ((b_a0, Obj.cells (#[v_a0_b] : Array Value) 221 (0, 0)) :: (R_a0_b ++ []))) w _ _ ((b_a0, Obj.cells (#[v_a0_b] : Array Value) 221 (0, 0)) :: (R_a0_b ++ [])) := hST.perm (List.Perm.refl _)
    have hsz := hST.size
    refine LW_e (.inl rfl) rfl (by decide) (E_callM (args := [(.pointer (some ⟨b_a0, 0, none⟩)), (.int .i64 ((a1.length : Int)))]) (caps := #[]) (((b_a0, Obj.cells (#[v_a0_b] : Array Value) 221 (0, 0)) :: (R_a0_b ++ []))) ([]) hST (by simp only [List.append_assoc, List.cons_append, List.nil_append]; exact List.Perm.refl _) rfl Tryz.call203 (by exact args2 rfl rfl) (fun hH hN hsb hmm => w_tape_Pen_Number_w b_a0 v_a0_b a0_b R_a0_b ((a1.length : Int)) _ _ hH hN (Sub.refl _) h_a0_b hr4) (fun W5 v8 μ6 L10 hST hle7 hlift hK9 => ?_))
    obtain ⟨y11, S12, hv14, rfl, hy13⟩ := hK9
    replace hv14 := hv14.symm; subst hv14
    simp only [List.append_assoc, List.cons_append, List.nil_append] at hST
    refine LW_nil ?_
    refine sq_n ?_
    refine CW_seq ?_
    refine CW_region ?_
    refine LW_v (.inl rfl) rfl (by decide) (R_move (v := (.pointer (some ⟨b_a0, 0, none⟩))) rfl) ?_
    refine LW_v (.inl rfl) rfl (by decide) (R_move (v := (.pointer (some ⟨b_a0, 0, none⟩))) rfl) ?_
    refine LW_v (.inl rfl) rfl (by decide) (R_nilCheck rfl) ?_
    refine LW_v (.inl rfl) rfl (by decide) (R_field fa221_0 rfl) ?_
    refine LW_v (.inl rfl) rfl (by decide) (R_load (v := y11) rfl (load_box1 hST.has (.head _) rfl Tryz.isAgg189)) ?_
    refine LW_v (.inl rfl) rfl (by decide) (R_move (v := v_a1) rfl) ?_
    obtain ⟨l15, hb16, hm⟩ := bind_some hm
    refine LW_e (.inl rfl) rfl (by decide) (E_append (enc := (encI .u8)) (v := y11) (vs := v_a1) (R := S12) [_] hST (fun _ => rfl) (by decide) (oneI _) Tryz.underlying189 info5.1 info5.2.1 rfl info5.2.2.1 info5.2.2.2 rfl rfl hy13 (h_a1.mono (Pl.mono _) (hle7.trans hST.sub_hp)) hb16 (fun W17 v20 R18 hST hR19 => ?_))
    refine LW_v (.inl rfl) rfl (by decide) (R_nilCheck rfl) ?_
    refine LW_v (.inl rfl) rfl (by decide) (R_field fa221_0 rfl) ?_
    obtain ⟨A21, c22, rfl⟩ := hR19.form
    refine LW_e0 (.inl rfl) rfl (E_store [] (.slice A21 l15.length c22) (#[(.slice A21 l15.length c22)]) hST rfl rfl Tryz.sizeOf189 (by simp [Value.cells, Value.oneCell']) (Nat.le_of_ble_eq_true rfl) rfl (fun W23 hST => ?_))
    refine LW_nil ?_
    refine sq_n ?_
    refine CW_seq ?_
    refine CW_region ?_
    refine LW_v (.inl rfl) rfl (by decide) (R_assign (v := (.bool true)) rfl) ?_
    refine LW_nil ?_
    refine sq_n ?_
    refine CW_ret ?_
    replace hm := Option.some.inj hm; subst hm
    refine retQ_1 (v := (.bool true)) rfl rfl ?_
    replace hST : ST (keys ((b_a0, Obj.cells (#[v_a0_b] : Array Value) 221 (0, 0)) :: (R_a0_b ++ []))) w _ _ ((b_a0, Obj.cells (#[(.slice A21 l15.length c22)] : Array Value) 221 (0, 0)) :: (R18 ++ [])) := hST
    exact ⟨_, ((b_a0, Obj.cells (#[(.slice A21 l15.length c22)] : Array Value) 221 (0, 0)) :: (R18 ++ [])), rfl, (ST.backM (L1 := ((b_a0, Obj.cells (#[(.slice A21 l15.length c22)] : Array Value) 221 (0, 0)) :: (R18 ++ []))) (by have hh : ST (keys ((b_a0, Obj.cells (#[v_a0_b] : Array Value) 221 (0, 0)) :: (R_a0_b ++ []))) w _ _ ((b_a0, Obj.cells (#[(.slice A21 l15.length c22)] : Array Value) 221 (0, 0)) :: (R18 ++ [])) := hST.perm (List.Perm.refl _); simpa only [List.append_assoc, List.cons_append, List.nil_append] using hh)), (.slice A21 l15.length c22), R18, rfl, rfl, hR19⟩

theorem w_name_Put_w (b_a0 : Nat) (v_a0_b : Value) (a0_b : List Int) (R_a0_b : List (Nat × Obj)) (a1 : ByteArray) (r : (Bool × (List Int))) (w : World) {μ0 : Mem} (hH : Held ((b_a0, Obj.cells (#[v_a0_b] : Array Value) 221 (0, 0)) :: (R_a0_b ++ [])) w) (hN : ((((b_a0, Obj.cells (#[v_a0_b] : Array Value) 221 (0, 0)) :: (R_a0_b ++ [])) : List (Nat × Obj)).map (·.1)).Nodup) (hS0 : Sub μ0 (hpx w ((b_a0, Obj.cells (#[v_a0_b] : Array Value) 221 (0, 0)) :: (R_a0_b ++ [])))) (h_a0_b : Row 5 (encI .u8) 1 v_a0_b a0_b R_a0_b) (hm : m_name_Put_w a0_b a1 = some r) :
    GivesM Tryz.prog 205 [(.pointer (some ⟨b_a0, 0, none⟩)), (.string a1)] w ((b_a0, Obj.cells (#[v_a0_b] : Array Value) 221 (0, 0)) :: (R_a0_b ++ [])) (fun v L1 W' => ∃ (y1 : Value) (S2 : List (Nat × Obj)), v = (.bool (r.1)) ∧ L1 = ((b_a0, Obj.cells (#[y1] : Array Value) 221 (0, 0)) :: (S2 ++ [])) ∧ Row 5 (encI .u8) 1 y1 r.2 S2) := by
  have hST := (ST.startM hH hN).weak hS0
  unfold m_name_Put_w at hm
  refine calls_of_CW (n := 17) Tryz.func205 rfl rfl (Nat.le_of_ble_eq_true rfl) ?_
  refine CW_seq ?_
  refine CW_region ?_
  refine LW_v (.inl rfl) rfl (by decide) (R_assign (v := (.bool false)) rfl) ?_
  refine LW_nil ?_
  refine sq_n ?_
  refine CW_seq ?_
  obtain ⟨s35, hm36, hm37⟩ := bind_some hm
  refine CW_cut (fun E W => ∃ (x26 : Bool) (v27 : Value) (l28 : List Int) (R30 : List (Nat × Obj)) (μ25 : Mem) (L31 : List (Nat × Obj)), Sub μ0 μ25 ∧ ST (keys ((b_a0, Obj.cells (#[v_a0_b] : Array Value) 221 (0, 0)) :: (R_a0_b ++ []))) w W μ25 ((b_a0, Obj.cells (#[v27] : Array Value) 221 (0, 0)) :: (R30 ++ L31)) ∧ E 4 = (.bool x26) ∧ Row 5 (encI .u8) 1 v27 l28 R30 ∧ some (x26, l28) = some r) ?_ ?_
  · refine CW_region ?_
    refine LW_v (.inl rfl) rfl (by decide) (R_move (v := (.pointer (some ⟨b_a0, 0, none⟩))) rfl) ?_
    refine LW_v (.inl rfl) rfl (by decide) (R_ptrNeNil Tryz.underlying219 rfl rfl) ?_
    refine LW_v (.inl rfl) rfl (by decide) (R_move (v := (.bool true)) rfl) ?_
    refine LW_v (.inr ⟨2, true, 7, rfl, rfl, by decide, rfl⟩) rfl (by decide) (R_move (v := (.string a1)) rfl) ?_
    obtain ⟨r38, hr39, hm36⟩ := bind_some hm36
    replace hST : ST (keys ((b_a0, Obj.cells (#[v_a0_b] : Array Value) 221 (0, 0)) :: (R_a0_b ++ []))) w _ _ ((b_a0, Obj.cells (#[v_a0_b] : Array Value) 221 (0, 0)) :: (R_a0_b ++ [])) := hST
    have hsz := hST.size
    refine LW_e (.inr ⟨2, true, 7, rfl, rfl, by decide, rfl⟩) rfl (by decide) (E_gives (args := [(.string a1)]) hST rfl Tryz.call134 (by exact args1 rfl) (w_name_Right a1 _ _  hr39) (fun W40 hST => ?_))
    refine LW_v (.inl rfl) rfl (by decide) (R_pickT (v := (.bool r38)) rfl rfl) ?_
    refine LW_v (.inl rfl) rfl (by decide) (R_move (v := (.bool r38)) rfl) ?_
    rcases bool_cases r38 with hb41 | hb41
    · replace hm36 := if_t hb41 hm36
      refine LW_v (.inr ⟨6, true, 11, rfl, rfl, by decide, (congrArg Value.bool hb41)⟩) rfl (by decide) (R_move (v := (.pointer (some ⟨b_a0, 0, none⟩))) rfl) ?_
      refine LW_v (.inr ⟨6, true, 11, rfl, rfl, by decide, (congrArg Value.bool hb41)⟩) rfl (by decide) (R_move (v := (.string a1)) rfl) ?_
      obtain ⟨l42, hr43, hm36⟩ := bind_some hm36
      refine LW_e (.inr ⟨6, true, 11, rfl, rfl, by decide, (congrArg Value.bool hb41)⟩) rfl (by decide) (E_bytesOf hST Tryz.underlying9 Tryz.underlying189 Tryz.underlying5 rfl hr43 (fun W44 v45 μ46 hST hle47 hs48 hf49 => ?_))
      obtain ⟨r50, hr51, hm36⟩ := bind_some hm36
      replace hST : ST (keys ((b_a0, Obj.cells (#[v_a0_b] : Array Value) 221 (0, 0)) :: (R_a0_b ++ []))) w _ _ ((b_a0, Obj.cells (#[v_a0_b] : Array Value) 221 (0, 0)) :: (R_a0_b ++ [])) := hST.perm (List.Perm.refl _)
      have hsz := hST.size
      refine LW_e (.inr ⟨6, true, 11, rfl, rfl, by decide, (congrArg Value.bool hb41)⟩) rfl (by decide) (E_callM (args := [(.pointer (some ⟨b_a0, 0, none⟩)), v45]) (caps := #[]) (((b_a0, Obj.cells (#[v_a0_b] : Array Value) 221 (0, 0)) :: (R_a0_b ++ []))) ([]) hST (by simp only [List.append_assoc, List.cons_append, List.nil_append]; exact List.Perm.refl _) rfl Tryz.call239 (by exact args2 rfl rfl) (fun hH hN hsb hmm => w_tape_Pen_Text_w b_a0 v_a0_b a0_b R_a0_b v45 l42 _ _ hH hN (Sub.refl _) h_a0_b (hs48.mono (Pl.mono _) hsb) hr51) (fun W52 v55 μ53 L57 hST hle54 hlift hK56 => ?_))
      obtain ⟨y58, S59, hv61, rfl, hy60⟩ := hK56
      replace hv61 := hv61.symm; subst hv61
      simp only [List.append_assoc, List.cons_append, List.nil_append] at hST
      refine LW_v (.inl rfl) rfl (by decide) (R_pickT (v := (.bool r50.1)) (congrArg Value.bool hb41) rfl) ?_
      refine LW_v (.inl rfl) rfl (by decide) (R_assign (v := (.bool r50.1)) rfl) ?_
      refine LW_nil ?_
      refine sq_n ?_
      replace hm36 := Option.some.inj hm36; subst hm36
      exact ⟨r50.1, y58, r50.2, S59, μ53, _, (hle47.trans hle54), (hST.sublist (List.Sublist.refl _)), rfl, hy60, hm37⟩
    · replace hm36 := if_f hb41 hm36
      refine LW_no rfl (by decide) rfl rfl (by decide) (congrArg Value.bool hb41) ?_
      refine LW_no rfl (by decide) rfl rfl (by decide) (congrArg Value.bool hb41) ?_
      refine LW_no rfl (by decide) rfl rfl (by decide) (congrArg Value.bool hb41) ?_
      refine LW_no rfl (by decide) rfl rfl (by decide) (congrArg Value.bool hb41) ?_
      refine LW_v (.inl rfl) rfl (by decide) (R_pickF (v := (.bool false)) (congrArg Value.bool hb41) rfl) ?_
      refine LW_v (.inl rfl) rfl (by decide) (R_assign (v := (.bool false)) rfl) ?_
      refine LW_nil ?_
      refine sq_n ?_
      replace hm36 := Option.some.inj hm36; subst hm36
      exact ⟨false, v_a0_b, a0_b, R_a0_b, μ0, _, (Sub.refl _), (hST.sublist (List.Sublist.refl _)), rfl, h_a0_b, hm37⟩
  · rintro E W ⟨x26, v27, l28, R30, μ25, L31, hle33, hST, e34, hs29, hm32⟩
    refine CW_ret ?_
    replace hm32 := Option.some.inj hm32; subst hm32
    refine retQ_1 (v := (.bool x26)) rfl e34 ?_
    replace hST : ST (keys ((b_a0, Obj.cells (#[v_a0_b] : Array Value) 221 (0, 0)) :: (R_a0_b ++ []))) w _ _ ((b_a0, Obj.cells (#[v27] : Array Value) 221 (0, 0)) :: (R30 ++ L31)) := hST
    exact ⟨_, ((b_a0, Obj.cells (#[v27] : Array Value) 221 (0, 0)) :: (R30 ++ [])), rfl, (ST.backM (L1 := ((b_a0, Obj.cells (#[v27] : Array Value) 221 (0, 0)) :: (R30 ++ []))) (by have hh : ST (keys ((b_a0, Obj.cells (#[v_a0_b] : Array Value) 221 (0, 0)) :: (R_a0_b ++ []))) w _ _ ((b_a0, Obj.cells (#[v27] : Array Value) 221 (0, 0)) :: (R30 ++ L31)) := hST.perm (List.Perm.refl _); simpa only [List.append_assoc, List.cons_append, List.nil_append] using hh)), v27, R30, rfl, rfl, hs29⟩

theorem w_role_Put_w (b_a0 : Nat) (v_a0_b : Value) (a0_b : List Int) (R_a0_b : List (Nat × Obj)) (a1 : Role) (r : (Bool × (List Int))) (w : World) {μ0 : Mem} (hH : Held ((b_a0, Obj.cells (#[v_a0_b] : Array Value) 221 (0, 0)) :: (R_a0_b ++ [])) w) (hN : ((((b_a0, Obj.cells (#[v_a0_b] : Array Value) 221 (0, 0)) :: (R_a0_b ++ [])) : List (Nat × Obj)).map (·.1)).Nodup) (hS0 : Sub μ0 (hpx w ((b_a0, Obj.cells (#[v_a0_b] : Array Value) 221 (0, 0)) :: (R_a0_b ++ [])))) (h_a0_b : Row 5 (encI .u8) 1 v_a0_b a0_b R_a0_b) (hm : m_role_Put_w a0_b a1 = some r) :
    GivesM Tryz.prog 204 [(.pointer (some ⟨b_a0, 0, none⟩)), (.agg (encRole a1).toArray)] w ((b_a0, Obj.cells (#[v_a0_b] : Array Value) 221 (0, 0)) :: (R_a0_b ++ [])) (fun v L1 W' => ∃ (y1 : Value) (S2 : List (Nat × Obj)), v = (.bool (r.1)) ∧ L1 = ((b_a0, Obj.cells (#[y1] : Array Value) 221 (0, 0)) :: (S2 ++ [])) ∧ Row 5 (encI .u8) 1 y1 r.2 S2) := by
  have hST := (ST.startM hH hN).weak hS0
  unfold m_role_Put_w at hm
  refine calls_of_CW (n := 23) Tryz.func204 rfl rfl (Nat.le_of_ble_eq_true rfl) ?_
  refine CW_seq ?_
  refine CW_region ?_
  refine LW_e (.inl rfl) rfl (by decide) (E_box (v := (.agg (encRole a1).toArray)) hST rfl (fun W2 b1 hST => ?_))
  refine LW_v (.inl rfl) rfl (by decide) (R_assign (v := (.bool false)) rfl) ?_
  refine LW_nil ?_
  refine sq_n ?_
  refine CW_seq ?_
  obtain ⟨s42, hm43, hm44⟩ := bind_some hm
  refine CW_cut (fun E W => ∃ (x33 : Bool) (v34 : Value) (l35 : List Int) (R37 : List (Nat × Obj)) (μ32 : Mem) (L38 : List (Nat × Obj)), Sub μ0 μ32 ∧ ST (keys ((b_a0, Obj.cells (#[v_a0_b] : Array Value) 221 (0, 0)) :: (R_a0_b ++ []))) w W μ32 ((b_a0, Obj.cells (#[v34] : Array Value) 221 (0, 0)) :: (R37 ++ L38)) ∧ E 4 = (.bool x33) ∧ Row 5 (encI .u8) 1 v34 l35 R37 ∧ some (x33, l35) = some r) ?_ ?_
  · refine CW_region ?_
    refine LW_v (.inl rfl) rfl (by decide) (R_move (v := (.pointer (some ⟨b_a0, 0, none⟩))) rfl) ?_
    refine LW_v (.inl rfl) rfl (by decide) (R_ptrNeNil Tryz.underlying219 rfl rfl) ?_
    refine LW_v (.inl rfl) rfl (by decide) (R_move (v := (.bool true)) rfl) ?_
    refine LW_v (.inr ⟨2, true, 7, rfl, rfl, by decide, rfl⟩) rfl (by decide) (R_load (v := (.agg (encRole a1).toArray)) rfl (load_boxA hST.has (.head _) (encRole a1) rfl Tryz.isAgg47 Tryz.sizeOf47)) ?_
    obtain ⟨r45, hr46, hm43⟩ := bind_some hm43
    replace hST : ST (keys ((b_a0, Obj.cells (#[v_a0_b] : Array Value) 221 (0, 0)) :: (R_a0_b ++ []))) w _ _ ((b1, Obj.cells ((encRole a1).toArray : Array Value) 47 (0, 0)) :: ((b_a0, Obj.cells (#[v_a0_b] : Array Value) 221 (0, 0)) :: (R_a0_b ++ []))) := hST
    have hsz := hST.size
    refine LW_e (.inr ⟨2, true, 7, rfl, rfl, by decide, rfl⟩) rfl (by decide) (E_gives (args := [(.agg (encRole a1).toArray)]) hST rfl Tryz.call131 (by exact args1 rfl) (w_role_Right a1 _ _  hr46) (fun W47 hST => ?_))
    refine LW_v (.inl rfl) rfl (by decide) (R_pickT (v := (.bool r45)) rfl rfl) ?_
    refine LW_v (.inl rfl) rfl (by decide) (R_move (v := (.bool r45)) rfl) ?_
    rcases bool_cases r45 with hb48 | hb48
    · replace hm43 := if_t hb48 hm43
      refine LW_v (.inr ⟨6, true, 11, rfl, rfl, by decide, (congrArg Value.bool hb48)⟩) rfl (by decide) (R_move (v := (.pointer (some ⟨b_a0, 0, none⟩))) rfl) ?_
      refine LW_v (.inr ⟨6, true, 11, rfl, rfl, by decide, (congrArg Value.bool hb48)⟩) rfl (by decide) (R_field fa47_0 rfl) ?_
      refine LW_v (.inr ⟨6, true, 11, rfl, rfl, by decide, (congrArg Value.bool hb48)⟩) rfl (by decide) (R_load (v := (.string a1.Owner)) rfl (load_box1 hST.has (.head _) rfl Tryz.isAgg9)) ?_
      obtain ⟨r49, hr50, hm43⟩ := bind_some hm43
      replace hST : ST (keys ((b_a0, Obj.cells (#[v_a0_b] : Array Value) 221 (0, 0)) :: (R_a0_b ++ []))) w _ _ ((b_a0, Obj.cells (#[v_a0_b] : Array Value) 221 (0, 0)) :: (R_a0_b ++ ((b1, Obj.cells ((encRole a1).toArray : Array Value) 47 (0, 0)) :: []))) := hST.perm (permD [[(b1, Obj.cells ((encRole a1).toArray : Array Value) 47 (0, 0))], [(b_a0, Obj.cells (#[v_a0_b] : Array Value) 221 (0, 0))], R_a0_b] [0, 1, 2] [1, 2, 0] ([]) (by decide) rfl rfl)
      have hsz := hST.size
      refine LW_e (.inr ⟨6, true, 11, rfl, rfl, by decide, (congrArg Value.bool hb48)⟩) rfl (by decide) (E_callM (args := [(.pointer (some ⟨b_a0, 0, none⟩)), (.string a1.Owner)]) (caps := #[]) (((b_a0, Obj.cells (#[v_a0_b] : Array Value) 221 (0, 0)) :: (R_a0_b ++ []))) (((b1, Obj.cells ((encRole a1).toArray : Array Value) 47 (0, 0)) :: [])) hST (by simp only [List.append_assoc, List.cons_append, List.nil_append]; exact List.Perm.refl _) rfl Tryz.call205 (by exact args2 rfl rfl) (fun hH hN hsb hmm => w_name_Put_w b_a0 v_a0_b a0_b R_a0_b a1.Owner _ _ hH hN (Sub.refl _) h_a0_b hr50) (fun W51 v54 μ52 L56 hST hle53 hlift hK55 => ?_))
      obtain ⟨y57, S58, hv60, rfl, hy59⟩ := hK55
      replace hv60 := hv60.symm; subst hv60
      simp only [List.append_assoc, List.cons_append, List.nil_append] at hST
      replace hST : ST (keys ((b_a0, Obj.cells (#[v_a0_b] : Array Value) 221 (0, 0)) :: (R_a0_b ++ []))) w _ _ ((b_a0, Obj.cells (#[y57] : Array Value) 221 (0, 0)) :: ((b1, Obj.cells ((encRole a1).toArray : Array Value) 47 (0, 0)) :: (S58 ++ []))) := hST.perm (permD [[(b_a0, Obj.cells (#[y57] : Array Value) 221 (0, 0))], S58, [(b1, Obj.cells ((encRole a1).toArray : Array Value) 47 (0, 0))]] [0, 1, 2] [0, 2, 1] ([]) (by decide) rfl rfl)
      refine LW_v (.inl rfl) rfl (by decide) (R_pickT (v := (.bool r49.1)) (congrArg Value.bool hb48) rfl) ?_
      refine LW_v (.inl rfl) rfl (by decide) (R_move (v := (.bool r49.1)) rfl) ?_
      rcases bool_cases r49.1 with hb61 | hb61
      · replace hm43 := if_t hb61 hm43
        refine LW_v (.inr ⟨12, true, 17, rfl, rfl, by decide, (congrArg Value.bool hb61)⟩) rfl (by decide) (R_move (v := (.pointer (some ⟨b_a0, 0, none⟩))) rfl) ?_
        refine LW_v (.inr ⟨12, true, 17, rfl, rfl, by decide, (congrArg Value.bool hb61)⟩) rfl (by decide) (R_field fa47_1 rfl) ?_
        refine LW_v (.inr ⟨12, true, 17, rfl, rfl, by decide, (congrArg Value.bool hb61)⟩) rfl (by decide) (R_load (v := (.string a1.Word)) rfl (load_box1 hST.has (.tail _ (.head _)) rfl Tryz.isAgg9)) ?_
        obtain ⟨r62, hr63, hm43⟩ := bind_some hm43
        replace hST : ST (keys ((b_a0, Obj.cells (#[v_a0_b] : Array Value) 221 (0, 0)) :: (R_a0_b ++ []))) w _ _ ((b_a0, Obj.cells (#[y57] : Array Value) 221 (0, 0)) :: (S58 ++ ((b1, Obj.cells ((encRole a1).toArray : Array Value) 47 (0, 0)) :: []))) := hST.perm (permD [[(b_a0, Obj.cells (#[y57] : Array Value) 221 (0, 0))], [(b1, Obj.cells ((encRole a1).toArray : Array Value) 47 (0, 0))], S58] [0, 1, 2] [0, 2, 1] ([]) (by decide) rfl rfl)
        have hsz := hST.size
        refine LW_e (.inr ⟨12, true, 17, rfl, rfl, by decide, (congrArg Value.bool hb61)⟩) rfl (by decide) (E_callM (args := [(.pointer (some ⟨b_a0, 0, none⟩)), (.string a1.Word)]) (caps := #[]) (((b_a0, Obj.cells (#[y57] : Array Value) 221 (0, 0)) :: (S58 ++ []))) (((b1, Obj.cells ((encRole a1).toArray : Array Value) 47 (0, 0)) :: [])) hST (by simp only [List.append_assoc, List.cons_append, List.nil_append]; exact List.Perm.refl _) rfl Tryz.call205 (by exact args2 rfl rfl) (fun hH hN hsb hmm => w_name_Put_w b_a0 y57 r49.2 S58 a1.Word _ _ hH hN (Sub.refl _) hy59 hr63) (fun W64 v67 μ65 L69 hST hle66 hlift hK68 => ?_))
        obtain ⟨y70, S71, hv73, rfl, hy72⟩ := hK68
        replace hv73 := hv73.symm; subst hv73
        simp only [List.append_assoc, List.cons_append, List.nil_append] at hST
        replace hST : ST (keys ((b_a0, Obj.cells (#[v_a0_b] : Array Value) 221 (0, 0)) :: (R_a0_b ++ []))) w _ _ ((b_a0, Obj.cells (#[y70] : Array Value) 221 (0, 0)) :: ((b1, Obj.cells ((encRole a1).toArray : Array Value) 47 (0, 0)) :: (S71 ++ []))) := hST.perm (permD [[(b_a0, Obj.cells (#[y70] : Array Value) 221 (0, 0))], S71, [(b1, Obj.cells ((encRole a1).toArray : Array Value) 47 (0, 0))]] [0, 1, 2] [0, 2, 1] ([]) (by decide) rfl rfl)
        refine LW_v (.inl rfl) rfl (by decide) (R_pickT (v := (.bool r62.1)) (congrArg Value.bool hb61) rfl) ?_
        refine LW_v (.inl rfl) rfl (by decide) (R_assign (v := (.bool r62.1)) rfl) ?_
        refine LW_nil ?_
        refine sq_n ?_
        replace hm43 := Option.some.inj hm43; subst hm43
        exact ⟨r62.1, y70, r62.2, S71, μ65, _, (hle53.trans hle66), (hST.sublist (List.Sublist.cons_cons _ (List.Sublist.cons _ (List.Sublist.refl _)))), rfl, hy72, hm44⟩
      · replace hm43 := if_f hb61 hm43
        refine LW_no rfl (by decide) rfl rfl (by decide) (congrArg Value.bool hb61) ?_
        refine LW_no rfl (by decide) rfl rfl (by decide) (congrArg Value.bool hb61) ?_
        refine LW_no rfl (by decide) rfl rfl (by decide) (congrArg Value.bool hb61) ?_
        refine LW_no rfl (by decide) rfl rfl (by decide) (congrArg Value.bool hb61) ?_
        refine LW_v (.inl rfl) rfl (by decide) (R_pickF (v := (.bool false)) (congrArg Value.bool hb61) rfl) ?_
        refine LW_v (.inl rfl) rfl (by decide) (R_assign (v := (.bool false)) rfl) ?_
        refine LW_nil ?_
        refine sq_n ?_
        replace hm43 := Option.some.inj hm43; subst hm43
        exact ⟨false, y57, r49.2, S58, μ52, _, hle53, (hST.sublist (List.Sublist.cons_cons _ (List.Sublist.cons _ (List.Sublist.refl _)))), rfl, hy59, hm44⟩
    · replace hm43 := if_f hb48 hm43
      refine LW_no rfl (by decide) rfl rfl (by decide) (congrArg Value.bool hb48) ?_
      refine LW_no rfl (by decide) rfl rfl (by decide) (congrArg Value.bool hb48) ?_
      refine LW_no rfl (by decide) rfl rfl (by decide) (congrArg Value.bool hb48) ?_
      refine LW_no rfl (by decide) rfl rfl (by decide) (congrArg Value.bool hb48) ?_
      refine LW_v (.inl rfl) rfl (by decide) (R_pickF (v := (.bool false)) (congrArg Value.bool hb48) rfl) ?_
      refine LW_v (.inl rfl) rfl (by decide) (R_move (v := (.bool false)) rfl) ?_
      refine LW_no rfl (by decide) rfl rfl (by decide) rfl ?_
      refine LW_no rfl (by decide) rfl rfl (by decide) rfl ?_
      refine LW_no rfl (by decide) rfl rfl (by decide) rfl ?_
      refine LW_no rfl (by decide) rfl rfl (by decide) rfl ?_
      refine LW_v (.inl rfl) rfl (by decide) (R_pickF (v := (.bool false)) rfl rfl) ?_
      refine LW_v (.inl rfl) rfl (by decide) (R_assign (v := (.bool false)) rfl) ?_
      refine LW_nil ?_
      refine sq_n ?_
      replace hm43 := Option.some.inj hm43; subst hm43
      exact ⟨false, v_a0_b, a0_b, R_a0_b, μ0, _, (Sub.refl _), (hST.sublist (List.Sublist.cons _ (List.Sublist.refl _))), rfl, h_a0_b, hm44⟩
  · rintro E W ⟨x33, v34, l35, R37, μ32, L38, hle40, hST, e41, hs36, hm39⟩
    refine CW_ret ?_
    replace hm39 := Option.some.inj hm39; subst hm39
    refine retQ_1 (v := (.bool x33)) rfl e41 ?_
    replace hST : ST (keys ((b_a0, Obj.cells (#[v_a0_b] : Array Value) 221 (0, 0)) :: (R_a0_b ++ []))) w _ _ ((b_a0, Obj.cells (#[v34] : Array Value) 221 (0, 0)) :: (R37 ++ L38)) := hST
    exact ⟨_, ((b_a0, Obj.cells (#[v34] : Array Value) 221 (0, 0)) :: (R37 ++ [])), rfl, (ST.backM (L1 := ((b_a0, Obj.cells (#[v34] : Array Value) 221 (0, 0)) :: (R37 ++ []))) (by have hh : ST (keys ((b_a0, Obj.cells (#[v_a0_b] : Array Value) 221 (0, 0)) :: (R_a0_b ++ []))) w _ _ ((b_a0, Obj.cells (#[v34] : Array Value) 221 (0, 0)) :: (R37 ++ L38)) := hST.perm (List.Perm.refl _); simpa only [List.append_assoc, List.cons_append, List.nil_append] using hh)), v34, R37, rfl, rfl, hs36⟩

theorem w_bytes_Clone (v_a0 : Value) (a0 : List Int) (r : List Int) (w : World) (h_a0 : Sl (Pl (encI .u8)) 1 (hp w) v_a0 a0) (hm : m_bytes_Clone a0 = some r) :
    GivesRow Tryz.prog 240 [v_a0] w 5 (encI .u8) 1 r := by
  have hST := ST.start w
  unfold m_bytes_Clone at hm
  refine calls_of_CW (n := 8) Tryz.func240 rfl rfl (Nat.le_of_ble_eq_true rfl) ?_
  refine CW_seq ?_
  refine CW_region ?_
  refine LW_v (.inl rfl) rfl (by decide) (R_assign (v := (.slice none 0 0)) rfl) ?_
  refine LW_nil ?_
  refine sq_n ?_
  refine CW_seq ?_
  refine CW_seq ?_
  refine CW_region ?_
  refine LW_v (.inl rfl) rfl (by decide) (R_move (v := v_a0) rfl) ?_
  obtain ⟨A1, c2, rfl⟩ := h_a0.form
  refine LW_v (.inl rfl) rfl (by decide) (R_slEqNil Tryz.underlying189 rfl rfl) ?_
  refine LW_nil ?_
  refine sq_n ?_
  rcases A1 with _ | A5
  · have hn4 := h_a0.isNil
    replace hm : some [] = some r := by rw [hn4] at hm; simpa [appB, maxLen] using hm
    refine CW_if_true (rfl) ?_
    refine CW_seq ?_
    refine CW_region ?_
    refine LW_v (.inl rfl) rfl (by decide) (R_assign (v := (.slice none 0 0)) rfl) ?_
    refine LW_nil ?_
    refine sq_n ?_
    refine CW_ret ?_
    refine sq_r ?_
    replace hm := Option.some.inj hm; subst hm
    refine retQ_1 (v := (.slice none 0 0)) rfl rfl ?_
    exact ⟨_, [], rfl, hST.backRow (fun p hq => by cases hq) (by simp), Row.nil _ _ _⟩
  · refine CW_if_false (rfl) ?_
    refine CW_skip ?_
    refine sq_n ?_
    refine CW_seq ?_
    refine CW_region ?_
    refine LW_e (.inl rfl) rfl (by decide) (E_buildSlice (qs := #[]) (cs := #[]) hST parts0 (run_lit [] Tryz.underlying189 Tryz.sizeOf5 Tryz.zeroValue5 (by decide) rfl (by simp) rfl rfl) (fun W7 b6 hST => ?_))
    refine LW_v (.inl rfl) rfl (by decide) (R_move (v := (.slice (some A5) a0.length c2)) rfl) ?_
    obtain ⟨l8, hb9, hm⟩ := bind_some hm
    replace hST := hST.perm (List.Perm.append_left [] (List.perm_middle (l₁ := [])).symm)
    refine LW_e (.inl rfl) rfl (by decide) (E_append (enc := (encI .u8)) (v := (.slice (some ⟨b6, 0, none⟩) 0 0)) (vs := (.slice (some A5) a0.length c2)) (R := [(b6, Obj.cells (#[] : Array Value) 5 (0, 0))]) [] hST (fun _ => rfl) (by decide) (oneI _) Tryz.underlying189 info5.1 info5.2.1 rfl info5.2.2.1 info5.2.2.2 rfl rfl (Row.lit (l := []) (enc := (encI .u8)) rfl (by decide) rfl rfl) (h_a0.mono (Pl.mono _) hST.sub_hp) hb9 (fun W10 v13 R11 hST hR12 => ?_))
    refine LW_v (.inl rfl) rfl (by decide) (R_assign (v := v13) rfl) ?_
    refine LW_nil ?_
    refine sq_n ?_
    refine CW_ret ?_
    replace hm := Option.some.inj hm; subst hm
    refine retQ_1 (v := v13) rfl rfl ?_
    exact ⟨_, R11, rfl, hST.backRow (fun p hq => by simp [hq]) hR12.nd, hR12⟩

theorem w_tape_Pen_Bytes (b_a0 : Nat) (v_a0_b : Value) (a0_b : List Int) (r : List Int) (w : World) (h_a0_b : Sl (Pl (encI .u8)) 1 (hp w) v_a0_b a0_b) (hA_a0 : At (hp w) (.pointer (some ⟨b_a0, 0, none⟩)) [v_a0_b]) (hm : m_tape_Pen_Bytes a0_b = some r) :
    GivesRow Tryz.prog 206 [(.pointer (some ⟨b_a0, 0, none⟩))] w 5 (encI .u8) 1 r := by
  have hST := ST.start w
  unfold m_tape_Pen_Bytes at hm
  refine calls_of_CW (n := 10) Tryz.func206 rfl rfl (Nat.le_of_ble_eq_true rfl) ?_
  refine CW_seq ?_
  refine CW_region ?_
  refine LW_v (.inl rfl) rfl (by decide) (R_assign (v := (.slice none 0 0)) rfl) ?_
  refine LW_nil ?_
  refine sq_n ?_
  refine CW_seq ?_
  refine CW_seq ?_
  refine CW_region ?_
  refine LW_v (.inl rfl) rfl (by decide) (R_move (v := (.pointer (some ⟨b_a0, 0, none⟩))) rfl) ?_
  refine LW_v (.inl rfl) rfl (by decide) (R_ptrEqNil Tryz.underlying219 rfl rfl) ?_
  refine LW_nil ?_
  refine sq_n ?_
  refine CW_if_false rfl ?_
  refine CW_skip ?_
  refine sq_n ?_
  refine CW_seq ?_
  refine CW_region ?_
  refine LW_v (.inl rfl) rfl (by decide) (R_move (v := (.pointer (some ⟨b_a0, 0, none⟩))) rfl) ?_
  refine LW_v (.inl rfl) rfl (by decide) (R_nilCheck rfl) ?_
  refine LW_q (.inl rfl) rfl (by decide) (R_fieldAt [v_a0_b] fa221_0 rfl hA_a0 rfl) (fun p1 hp2 => ?_)
  refine LW_v (.inl rfl) rfl (by decide) (R_load rfl (load_at1 hST.has (y := v_a0_b) hp2 Tryz.isAgg189)) ?_
  obtain ⟨r4, hr5, hm⟩ := bind_some hm
  replace hST : ST NoF w _ _ [] := hST
  have hsz := hST.size
  refine LW_e (.inl rfl) rfl (by decide) (E_givesRow (args := [v_a0_b]) [] _ hST rfl Tryz.call240 (by exact args1 rfl) (w_bytes_Clone v_a0_b a0_b _ _ (h_a0_b.mono (Pl.mono _) hST.sub_hp) hr5) (fun W6 v9 μ7 R10 hST hle8 hR11 => ?_))
  refine LW_v (.inl rfl) rfl (by decide) (R_assign (v := v9) rfl) ?_
  refine LW_nil ?_
  refine sq_n ?_
  refine CW_ret ?_
  replace hm := Option.some.inj hm; subst hm
  refine retQ_1 (v := v9) rfl rfl ?_
  exact ⟨_, R10, rfl, hST.backRow (fun p hq => by simp [hq]) hR11.nd, hR11⟩

theorem w_cred_Bytes (a0 : Cred) (r : List Int) (w : World)  (hm : m_cred_Bytes a0 = some r) :
    GivesRow Tryz.prog 166 [(.agg (encCred a0).toArray)] w 5 (encI .u8) 1 r := by
  have hST := ST.start w
  unfold m_cred_Bytes at hm
  refine calls_of_CW (n := 53) Tryz.func166 rfl rfl (Nat.le_of_ble_eq_true rfl) ?_
  refine CW_seq ?_
  refine CW_region ?_
  refine LW_e (.inl rfl) rfl (by decide) (E_box (v := (.agg (encCred a0).toArray)) hST rfl (fun W2 b1 hST => ?_))
  refine LW_v (.inl rfl) rfl (by decide) (R_assign (v := (.slice none 0 0)) rfl) ?_
  refine LW_nil ?_
  refine sq_n ?_
  refine CW_seq ?_
  refine CW_seq ?_
  refine CW_region ?_
  refine LW_v (.inl rfl) rfl (by decide) (R_load (v := (.agg (encCred a0).toArray)) rfl (load_boxA hST.has (.head _) (encCred a0) rfl Tryz.isAgg83 Tryz.sizeOf83)) ?_
  obtain ⟨r3, hr4, hm⟩ := bind_some hm
  replace hST : ST NoF w _ _ ((b1, Obj.cells ((encCred a0).toArray : Array Value) 83 (0, 0)) :: []) := hST
  have hsz := hST.size
  refine LW_e (.inl rfl) rfl (by decide) (E_gives (args := [(.agg (encCred a0).toArray)]) hST rfl Tryz.call98 (by exact args1 rfl) (w_cred_Right a0 _ _  hr4) (fun W5 hST => ?_))
  refine LW_v (.inl rfl) rfl (by decide) (R_not (b := r3) rfl) ?_
  refine LW_nil ?_
  refine sq_n ?_
  refine CW_if (b := (!r3)) rfl (fun hb6 => ?_) (fun hb6 => ?_)
  · replace hm := if_t hb6 hm
    refine CW_seq ?_
    refine CW_region ?_
    refine LW_v (.inl rfl) rfl (by decide) (R_assign (v := (.slice none 0 0)) rfl) ?_
    refine LW_nil ?_
    refine sq_n ?_
    replace hST : ST NoF w _ _ [] := hST.sublist (List.Sublist.cons _ (List.Sublist.refl _))
    refine CW_ret ?_
    refine sq_r ?_
    replace hm := Option.some.inj hm; subst hm
    refine retQ_1 (v := (.slice none 0 0)) rfl rfl ?_
    exact ⟨_, [], rfl, hST.backRow (fun p hq => by cases hq) (by simp), Row.nil _ _ _⟩
  · replace hm := if_f hb6 hm
    refine CW_skip ?_
    refine sq_n ?_
    refine CW_seq ?_
    refine CW_region ?_
    refine LW_v (.inl rfl) rfl (by decide) (R_build (qs := #[]) (v := (.agg #[(.slice none 0 0)])) parts0 (run_build Tryz.zeroValue221 Tryz.underlying221 (pl221 _ Tryz.underlying221) (by kernel_rfl))) ?_
    refine LW_e (.inl rfl) rfl (by decide) (E_box (v := (.agg #[(.slice none 0 0)])) hST rfl (fun W8 b7 hST => ?_))
    refine LW_v (.inl rfl) rfl (by decide) (R_assign (v := (.pointer (some ⟨b7, 0, none⟩))) rfl) ?_
    refine LW_nil ?_
    refine sq_n ?_
    refine CW_seq ?_
    refine CW_region ?_
    refine LW_v (.inl rfl) rfl (by decide) (R_move (v := (.pointer (some ⟨b7, 0, none⟩))) rfl) ?_
    refine LW_v (.inl rfl) rfl (by decide) (R_field fa83_0 rfl) ?_
    refine LW_v (.inl rfl) rfl (by decide) (R_load (v := (.int .i64 a0.Kind)) rfl (load_box1 hST.has (.tail _ (.head _)) rfl Tryz.isAgg3)) ?_
    obtain ⟨r9, hr10, hm⟩ := bind_some hm
    replace hST : ST NoF w _ _ ((b7, Obj.cells (#[(.slice none 0 0)] : Array Value) 221 (0, 0)) :: ((b1, Obj.cells ((encCred a0).toArray : Array Value) 83 (0, 0)) :: [])) := hST.perm (List.Perm.refl _)
    have hsz := hST.size
    refine LW_e (.inl rfl) rfl (by decide) (E_callM (args := [(.pointer (some ⟨b7, 0, none⟩)), (.int .i64 a0.Kind)]) (caps := #[]) (((b7, Obj.cells (#[(.slice none 0 0)] : Array Value) 221 (0, 0)) :: [])) (((b1, Obj.cells ((encCred a0).toArray : Array Value) 83 (0, 0)) :: [])) hST (by simp only [List.append_assoc, List.cons_append, List.nil_append]; exact List.Perm.refl _) rfl Tryz.call203 (by exact args2 rfl rfl) (fun hH hN hsb hmm => w_tape_Pen_Number_w b7 (.slice none 0 0) ([]) [] a0.Kind _ _ hH hN (Sub.refl _) (Row.nil _ _ _) hr10) (fun W11 v14 μ12 L16 hST hle13 hlift hK15 => ?_))
    obtain ⟨y17, S18, hv20, rfl, hy19⟩ := hK15
    replace hv20 := hv20.symm; subst hv20
    simp only [List.append_assoc, List.cons_append, List.nil_append] at hST
    replace hST : ST NoF w _ _ ((b7, Obj.cells (#[y17] : Array Value) 221 (0, 0)) :: ((b1, Obj.cells ((encCred a0).toArray : Array Value) 83 (0, 0)) :: (S18 ++ []))) := hST.perm (permD [[(b7, Obj.cells (#[y17] : Array Value) 221 (0, 0))], S18, [(b1, Obj.cells ((encCred a0).toArray : Array Value) 83 (0, 0))]] [0, 1, 2] [0, 2, 1] ([]) (by decide) rfl rfl)
    refine LW_nil ?_
    refine sq_n ?_
    refine CW_seq ?_
    refine CW_region ?_
    refine LW_v (.inl rfl) rfl (by decide) (R_move (v := (.pointer (some ⟨b7, 0, none⟩))) rfl) ?_
    refine LW_v (.inl rfl) rfl (by decide) (R_field fa83_1 rfl) ?_
    refine LW_v (.inl rfl) rfl (by decide) (R_load (v := (.agg (encRole a0.Head).toArray)) rfl (load_boxA hST.has (.tail _ (.head _)) (encRole a0.Head) rfl Tryz.isAgg47 Tryz.sizeOf47)) ?_
    obtain ⟨r21, hr22, hm⟩ := bind_some hm
    replace hST : ST NoF w _ _ ((b7, Obj.cells (#[y17] : Array Value) 221 (0, 0)) :: (S18 ++ ((b1, Obj.cells ((encCred a0).toArray : Array Value) 83 (0, 0)) :: []))) := hST.perm (permD [[(b7, Obj.cells (#[y17] : Array Value) 221 (0, 0))], [(b1, Obj.cells ((encCred a0).toArray : Array Value) 83 (0, 0))], S18] [0, 1, 2] [0, 2, 1] ([]) (by decide) rfl rfl)
    have hsz := hST.size
    refine LW_e (.inl rfl) rfl (by decide) (E_callM (args := [(.pointer (some ⟨b7, 0, none⟩)), (.agg (encRole a0.Head).toArray)]) (caps := #[]) (((b7, Obj.cells (#[y17] : Array Value) 221 (0, 0)) :: (S18 ++ []))) (((b1, Obj.cells ((encCred a0).toArray : Array Value) 83 (0, 0)) :: [])) hST (by simp only [List.append_assoc, List.cons_append, List.nil_append]; exact List.Perm.refl _) rfl Tryz.call204 (by exact args2 rfl rfl) (fun hH hN hsb hmm => w_role_Put_w b7 y17 r9.2 S18 a0.Head _ _ hH hN (Sub.refl _) hy19 hr22) (fun W23 v26 μ24 L28 hST hle25 hlift hK27 => ?_))
    obtain ⟨y29, S30, hv32, rfl, hy31⟩ := hK27
    replace hv32 := hv32.symm; subst hv32
    simp only [List.append_assoc, List.cons_append, List.nil_append] at hST
    replace hST : ST NoF w _ _ ((b7, Obj.cells (#[y29] : Array Value) 221 (0, 0)) :: ((b1, Obj.cells ((encCred a0).toArray : Array Value) 83 (0, 0)) :: (S30 ++ []))) := hST.perm (permD [[(b7, Obj.cells (#[y29] : Array Value) 221 (0, 0))], S30, [(b1, Obj.cells ((encCred a0).toArray : Array Value) 83 (0, 0))]] [0, 1, 2] [0, 2, 1] ([]) (by decide) rfl rfl)
    refine LW_nil ?_
    refine sq_n ?_
    refine CW_seq ?_
    obtain ⟨s126, hm127, hm128⟩ := bind_some hm
    refine CW_cut (fun E W => ∃ (v110 : Value) (l111 : List Int) (R113 : List (Nat × Obj)) (μ109 : Mem) (L114 : List (Nat × Obj)), Sub μ24 μ109 ∧ ST NoF w W μ109 ((b7, Obj.cells (#[v110] : Array Value) 221 (0, 0)) :: (R113 ++ L114)) ∧ E 3 = (.pointer (some ⟨b7, 0, none⟩)) ∧ Row 5 (encI .u8) 1 v110 l111 R113 ∧ (((m_tape_Pen_Bytes l111)).bind fun r118 => some r118) = some r) ?_ ?_
    · refine CW_seq ?_
      refine CW_region ?_
      refine LW_v (.inl rfl) rfl (by decide) (R_field fa83_0 rfl) ?_
      refine LW_v (.inl rfl) rfl (by decide) (R_load (v := (.int .i64 a0.Kind)) rfl (load_box1 hST.has (.tail _ (.head _)) rfl Tryz.isAgg3)) ?_
      refine LW_nil ?_
      refine sq_n ?_
      refine CW_block ?_
      refine CW_seq ?_
      refine CW_region ?_
      refine LW_v (.inl rfl) rfl (by decide) (R_int (k := .i64) (a := a0.Kind) (b := 1) (v := (.bool ((a0.Kind == 1)))) rfl rfl rfl) ?_
      refine LW_v (.inl rfl) rfl (by decide) (R_assign (v := (.bool ((a0.Kind == 1)))) rfl) ?_
      refine LW_nil ?_
      refine sq_n ?_
      refine CW_if (b := (a0.Kind == 1)) rfl (fun hb129 => ?_) (fun hb129 => ?_)
      · replace hm127 := if_t hb129 hm127
        refine CW_region ?_
        refine LW_v (.inl rfl) rfl (by decide) (R_move (v := (.pointer (some ⟨b7, 0, none⟩))) rfl) ?_
        refine LW_v (.inl rfl) rfl (by decide) (R_field fa83_2 rfl) ?_
        refine LW_v (.inl rfl) rfl (by decide) (R_load (v := (.string a0.Who)) rfl (load_box1 hST.has (.tail _ (.head _)) rfl Tryz.isAgg9)) ?_
        obtain ⟨r130, hr131, hm127⟩ := bind_some hm127
        replace hST : ST NoF w _ _ ((b7, Obj.cells (#[y29] : Array Value) 221 (0, 0)) :: (S30 ++ ((b1, Obj.cells ((encCred a0).toArray : Array Value) 83 (0, 0)) :: []))) := hST.perm (permD [[(b7, Obj.cells (#[y29] : Array Value) 221 (0, 0))], [(b1, Obj.cells ((encCred a0).toArray : Array Value) 83 (0, 0))], S30] [0, 1, 2] [0, 2, 1] ([]) (by decide) rfl rfl)
        have hsz := hST.size
        refine LW_e (.inl rfl) rfl (by decide) (E_callM (args := [(.pointer (some ⟨b7, 0, none⟩)), (.string a0.Who)]) (caps := #[]) (((b7, Obj.cells (#[y29] : Array Value) 221 (0, 0)) :: (S30 ++ []))) (((b1, Obj.cells ((encCred a0).toArray : Array Value) 83 (0, 0)) :: [])) hST (by simp only [List.append_assoc, List.cons_append, List.nil_append]; exact List.Perm.refl _) rfl Tryz.call205 (by exact args2 rfl rfl) (fun hH hN hsb hmm => w_name_Put_w b7 y29 r21.2 S30 a0.Who _ _ hH hN (Sub.refl _) hy31 hr131) (fun W132 v135 μ133 L137 hST hle134 hlift hK136 => ?_))
        obtain ⟨y138, S139, hv141, rfl, hy140⟩ := hK136
        replace hv141 := hv141.symm; subst hv141
        simp only [List.append_assoc, List.cons_append, List.nil_append] at hST
        replace hST : ST NoF w _ _ ((b7, Obj.cells (#[y138] : Array Value) 221 (0, 0)) :: ((b1, Obj.cells ((encCred a0).toArray : Array Value) 83 (0, 0)) :: (S139 ++ []))) := hST.perm (permD [[(b7, Obj.cells (#[y138] : Array Value) 221 (0, 0))], S139, [(b1, Obj.cells ((encCred a0).toArray : Array Value) 83 (0, 0))]] [0, 1, 2] [0, 2, 1] ([]) (by decide) rfl rfl)
        refine LW_nil ?_
        refine bq_n ?_
        refine sq_n ?_
        replace hm127 := Option.some.inj hm127; subst hm127
        exact ⟨y138, r130.2, S139, μ133, _, hle134, (hST.sublist (List.Sublist.cons_cons _ (List.Sublist.cons _ (List.Sublist.refl _)))), rfl, hy140, hm128⟩
      · replace hm127 := if_f hb129 hm127
        refine CW_seq ?_
        refine CW_region ?_
        refine LW_v (.inl rfl) rfl (by decide) (R_int (k := .i64) (a := a0.Kind) (b := 2) (v := (.bool ((a0.Kind == 2)))) rfl rfl rfl) ?_
        refine LW_v (.inl rfl) rfl (by decide) (R_assign (v := (.bool ((a0.Kind == 2)))) rfl) ?_
        refine LW_nil ?_
        refine sq_n ?_
        refine CW_if (b := (a0.Kind == 2)) rfl (fun hb142 => ?_) (fun hb142 => ?_)
        · replace hm127 := if_t hb142 hm127
          refine CW_region ?_
          refine LW_v (.inl rfl) rfl (by decide) (R_move (v := (.pointer (some ⟨b7, 0, none⟩))) rfl) ?_
          refine LW_v (.inl rfl) rfl (by decide) (R_field fa83_3 rfl) ?_
          refine LW_v (.inl rfl) rfl (by decide) (R_load (v := (.agg (encRole a0.B).toArray)) rfl (load_boxA hST.has (.tail _ (.head _)) (encRole a0.B) rfl Tryz.isAgg47 Tryz.sizeOf47)) ?_
          obtain ⟨r143, hr144, hm127⟩ := bind_some hm127
          replace hST : ST NoF w _ _ ((b7, Obj.cells (#[y29] : Array Value) 221 (0, 0)) :: (S30 ++ ((b1, Obj.cells ((encCred a0).toArray : Array Value) 83 (0, 0)) :: []))) := hST.perm (permD [[(b7, Obj.cells (#[y29] : Array Value) 221 (0, 0))], [(b1, Obj.cells ((encCred a0).toArray : Array Value) 83 (0, 0))], S30] [0, 1, 2] [0, 2, 1] ([]) (by decide) rfl rfl)
          have hsz := hST.size
          refine LW_e (.inl rfl) rfl (by decide) (E_callM (args := [(.pointer (some ⟨b7, 0, none⟩)), (.agg (encRole a0.B).toArray)]) (caps := #[]) (((b7, Obj.cells (#[y29] : Array Value) 221 (0, 0)) :: (S30 ++ []))) (((b1, Obj.cells ((encCred a0).toArray : Array Value) 83 (0, 0)) :: [])) hST (by simp only [List.append_assoc, List.cons_append, List.nil_append]; exact List.Perm.refl _) rfl Tryz.call204 (by exact args2 rfl rfl) (fun hH hN hsb hmm => w_role_Put_w b7 y29 r21.2 S30 a0.B _ _ hH hN (Sub.refl _) hy31 hr144) (fun W145 v148 μ146 L150 hST hle147 hlift hK149 => ?_))
          obtain ⟨y151, S152, hv154, rfl, hy153⟩ := hK149
          replace hv154 := hv154.symm; subst hv154
          simp only [List.append_assoc, List.cons_append, List.nil_append] at hST
          replace hST : ST NoF w _ _ ((b7, Obj.cells (#[y151] : Array Value) 221 (0, 0)) :: ((b1, Obj.cells ((encCred a0).toArray : Array Value) 83 (0, 0)) :: (S152 ++ []))) := hST.perm (permD [[(b7, Obj.cells (#[y151] : Array Value) 221 (0, 0))], S152, [(b1, Obj.cells ((encCred a0).toArray : Array Value) 83 (0, 0))]] [0, 1, 2] [0, 2, 1] ([]) (by decide) rfl rfl)
          refine LW_nil ?_
          refine bq_n ?_
          refine sq_n ?_
          replace hm127 := Option.some.inj hm127; subst hm127
          exact ⟨y151, r143.2, S152, μ146, _, hle147, (hST.sublist (List.Sublist.cons_cons _ (List.Sublist.cons _ (List.Sublist.refl _)))), rfl, hy153, hm128⟩
        · replace hm127 := if_f hb142 hm127
          refine CW_seq ?_
          refine CW_region ?_
          refine LW_v (.inl rfl) rfl (by decide) (R_int (k := .i64) (a := a0.Kind) (b := 3) (v := (.bool ((a0.Kind == 3)))) rfl rfl rfl) ?_
          refine LW_v (.inl rfl) rfl (by decide) (R_assign (v := (.bool ((a0.Kind == 3)))) rfl) ?_
          refine LW_nil ?_
          refine sq_n ?_
          refine CW_if (b := (a0.Kind == 3)) rfl (fun hb155 => ?_) (fun hb155 => ?_)
          · replace hm127 := if_t hb155 hm127
            refine CW_seq ?_
            refine CW_region ?_
            refine LW_v (.inl rfl) rfl (by decide) (R_move (v := (.pointer (some ⟨b7, 0, none⟩))) rfl) ?_
            refine LW_v (.inl rfl) rfl (by decide) (R_field fa83_3 rfl) ?_
            refine LW_v (.inl rfl) rfl (by decide) (R_load (v := (.agg (encRole a0.B).toArray)) rfl (load_boxA hST.has (.tail _ (.head _)) (encRole a0.B) rfl Tryz.isAgg47 Tryz.sizeOf47)) ?_
            obtain ⟨r156, hr157, hm127⟩ := bind_some hm127
            replace hST : ST NoF w _ _ ((b7, Obj.cells (#[y29] : Array Value) 221 (0, 0)) :: (S30 ++ ((b1, Obj.cells ((encCred a0).toArray : Array Value) 83 (0, 0)) :: []))) := hST.perm (permD [[(b7, Obj.cells (#[y29] : Array Value) 221 (0, 0))], [(b1, Obj.cells ((encCred a0).toArray : Array Value) 83 (0, 0))], S30] [0, 1, 2] [0, 2, 1] ([]) (by decide) rfl rfl)
            have hsz := hST.size
            refine LW_e (.inl rfl) rfl (by decide) (E_callM (args := [(.pointer (some ⟨b7, 0, none⟩)), (.agg (encRole a0.B).toArray)]) (caps := #[]) (((b7, Obj.cells (#[y29] : Array Value) 221 (0, 0)) :: (S30 ++ []))) (((b1, Obj.cells ((encCred a0).toArray : Array Value) 83 (0, 0)) :: [])) hST (by simp only [List.append_assoc, List.cons_append, List.nil_append]; exact List.Perm.refl _) rfl Tryz.call204 (by exact args2 rfl rfl) (fun hH hN hsb hmm => w_role_Put_w b7 y29 r21.2 S30 a0.B _ _ hH hN (Sub.refl _) hy31 hr157) (fun W158 v161 μ159 L163 hST hle160 hlift hK162 => ?_))
            obtain ⟨y164, S165, hv167, rfl, hy166⟩ := hK162
            replace hv167 := hv167.symm; subst hv167
            simp only [List.append_assoc, List.cons_append, List.nil_append] at hST
            replace hST : ST NoF w _ _ ((b7, Obj.cells (#[y164] : Array Value) 221 (0, 0)) :: ((b1, Obj.cells ((encCred a0).toArray : Array Value) 83 (0, 0)) :: (S165 ++ []))) := hST.perm (permD [[(b7, Obj.cells (#[y164] : Array Value) 221 (0, 0))], S165, [(b1, Obj.cells ((encCred a0).toArray : Array Value) 83 (0, 0))]] [0, 1, 2] [0, 2, 1] ([]) (by decide) rfl rfl)
            refine LW_nil ?_
            refine sq_n ?_
            refine CW_region ?_
            refine LW_v (.inl rfl) rfl (by decide) (R_move (v := (.pointer (some ⟨b7, 0, none⟩))) rfl) ?_
            refine LW_v (.inl rfl) rfl (by decide) (R_field fa83_5 rfl) ?_
            refine LW_v (.inl rfl) rfl (by decide) (R_load (v := (.string a0.Word2)) rfl (load_box1 hST.has (.tail _ (.head _)) rfl Tryz.isAgg9)) ?_
            obtain ⟨r168, hr169, hm127⟩ := bind_some hm127
            replace hST : ST NoF w _ _ ((b7, Obj.cells (#[y164] : Array Value) 221 (0, 0)) :: (S165 ++ ((b1, Obj.cells ((encCred a0).toArray : Array Value) 83 (0, 0)) :: []))) := hST.perm (permD [[(b7, Obj.cells (#[y164] : Array Value) 221 (0, 0))], [(b1, Obj.cells ((encCred a0).toArray : Array Value) 83 (0, 0))], S165] [0, 1, 2] [0, 2, 1] ([]) (by decide) rfl rfl)
            have hsz := hST.size
            refine LW_e (.inl rfl) rfl (by decide) (E_callM (args := [(.pointer (some ⟨b7, 0, none⟩)), (.string a0.Word2)]) (caps := #[]) (((b7, Obj.cells (#[y164] : Array Value) 221 (0, 0)) :: (S165 ++ []))) (((b1, Obj.cells ((encCred a0).toArray : Array Value) 83 (0, 0)) :: [])) hST (by simp only [List.append_assoc, List.cons_append, List.nil_append]; exact List.Perm.refl _) rfl Tryz.call205 (by exact args2 rfl rfl) (fun hH hN hsb hmm => w_name_Put_w b7 y164 r156.2 S165 a0.Word2 _ _ hH hN (Sub.refl _) hy166 hr169) (fun W170 v173 μ171 L175 hST hle172 hlift hK174 => ?_))
            obtain ⟨y176, S177, hv179, rfl, hy178⟩ := hK174
            replace hv179 := hv179.symm; subst hv179
            simp only [List.append_assoc, List.cons_append, List.nil_append] at hST
            replace hST : ST NoF w _ _ ((b7, Obj.cells (#[y176] : Array Value) 221 (0, 0)) :: ((b1, Obj.cells ((encCred a0).toArray : Array Value) 83 (0, 0)) :: (S177 ++ []))) := hST.perm (permD [[(b7, Obj.cells (#[y176] : Array Value) 221 (0, 0))], S177, [(b1, Obj.cells ((encCred a0).toArray : Array Value) 83 (0, 0))]] [0, 1, 2] [0, 2, 1] ([]) (by decide) rfl rfl)
            refine LW_nil ?_
            refine bq_n ?_
            refine sq_n ?_
            replace hm127 := Option.some.inj hm127; subst hm127
            exact ⟨y176, r168.2, S177, μ171, _, (hle160.trans hle172), (hST.sublist (List.Sublist.cons_cons _ (List.Sublist.cons _ (List.Sublist.refl _)))), rfl, hy178, hm128⟩
          · replace hm127 := if_f hb155 hm127
            refine CW_seq ?_
            refine CW_region ?_
            refine LW_v (.inl rfl) rfl (by decide) (R_int (k := .i64) (a := a0.Kind) (b := 4) (v := (.bool ((a0.Kind == 4)))) rfl rfl rfl) ?_
            refine LW_v (.inl rfl) rfl (by decide) (R_assign (v := (.bool ((a0.Kind == 4)))) rfl) ?_
            refine LW_nil ?_
            refine sq_n ?_
            refine CW_if (b := (a0.Kind == 4)) rfl (fun hb180 => ?_) (fun hb180 => ?_)
            · replace hm127 := if_t hb180 hm127
              refine CW_seq ?_
              refine CW_region ?_
              refine LW_v (.inl rfl) rfl (by decide) (R_move (v := (.pointer (some ⟨b7, 0, none⟩))) rfl) ?_
              refine LW_v (.inl rfl) rfl (by decide) (R_field fa83_3 rfl) ?_
              refine LW_v (.inl rfl) rfl (by decide) (R_load (v := (.agg (encRole a0.B).toArray)) rfl (load_boxA hST.has (.tail _ (.head _)) (encRole a0.B) rfl Tryz.isAgg47 Tryz.sizeOf47)) ?_
              obtain ⟨r181, hr182, hm127⟩ := bind_some hm127
              replace hST : ST NoF w _ _ ((b7, Obj.cells (#[y29] : Array Value) 221 (0, 0)) :: (S30 ++ ((b1, Obj.cells ((encCred a0).toArray : Array Value) 83 (0, 0)) :: []))) := hST.perm (permD [[(b7, Obj.cells (#[y29] : Array Value) 221 (0, 0))], [(b1, Obj.cells ((encCred a0).toArray : Array Value) 83 (0, 0))], S30] [0, 1, 2] [0, 2, 1] ([]) (by decide) rfl rfl)
              have hsz := hST.size
              refine LW_e (.inl rfl) rfl (by decide) (E_callM (args := [(.pointer (some ⟨b7, 0, none⟩)), (.agg (encRole a0.B).toArray)]) (caps := #[]) (((b7, Obj.cells (#[y29] : Array Value) 221 (0, 0)) :: (S30 ++ []))) (((b1, Obj.cells ((encCred a0).toArray : Array Value) 83 (0, 0)) :: [])) hST (by simp only [List.append_assoc, List.cons_append, List.nil_append]; exact List.Perm.refl _) rfl Tryz.call204 (by exact args2 rfl rfl) (fun hH hN hsb hmm => w_role_Put_w b7 y29 r21.2 S30 a0.B _ _ hH hN (Sub.refl _) hy31 hr182) (fun W183 v186 μ184 L188 hST hle185 hlift hK187 => ?_))
              obtain ⟨y189, S190, hv192, rfl, hy191⟩ := hK187
              replace hv192 := hv192.symm; subst hv192
              simp only [List.append_assoc, List.cons_append, List.nil_append] at hST
              replace hST : ST NoF w _ _ ((b7, Obj.cells (#[y189] : Array Value) 221 (0, 0)) :: ((b1, Obj.cells ((encCred a0).toArray : Array Value) 83 (0, 0)) :: (S190 ++ []))) := hST.perm (permD [[(b7, Obj.cells (#[y189] : Array Value) 221 (0, 0))], S190, [(b1, Obj.cells ((encCred a0).toArray : Array Value) 83 (0, 0))]] [0, 1, 2] [0, 2, 1] ([]) (by decide) rfl rfl)
              refine LW_nil ?_
              refine sq_n ?_
              refine CW_region ?_
              refine LW_v (.inl rfl) rfl (by decide) (R_move (v := (.pointer (some ⟨b7, 0, none⟩))) rfl) ?_
              refine LW_v (.inl rfl) rfl (by decide) (R_field fa83_4 rfl) ?_
              refine LW_v (.inl rfl) rfl (by decide) (R_load (v := (.agg (encRole a0.C).toArray)) rfl (load_boxA hST.has (.tail _ (.head _)) (encRole a0.C) rfl Tryz.isAgg47 Tryz.sizeOf47)) ?_
              obtain ⟨r193, hr194, hm127⟩ := bind_some hm127
              replace hST : ST NoF w _ _ ((b7, Obj.cells (#[y189] : Array Value) 221 (0, 0)) :: (S190 ++ ((b1, Obj.cells ((encCred a0).toArray : Array Value) 83 (0, 0)) :: []))) := hST.perm (permD [[(b7, Obj.cells (#[y189] : Array Value) 221 (0, 0))], [(b1, Obj.cells ((encCred a0).toArray : Array Value) 83 (0, 0))], S190] [0, 1, 2] [0, 2, 1] ([]) (by decide) rfl rfl)
              have hsz := hST.size
              refine LW_e (.inl rfl) rfl (by decide) (E_callM (args := [(.pointer (some ⟨b7, 0, none⟩)), (.agg (encRole a0.C).toArray)]) (caps := #[]) (((b7, Obj.cells (#[y189] : Array Value) 221 (0, 0)) :: (S190 ++ []))) (((b1, Obj.cells ((encCred a0).toArray : Array Value) 83 (0, 0)) :: [])) hST (by simp only [List.append_assoc, List.cons_append, List.nil_append]; exact List.Perm.refl _) rfl Tryz.call204 (by exact args2 rfl rfl) (fun hH hN hsb hmm => w_role_Put_w b7 y189 r181.2 S190 a0.C _ _ hH hN (Sub.refl _) hy191 hr194) (fun W195 v198 μ196 L200 hST hle197 hlift hK199 => ?_))
              obtain ⟨y201, S202, hv204, rfl, hy203⟩ := hK199
              replace hv204 := hv204.symm; subst hv204
              simp only [List.append_assoc, List.cons_append, List.nil_append] at hST
              replace hST : ST NoF w _ _ ((b7, Obj.cells (#[y201] : Array Value) 221 (0, 0)) :: ((b1, Obj.cells ((encCred a0).toArray : Array Value) 83 (0, 0)) :: (S202 ++ []))) := hST.perm (permD [[(b7, Obj.cells (#[y201] : Array Value) 221 (0, 0))], S202, [(b1, Obj.cells ((encCred a0).toArray : Array Value) 83 (0, 0))]] [0, 1, 2] [0, 2, 1] ([]) (by decide) rfl rfl)
              refine LW_nil ?_
              refine bq_n ?_
              refine sq_n ?_
              replace hm127 := Option.some.inj hm127; subst hm127
              exact ⟨y201, r193.2, S202, μ196, _, (hle185.trans hle197), (hST.sublist (List.Sublist.cons_cons _ (List.Sublist.cons _ (List.Sublist.refl _)))), rfl, hy203, hm128⟩
            · replace hm127 := if_f hb180 hm127
              refine CW_skip ?_
              refine bq_n ?_
              refine sq_n ?_
              replace hm127 := Option.some.inj hm127; subst hm127
              exact ⟨y29, r21.2, S30, μ24, _, (Sub.refl _), (hST.sublist (List.Sublist.cons_cons _ (List.Sublist.cons _ (List.Sublist.refl _)))), rfl, hy31, hm128⟩
    · rintro E W ⟨v110, l111, R113, μ109, L114, hle116, hST, e117, hs112, hm115⟩
      refine CW_seq ?_
      refine CW_region ?_
      refine LW_v (.inl rfl) rfl (by decide) (R_move (v := (.pointer (some ⟨b7, 0, none⟩))) e117) ?_
      obtain ⟨r118, hr119, hm115⟩ := bind_some hm115
      replace hST : ST NoF w _ _ ((b7, Obj.cells (#[v110] : Array Value) 221 (0, 0)) :: (R113 ++ L114)) := hST
      have hsz := hST.size
      refine LW_e (.inl rfl) rfl (by decide) (E_givesRow (args := [(.pointer (some ⟨b7, 0, none⟩))]) [_] _ hST rfl Tryz.call206 (by exact args1 rfl) (w_tape_Pen_Bytes b7 v110 l111 _ _ (hs112.sl (fun _ => rfl) (fun b o hq => hST.at_ (.tail _ (List.mem_append_left _ hq)))) (At.of (hST.at_ (.head _)) _ rfl) hr119) (fun W120 v123 μ121 R124 hST hle122 hR125 => ?_))
      refine LW_v (.inl rfl) rfl (by decide) (R_assign (v := v123) rfl) ?_
      refine LW_nil ?_
      refine sq_n ?_
      replace hST : ST NoF w _ _ ((b7, Obj.cells (#[v110] : Array Value) 221 (0, 0)) :: (R124 ++ (R113 ++ L114))) := hST
      replace hST : ST NoF w _ _ (R124 ++ L114) := hST.sublist (List.Sublist.cons _ (List.Sublist.append (List.Sublist.refl _) ((List.Sublist.refl _).trans (List.sublist_append_right _ _))))
      refine CW_ret ?_
      replace hm115 := Option.some.inj hm115; subst hm115
      refine retQ_1 (v := v123) rfl rfl ?_
      exact ⟨_, R124, rfl, hST.backRow (fun p hq => by simp [hq]) hR125.nd, hR125⟩

theorem ext202 (w : World) {va vb : Value} {a b : List Int} (h1 : Sl (Pl (encI .u8)) 1 (hp w) va a) (h2 : Sl (Pl (encI .u8)) 1 (hp w) vb b) : (callFunc 202 [va, vb].toArray).run Tryz.prog w = .ok (.value (.int .i64 (xCompareB a b))) w := run_cmpB Tryz.func202 (by kernel_rfl) (by kernel_rfl) (by kernel_rfl) (by kernel_rfl) h1 h2

theorem w_bytes_Compare (v_a0 : Value) (a0 : List Int) (v_a1 : Value) (a1 : List Int) (r : Int) (w : World) (h_a0 : Sl (Pl (encI .u8)) 1 (hp w) v_a0 a0) (h_a1 : Sl (Pl (encI .u8)) 1 (hp w) v_a1 a1) (hm : m_bytes_Compare a0 a1 = some r) :
    Gives Tryz.prog 165 [v_a0, v_a1] w (.int .i64 r) := by
  have hST := ST.start w
  unfold m_bytes_Compare at hm
  refine calls_of_CW (n := 8) Tryz.func165 rfl rfl (Nat.le_of_ble_eq_true rfl) ?_
  refine CW_seq ?_
  refine CW_region ?_
  refine LW_v (.inl rfl) rfl (by decide) (R_assign (v := (.int .i64 0)) rfl) ?_
  refine LW_nil ?_
  refine sq_n ?_
  refine CW_seq ?_
  refine CW_region ?_
  refine LW_v (.inl rfl) rfl (by decide) (R_move (v := v_a0) rfl) ?_
  refine LW_v (.inl rfl) rfl (by decide) (R_move (v := v_a1) rfl) ?_
  refine LW_e (.inl rfl) rfl (by decide) (E_ext (args := [v_a0, v_a1]) (v := .int .i64 (xCompareB a0 a1)) rfl (by exact args2 rfl rfl) (ext202 _ (h_a0.mono (Pl.mono _) hST.sub_hp) (h_a1.mono (Pl.mono _) hST.sub_hp)) ?_)
  refine LW_v (.inl rfl) rfl (by decide) (R_assign (v := (.int .i64 ((xCompareB a0 a1)))) rfl) ?_
  refine LW_nil ?_
  refine sq_n ?_
  refine CW_ret ?_
  replace hm := Option.some.inj hm; subst hm
  refine retQ_1 (v := (.int .i64 ((xCompareB a0 a1)))) rfl rfl ?_
  exact ⟨rfl, hST.ex⟩

theorem w_cred_Compare (a0 : Cred) (a1 : Cred) (r : Int) (w : World)  (hm : m_cred_Compare a0 a1 = some r) :
    Gives Tryz.prog 126 [(.agg (encCred a0).toArray), (.agg (encCred a1).toArray)] w (.int .i64 r) := by
  have hST := ST.start w
  unfold m_cred_Compare at hm
  refine calls_of_CW (n := 10) Tryz.func126 rfl rfl (Nat.le_of_ble_eq_true rfl) ?_
  refine CW_seq ?_
  refine CW_region ?_
  refine LW_e (.inl rfl) rfl (by decide) (E_box (v := (.agg (encCred a0).toArray)) hST rfl (fun W2 b1 hST => ?_))
  refine LW_e (.inl rfl) rfl (by decide) (E_box (v := (.agg (encCred a1).toArray)) hST rfl (fun W4 b3 hST => ?_))
  refine LW_v (.inl rfl) rfl (by decide) (R_assign (v := (.int .i64 0)) rfl) ?_
  refine LW_nil ?_
  refine sq_n ?_
  refine CW_seq ?_
  refine PW_start (Has (hp w) ((b3, Obj.cells ((encCred a1).toArray : Array Value) 83 (0, 0)) :: ((b1, Obj.cells ((encCred a0).toArray : Array Value) 83 (0, 0)) :: []))) Tryz_mixed ?_
  replace hST := hST.drew
  have hSS : (Has (hp w) ((b3, Obj.cells ((encCred a1).toArray : Array Value) 83 (0, 0)) :: ((b1, Obj.cells ((encCred a0).toArray : Array Value) 83 (0, 0)) :: [])) _) := ((show ST NoF w _ _ ((b3, Obj.cells ((encCred a1).toArray : Array Value) 83 (0, 0)) :: ((b1, Obj.cells ((encCred a0).toArray : Array Value) 83 (0, 0)) :: [])) from hST).has.sub (Sub.refl _) (fun p hq => ((List.mem_cons.1 hq).elim (fun hq => by rw [hq]; exact (.head _)) (fun hq => ((List.mem_cons.1 hq).elim (fun hq => by rw [hq]; exact (.tail _ (.head _))) (fun hq => (absurd hq List.not_mem_nil)))))))
  refine PW_v 0 rfl (by kernel_rfl) (by kernel_rfl) (by kernel_rfl) (.inl rfl) rfl (by decide) hSS (fun W hS => R_load (v := (.agg (encCred a0).toArray)) rfl (load_boxA hS (.tail _ (.head _)) (encCred a0) rfl Tryz.isAgg83 Tryz.sizeOf83)) ?_
  refine PW_v 2 rfl (by kernel_rfl) (by kernel_rfl) (by kernel_rfl) (.inl rfl) rfl (by decide) hSS (fun W hS => R_load (v := (.agg (encCred a1).toArray)) rfl (load_boxA hS (.head _) (encCred a1) rfl Tryz.isAgg83 Tryz.sizeOf83)) ?_
  obtain ⟨r24, hr25, hm⟩ := bind_some hm
  replace hST : ST NoF w _ _ ((b3, Obj.cells ((encCred a1).toArray : Array Value) 83 (0, 0)) :: ((b1, Obj.cells ((encCred a0).toArray : Array Value) 83 (0, 0)) :: [])) := hST
  have hsz := hST.size
  refine PW_e 1 rfl (by kernel_rfl) (.inl rfl) rfl (by decide) (E_givesRow (args := [(.agg (encCred a0).toArray)]) [_, _] _ hST rfl Tryz.call166 (by exact args1 rfl) (w_cred_Bytes a0 _ _  hr25) (fun W26 v29 μ27 R30 hST hle28 hR31 => ?_))
  have hSS : (Has (hp w) ((b3, Obj.cells ((encCred a1).toArray : Array Value) 83 (0, 0)) :: ((b1, Obj.cells ((encCred a0).toArray : Array Value) 83 (0, 0)) :: [])) _) := ((show ST NoF w _ _ ((b3, Obj.cells ((encCred a1).toArray : Array Value) 83 (0, 0)) :: ((b1, Obj.cells ((encCred a0).toArray : Array Value) 83 (0, 0)) :: (R30 ++ []))) from hST).has.sub hle28 (fun p hq => ((List.mem_cons.1 hq).elim (fun hq => by rw [hq]; exact (.head _)) (fun hq => ((List.mem_cons.1 hq).elim (fun hq => by rw [hq]; exact (.tail _ (.head _))) (fun hq => (absurd hq List.not_mem_nil)))))))
  refine ⟨hSS, ?_⟩
  obtain ⟨r32, hr33, hm⟩ := bind_some hm
  replace hST : ST NoF w _ _ ((b3, Obj.cells ((encCred a1).toArray : Array Value) 83 (0, 0)) :: ((b1, Obj.cells ((encCred a0).toArray : Array Value) 83 (0, 0)) :: (R30 ++ []))) := hST
  have hsz := hST.size
  refine PW_e 3 rfl (by kernel_rfl) (.inl rfl) rfl (by decide) (E_givesRow (args := [(.agg (encCred a1).toArray)]) [_, _] _ hST rfl Tryz.call166 (by exact args1 rfl) (w_cred_Bytes a1 _ _  hr33) (fun W34 v37 μ35 R38 hST hle36 hR39 => ?_))
  have hSS : (Has (hp w) ((b3, Obj.cells ((encCred a1).toArray : Array Value) 83 (0, 0)) :: ((b1, Obj.cells ((encCred a0).toArray : Array Value) 83 (0, 0)) :: [])) _) := ((show ST NoF w _ _ ((b3, Obj.cells ((encCred a1).toArray : Array Value) 83 (0, 0)) :: ((b1, Obj.cells ((encCred a0).toArray : Array Value) 83 (0, 0)) :: (R38 ++ (R30 ++ [])))) from hST).has.sub (hle28.trans hle36) (fun p hq => ((List.mem_cons.1 hq).elim (fun hq => by rw [hq]; exact (.head _)) (fun hq => ((List.mem_cons.1 hq).elim (fun hq => by rw [hq]; exact (.tail _ (.head _))) (fun hq => (absurd hq List.not_mem_nil)))))))
  refine ⟨hSS, ?_⟩
  obtain ⟨r40, hr41, hm⟩ := bind_some hm
  replace hST : ST NoF w _ _ ((b3, Obj.cells ((encCred a1).toArray : Array Value) 83 (0, 0)) :: ((b1, Obj.cells ((encCred a0).toArray : Array Value) 83 (0, 0)) :: (R38 ++ (R30 ++ [])))) := hST
  have hsz := hST.size
  refine PW_e 4 rfl (by kernel_rfl) (.inl rfl) rfl (by decide) (E_gives (args := [v29, v37]) hST rfl Tryz.call165 (by exact args2 rfl rfl) (w_bytes_Compare v29 r24 v37 r32 _ _ (hR31.sl (fun _ => rfl) (fun b o hq => hST.at_ (.tail _ (.tail _ (List.mem_append_right _ (List.mem_append_left _ hq)))))) (hR39.sl (fun _ => rfl) (fun b o hq => hST.at_ (.tail _ (.tail _ (List.mem_append_left _ hq))))) hr41) (fun W42 hST => ?_))
  have hSS : (Has (hp w) ((b3, Obj.cells ((encCred a1).toArray : Array Value) 83 (0, 0)) :: ((b1, Obj.cells ((encCred a0).toArray : Array Value) 83 (0, 0)) :: [])) _) := ((show ST NoF w _ _ ((b3, Obj.cells ((encCred a1).toArray : Array Value) 83 (0, 0)) :: ((b1, Obj.cells ((encCred a0).toArray : Array Value) 83 (0, 0)) :: (R38 ++ (R30 ++ [])))) from hST).has.sub (hle28.trans hle36) (fun p hq => ((List.mem_cons.1 hq).elim (fun hq => by rw [hq]; exact (.head _)) (fun hq => ((List.mem_cons.1 hq).elim (fun hq => by rw [hq]; exact (.tail _ (.head _))) (fun hq => (absurd hq List.not_mem_nil)))))))
  refine ⟨hSS, ?_⟩
  refine PW_v 5 rfl (by kernel_rfl) (by kernel_rfl) (by kernel_rfl) (.inl rfl) rfl (by decide) hSS (fun W hS => R_assign (v := (.int .i64 r40)) rfl) ?_
  refine PW_done (by kernel_rfl) ?_
  refine sq_n ?_
  replace hST : ST NoF w _ _ ((b3, Obj.cells ((encCred a1).toArray : Array Value) 83 (0, 0)) :: ((b1, Obj.cells ((encCred a0).toArray : Array Value) 83 (0, 0)) :: (R38 ++ (R30 ++ [])))) := hST
  replace hST : ST NoF w _ _ [] := hST.sublist (List.Sublist.cons _ (List.Sublist.cons _ (((List.Sublist.refl _).trans (List.sublist_append_right _ _)).trans (List.sublist_append_right _ _))))
  refine CW_ret ?_
  replace hm := Option.some.inj hm; subst hm
  refine retQ_1 (v := (.int .i64 r40)) rfl rfl ?_
  exact ⟨rfl, hST.ex⟩

theorem w_slices_Compact_Cred (v_a0 : Value) (a0 : List Cred) (R_a0 : List (Nat × Obj)) (r : List Cred) (w : World) {μ0 : Mem} (hH : Held (R_a0 ++ []) w) (hN : (((R_a0 ++ []) : List (Nat × Obj)).map (·.1)).Nodup) (hS0 : Sub μ0 (hpx w (R_a0 ++ []))) (h_a0 : Row 83 encCred 9 v_a0 a0 R_a0) (hm : m_slices_Compact_Cred a0 = some r) :
    GivesM Tryz.prog 127 [v_a0] w (R_a0 ++ []) (fun v L1 W' => ∃ (y1 : Value) (S2 : List (Nat × Obj)), v = y1 ∧ L1 = (S2 ++ []) ∧ Row 83 encCred 9 y1 r S2) := by
  have hST := (ST.startM hH hN).weak hS0
  unfold m_slices_Compact_Cred at hm
  refine calls_of_CW (n := 61) Tryz.func127 rfl rfl (Nat.le_of_ble_eq_true rfl) ?_
  refine CW_seq ?_
  refine CW_region ?_
  refine LW_v (.inl rfl) rfl (by decide) (R_assign (v := (.slice none 0 0)) rfl) ?_
  refine LW_nil ?_
  refine sq_n ?_
  refine CW_seq ?_
  refine CW_seq ?_
  refine CW_region ?_
  refine LW_v (.inl rfl) rfl (by decide) (R_move (v := v_a0) rfl) ?_
  refine LW_v (.inl rfl) rfl (by decide) (R_lenRow Tryz.underlying22 rfl h_a0) ?_
  refine LW_v (.inl rfl) rfl (by decide) (R_int (k := .i64) (a := ((a0.length : Int))) (b := 2) (v := (.bool ((decide (((a0.length : Int)) < 2))))) rfl rfl rfl) ?_
  refine LW_nil ?_
  refine sq_n ?_
  refine CW_if (b := (decide (((a0.length : Int)) < 2))) rfl (fun hb1 => ?_) (fun hb1 => ?_)
  · replace hm := if_t hb1 hm
    refine CW_seq ?_
    refine CW_region ?_
    refine LW_v (.inl rfl) rfl (by decide) (R_move (v := v_a0) rfl) ?_
    refine LW_v (.inl rfl) rfl (by decide) (R_assign (v := v_a0) rfl) ?_
    refine LW_nil ?_
    refine sq_n ?_
    refine CW_ret ?_
    refine sq_r ?_
    replace hm := Option.some.inj hm; subst hm
    refine retQ_1 (v := v_a0) rfl rfl ?_
    replace hST : ST (keys (R_a0 ++ [])) w _ _ (R_a0 ++ []) := hST
    exact ⟨_, (R_a0 ++ []), rfl, (ST.backM (L1 := (R_a0 ++ [])) (by have hh : ST (keys (R_a0 ++ [])) w _ _ (R_a0 ++ []) := hST.perm (List.Perm.refl _); simpa only [List.append_assoc, List.cons_append, List.nil_append] using hh)), v_a0, R_a0, rfl, rfl, h_a0⟩
  · replace hm := if_f hb1 hm
    refine CW_skip ?_
    refine sq_n ?_
    refine CW_seq ?_
    refine CW_seq ?_
    refine CW_region ?_
    refine LW_v (.inl rfl) rfl (by decide) (R_assign (v := (.int .i64 1)) rfl) ?_
    refine LW_nil ?_
    refine sq_n ?_
    refine CW_block (CW_loop (fun m E W => ∃ (x2371 : Int) (L2965 : List (Nat × Obj)), ST (keys (R_a0 ++ [])) w W μ0 (R_a0 ++ L2965) ∧ E 0 = v_a0 ∧ E 3 = (.int .i64 x2371) ∧ m_slices_Compact_Cred_L1 a0 m x2371 = some r) FUEL ⟨1, _, (hST.sublist (List.Sublist.refl _)), rfl, rfl, hm⟩ ?_)
    rintro m E W ⟨x2371, L2965, hST, e2968, e2969, hm2966⟩
    cases m with
    | zero => rw [m_slices_Compact_Cred_L1] at hm2966; cases hm2966
    | succ n2967 =>
      rw [m_slices_Compact_Cred_L1] at hm2966
      refine CW_seq ?_
      refine CW_seq ?_
      refine CW_region ?_
      refine LW_v (.inl rfl) rfl (by decide) (R_move (v := (.int .i64 x2371)) e2969) ?_
      refine LW_v (.inl rfl) rfl (by decide) (R_move (v := v_a0) e2968) ?_
      refine LW_v (.inl rfl) rfl (by decide) (R_lenRow Tryz.underlying22 rfl h_a0) ?_
      refine LW_v (.inl rfl) rfl (by decide) (R_int (k := .i64) (a := x2371) (b := ((a0.length : Int))) (v := (.bool ((decide (x2371 < ((a0.length : Int))))))) rfl rfl rfl) ?_
      refine LW_nil ?_
      refine sq_n ?_
      refine CW_if (b := (decide (x2371 < ((a0.length : Int))))) rfl (fun hb2970 => ?_) (fun hb2970 => ?_)
      · replace hm2966 := if_t hb2970 hm2966
        refine CW_skip ?_
        refine sq_n ?_
        refine CW_seq ?_
        refine CW_block ?_
        refine CW_seq ?_
        refine PW_start (Has μ0 (R_a0 ++ [])) Tryz_mixed ?_
        replace hST := hST.drew
        have hSS : (Has μ0 (R_a0 ++ []) _) := ((show ST (keys (R_a0 ++ [])) w _ _ (R_a0 ++ L2965) from hST).has.sub (Sub.refl _) (fun p hq => ((List.mem_append.1 hq).elim (fun hq => (List.mem_append_left _ hq)) (fun hq => (absurd hq List.not_mem_nil)))))
        refine PW_v 0 rfl (by kernel_rfl) (by kernel_rfl) (by kernel_rfl) (.inl rfl) rfl (by decide) hSS (fun W hS => R_move (v := v_a0) e2968) ?_
        refine PW_v 1 rfl (by kernel_rfl) (by kernel_rfl) (by kernel_rfl) (.inl rfl) rfl (by decide) hSS (fun W hS => R_move (v := (.int .i64 x2371)) e2969) ?_
        obtain ⟨x2984, hx2985, hm2966⟩ := bind_some hm2966
        refine PW_q 2 rfl (by kernel_rfl) (by kernel_rfl) (by kernel_rfl) (.inl rfl) rfl (by decide) hSS (R_indexRow (i := x2371) (x0 := x2984) Tryz.underlying22 Tryz.sizeOf83 rfl rfl h_a0 (idx_nonneg hx2985) (idx_get hx2985)) (fun p2981 hp2982 => ?_)
        refine PW_v 3 rfl (by kernel_rfl) (by kernel_rfl) (by kernel_rfl) (.inl rfl) rfl (by decide) hSS (fun W hS => R_load (v := (.agg (encCred x2984).toArray)) rfl (load_ixA hS (fun p hq => by simp [hq]) h_a0 lenCred hp2982 (idx_get hx2985) Tryz.isAgg83 Tryz.sizeOf83)) ?_
        refine PW_v 4 rfl (by kernel_rfl) (by kernel_rfl) (by kernel_rfl) (.inl rfl) rfl (by decide) hSS (fun W hS => R_move (v := v_a0) e2968) ?_
        refine PW_v 5 rfl (by kernel_rfl) (by kernel_rfl) (by kernel_rfl) (.inl rfl) rfl (by decide) hSS (fun W hS => R_move (v := (.int .i64 x2371)) e2969) ?_
        refine PW_v 6 rfl (by kernel_rfl) (by kernel_rfl) (by kernel_rfl) (.inl rfl) rfl (by decide) hSS (fun W hS => R_int (k := .i64) (a := x2371) (b := 1) (v := (.int .i64 ((IntKind.i64.wrap (x2371 - 1))))) rfl rfl rfl) ?_
        obtain ⟨x2989, hx2990, hm2966⟩ := bind_some hm2966
        refine PW_q 7 rfl (by kernel_rfl) (by kernel_rfl) (by kernel_rfl) (.inl rfl) rfl (by decide) hSS (R_indexRow (i := (IntKind.i64.wrap (x2371 - 1))) (x0 := x2989) Tryz.underlying22 Tryz.sizeOf83 rfl rfl h_a0 (idx_nonneg hx2990) (idx_get hx2990)) (fun p2986 hp2987 => ?_)
        refine PW_v 8 rfl (by kernel_rfl) (by kernel_rfl) (by kernel_rfl) (.inl rfl) rfl (by decide) hSS (fun W hS => R_load (v := (.agg (encCred x2989).toArray)) rfl (load_ixA hS (fun p hq => by simp [hq]) h_a0 lenCred hp2987 (idx_get hx2990) Tryz.isAgg83 Tryz.sizeOf83)) ?_
        refine PW_v 9 rfl (by kernel_rfl) (by kernel_rfl) (by kernel_rfl) (.inl rfl) rfl (by decide) hSS (fun W hS => R_eql (a := (encCred x2984).toArray) (b := (encCred x2989).toArray) rfl rfl (guard_agg Tryz.eqGuardType83) (bin_eql (eqInCred _ x2984 x2989))) ?_
        refine PW_done (by kernel_rfl) ?_
        refine sq_n ?_
        refine CW_if (b := (beqCred x2984 x2989)) rfl (fun hb2991 => ?_) (fun hb2991 => ?_)
        · replace hm2966 := if_t hb2991 hm2966
          refine CW_seq ?_
          refine CW_region ?_
          refine LW_v (.inl rfl) rfl (by decide) (R_move (v := v_a0) e2968) ?_
          refine LW_v (.inl rfl) rfl (by decide) (R_move (v := (.int .i64 x2371)) e2969) ?_
          obtain ⟨_, hg2994, hm2966⟩ := bind_some hm2966
          refine LW_q (.inl rfl) rfl (by decide) (R_sliceTail (i := x2371) Tryz.underlying22 Tryz.sizeOf83 rfl rfl h_a0 (chk_1 hg2994) (chk_2 hg2994)) (fun v2992 hs2993 => ?_)
          refine LW_v (.inl rfl) rfl (by decide) (R_assign (v := v2992) rfl) ?_
          refine LW_nil ?_
          refine sq_n ?_
          refine CW_seq ?_
          refine CW_seq ?_
          refine CW_region ?_
          refine LW_v (.inl rfl) rfl (by decide) (R_assign (v := (.int .i64 1)) rfl) ?_
          refine LW_nil ?_
          refine sq_n ?_
          obtain ⟨s3285, hm3286, hm3287⟩ := bind_some hm2966
          refine CW_cut (fun E W => ∃ (l3268 : List Cred) (R3270 : List (Nat × Obj)) (x3271 : Int) (L3272 : List (Nat × Obj)), ST (keys (R_a0 ++ [])) w W μ0 (R3270 ++ L3272) ∧ E 0 = v_a0 ∧ E 3 = (.int .i64 x3271) ∧ Row 83 encCred 9 v_a0 l3268 R3270 ∧ (((chk (decide (0 ≤ x3271) && decide (x3271 ≤ (l3268.length : Int))))).bind fun _ => (((chk (decide (0 ≤ x3271) && decide (x3271 ≤ (((clearT l3268 (Int.toNat x3271) (⟨0, (⟨zS, zS⟩ : Role), zS, (⟨zS, zS⟩ : Role), (⟨zS, zS⟩ : Role), zS⟩ : Cred))).length : Int))))).bind fun _ => some (((clearT l3268 (Int.toNat x3271) (⟨0, (⟨zS, zS⟩ : Role), zS, (⟨zS, zS⟩ : Role), (⟨zS, zS⟩ : Role), zS⟩ : Cred))).take (Int.toNat x3271)))) = some r) ?_ ?_
          · refine CW_block (CW_loop (fun m E W => ∃ (l3372 : List Cred) (R3374 : List (Nat × Obj)) (x3375 : Int) (x3376 : Int) (L3470 : List (Nat × Obj)), ST (keys (R_a0 ++ [])) w W μ0 (R3374 ++ L3470) ∧ E 0 = v_a0 ∧ E 3 = (.int .i64 x3375) ∧ E 4 = v2992 ∧ E 5 = (.int .i64 x3376) ∧ Row 83 encCred 9 v_a0 l3372 R3374 ∧ m_slices_Compact_Cred_L2 x2371 m l3372 x3375 x3376 = some s3285) FUEL ⟨a0, R_a0, x2371, 1, _, (hST.sublist (List.Sublist.refl _)), e2968, e2969, rfl, rfl, h_a0, hm3286⟩ ?_)
            rintro m E W ⟨l3372, R3374, x3375, x3376, L3470, hST, e3473, e3474, e3475, e3476, hs3373, hm3471⟩
            cases m with
            | zero => rw [m_slices_Compact_Cred_L2] at hm3471; cases hm3471
            | succ n3472 =>
              rw [m_slices_Compact_Cred_L2] at hm3471
              refine CW_seq ?_
              refine CW_seq ?_
              refine CW_region ?_
              refine LW_v (.inl rfl) rfl (by decide) (R_move (v := (.int .i64 x3376)) e3476) ?_
              refine LW_v (.inl rfl) rfl (by decide) (R_move (v := v2992) e3475) ?_
              refine LW_v (.inl rfl) rfl (by decide) (R_lenTail Tryz.underlying22 rfl hs2993 hs3373) ?_
              refine LW_v (.inl rfl) rfl (by decide) (R_int (k := .i64) (a := x3376) (b := (((l3372.length - (Int.toNat x2371) : Nat) : Int))) (v := (.bool ((decide (x3376 < (((l3372.length - (Int.toNat x2371) : Nat) : Int))))))) rfl rfl rfl) ?_
              refine LW_nil ?_
              refine sq_n ?_
              refine CW_if (b := (decide (x3376 < (((l3372.length - (Int.toNat x2371) : Nat) : Int))))) rfl (fun hb3477 => ?_) (fun hb3477 => ?_)
              · replace hm3471 := if_t hb3477 hm3471
                refine CW_skip ?_
                refine sq_n ?_
                refine CW_seq ?_
                obtain ⟨s3523, hm3524, hm3525⟩ := bind_some hm3471
                refine CW_cut (fun E W => ∃ (l3513 : List Cred) (R3515 : List (Nat × Obj)) (x3516 : Int) (L3517 : List (Nat × Obj)), ST (keys (R_a0 ++ [])) w W μ0 (R3515 ++ L3517) ∧ E 0 = v_a0 ∧ E 3 = (.int .i64 x3516) ∧ E 4 = v2992 ∧ E 5 = (.int .i64 x3376) ∧ Row 83 encCred 9 v_a0 l3513 R3515 ∧ (m_slices_Compact_Cred_L2 x2371 n3472 l3513 x3516 ((IntKind.i64.wrap (x3376 + 1)))) = some s3285) ?_ ?_
                · refine CW_block ?_
                  refine CW_seq ?_
                  refine PW_start (Has μ0 (R3374 ++ [])) Tryz_mixed ?_
                  replace hST := hST.drew
                  have hSS : (Has μ0 (R3374 ++ []) _) := ((show ST (keys (R_a0 ++ [])) w _ _ (R3374 ++ L3470) from hST).has.sub (Sub.refl _) (fun p hq => ((List.mem_append.1 hq).elim (fun hq => (List.mem_append_left _ hq)) (fun hq => (absurd hq List.not_mem_nil)))))
                  refine PW_v 0 rfl (by kernel_rfl) (by kernel_rfl) (by kernel_rfl) (.inl rfl) rfl (by decide) hSS (fun W hS => R_move (v := v2992) e3475) ?_
                  refine PW_v 1 rfl (by kernel_rfl) (by kernel_rfl) (by kernel_rfl) (.inl rfl) rfl (by decide) hSS (fun W hS => R_move (v := (.int .i64 x3376)) e3476) ?_
                  obtain ⟨x3539, hx3540, hm3524⟩ := bind_some hm3524
                  refine PW_q 2 rfl (by kernel_rfl) (by kernel_rfl) (by kernel_rfl) (.inl rfl) rfl (by decide) hSS (R_indexTail (i := x3376) (x0 := x3539) Tryz.underlying22 Tryz.sizeOf83 rfl rfl hs3373 hs2993 (idx_nonneg hx3540) (idx_get hx3540)) (fun p3536 hp3537 => ?_)
                  refine PW_v 3 rfl (by kernel_rfl) (by kernel_rfl) (by kernel_rfl) (.inl rfl) rfl (by decide) hSS (fun W hS => R_load (v := (.agg (encCred x3539).toArray)) rfl (load_ixA hS (fun p hq => by simp [hq]) hs3373 lenCred hp3537 (tail_get (idx_get hx3540)) Tryz.isAgg83 Tryz.sizeOf83)) ?_
                  refine PW_v 4 rfl (by kernel_rfl) (by kernel_rfl) (by kernel_rfl) (.inl rfl) rfl (by decide) hSS (fun W hS => R_move (v := v2992) e3475) ?_
                  refine PW_v 5 rfl (by kernel_rfl) (by kernel_rfl) (by kernel_rfl) (.inl rfl) rfl (by decide) hSS (fun W hS => R_move (v := (.int .i64 x3376)) e3476) ?_
                  refine PW_v 6 rfl (by kernel_rfl) (by kernel_rfl) (by kernel_rfl) (.inl rfl) rfl (by decide) hSS (fun W hS => R_int (k := .i64) (a := x3376) (b := 1) (v := (.int .i64 ((IntKind.i64.wrap (x3376 - 1))))) rfl rfl rfl) ?_
                  obtain ⟨x3544, hx3545, hm3524⟩ := bind_some hm3524
                  refine PW_q 7 rfl (by kernel_rfl) (by kernel_rfl) (by kernel_rfl) (.inl rfl) rfl (by decide) hSS (R_indexTail (i := (IntKind.i64.wrap (x3376 - 1))) (x0 := x3544) Tryz.underlying22 Tryz.sizeOf83 rfl rfl hs3373 hs2993 (idx_nonneg hx3545) (idx_get hx3545)) (fun p3541 hp3542 => ?_)
                  refine PW_v 8 rfl (by kernel_rfl) (by kernel_rfl) (by kernel_rfl) (.inl rfl) rfl (by decide) hSS (fun W hS => R_load (v := (.agg (encCred x3544).toArray)) rfl (load_ixA hS (fun p hq => by simp [hq]) hs3373 lenCred hp3542 (tail_get (idx_get hx3545)) Tryz.isAgg83 Tryz.sizeOf83)) ?_
                  refine PW_v 9 rfl (by kernel_rfl) (by kernel_rfl) (by kernel_rfl) (.inl rfl) rfl (by decide) hSS (fun W hS => R_neq (a := (encCred x3539).toArray) (b := (encCred x3544).toArray) rfl rfl (guard_agg Tryz.eqGuardType83) (bin_neq (eqInCred _ x3539 x3544))) ?_
                  refine PW_done (by kernel_rfl) ?_
                  refine sq_n ?_
                  refine CW_if (b := (!(beqCred x3539 x3544))) rfl (fun hb3546 => ?_) (fun hb3546 => ?_)
                  · replace hm3524 := if_t hb3546 hm3524
                    refine CW_seq ?_
                    refine CW_region ?_
                    refine LW_v (.inl rfl) rfl (by decide) (R_move (v := v_a0) e3473) ?_
                    refine LW_v (.inl rfl) rfl (by decide) (R_move (v := (.int .i64 x3375)) e3474) ?_
                    refine LW_v (.inl rfl) rfl (by decide) (R_move (v := v2992) e3475) ?_
                    refine LW_v (.inl rfl) rfl (by decide) (R_move (v := (.int .i64 x3376)) e3476) ?_
                    obtain ⟨x3550, hx3551, hm3524⟩ := bind_some hm3524
                    refine LW_q (.inl rfl) rfl (by decide) (R_indexTail (i := x3376) (x0 := x3550) Tryz.underlying22 Tryz.sizeOf83 rfl rfl hs3373 hs2993 (idx_nonneg hx3551) (idx_get hx3551)) (fun p3547 hp3548 => ?_)
                    refine LW_v (.inl rfl) rfl (by decide) (R_load (v := (.agg (encCred x3550).toArray)) rfl (load_ixA hST.has (fun p hq => by simp [hq]) hs3373 lenCred hp3548 (tail_get (idx_get hx3551)) Tryz.isAgg83 Tryz.sizeOf83)) ?_
                    obtain ⟨x3555, hx3556, hm3524⟩ := bind_some hm3524
                    refine LW_q (.inl rfl) rfl (by decide) (R_indexRow (i := x3375) (x0 := x3555) Tryz.underlying22 Tryz.sizeOf83 rfl rfl hs3373 (idx_nonneg hx3556) (idx_get hx3556)) (fun p3552 hp3553 => ?_)
                    refine LW_e0 (.inl rfl) rfl (E_storeRow (u := (.agg (encCred x3550).toArray)) (x1 := x3550) [] hST hs3373 lenCred oneCred rfl rfl rfl hp3553 (idx_get hx3556) Tryz.sizeOf83 (fun W3557 R3558 hST hR3559 => ?_))
                    refine LW_nil ?_
                    refine sq_n ?_
                    refine CW_region ?_
                    refine LW_v (.inl rfl) rfl (by decide) (R_move (v := (.int .i64 x3375)) e3474) ?_
                    refine LW_v (.inl rfl) rfl (by decide) (R_int (k := .i64) (a := x3375) (b := 1) (v := (.int .i64 ((IntKind.i64.wrap (x3375 + 1))))) rfl rfl rfl) ?_
                    refine LW_v (.inl rfl) rfl (by decide) (R_assign (v := (.int .i64 ((IntKind.i64.wrap (x3375 + 1))))) rfl) ?_
                    refine LW_nil ?_
                    refine bq_n ?_
                    refine sq_n ?_
                    replace hm3524 := Option.some.inj hm3524; subst hm3524
                    exact ⟨((l3372.set (Int.toNat x3375) x3550)), R3558, ((IntKind.i64.wrap (x3375 + 1))), _, (hST.sublist (List.Sublist.refl _)), e3473, rfl, e3475, e3476, hR3559, hm3525⟩
                  · replace hm3524 := if_f hb3546 hm3524
                    refine CW_skip ?_
                    refine bq_n ?_
                    refine sq_n ?_
                    replace hm3524 := Option.some.inj hm3524; subst hm3524
                    exact ⟨l3372, R3374, x3375, _, (hST.sublist (List.Sublist.refl _)), e3473, e3474, e3475, e3476, hs3373, hm3525⟩
                · rintro E W ⟨l3513, R3515, x3516, L3517, hST, e3519, e3520, e3521, e3522, hs3514, hm3518⟩
                  refine CW_region ?_
                  refine LW_v (.inl rfl) rfl (by decide) (R_move (v := (.int .i64 x3376)) e3522) ?_
                  refine LW_v (.inl rfl) rfl (by decide) (R_int (k := .i64) (a := x3376) (b := 1) (v := (.int .i64 ((IntKind.i64.wrap (x3376 + 1))))) rfl rfl rfl) ?_
                  refine LW_v (.inl rfl) rfl (by decide) (R_assign (v := (.int .i64 ((IntKind.i64.wrap (x3376 + 1))))) rfl) ?_
                  refine LW_nil ?_
                  refine sq_n ?_
                  exact ⟨n3472, Nat.lt_succ_self _, l3513, R3515, x3516, ((IntKind.i64.wrap (x3376 + 1))), _, (hST.sublist (List.Sublist.refl _)), e3519, e3520, e3521, rfl, hs3514, hm3518⟩
              · replace hm3471 := if_f hb3477 hm3471
                refine CW_exit ?_
                refine sq_e (sq_e (bq_e ?_))
                refine sq_n ?_
                replace hm3471 := Option.some.inj hm3471; subst hm3471
                exact ⟨l3372, R3374, x3375, _, (hST.sublist (List.Sublist.refl _)), e3473, e3474, hs3373, hm3287⟩
          · rintro E W ⟨l3268, R3270, x3271, L3272, hST, e3274, e3275, hs3269, hm3273⟩
            refine CW_seq ?_
            refine CW_region ?_
            refine LW_v (.inl rfl) rfl (by decide) (R_move (v := v_a0) e3274) ?_
            refine LW_v (.inl rfl) rfl (by decide) (R_move (v := (.int .i64 x3271)) e3275) ?_
            obtain ⟨_, hg3278, hm3273⟩ := bind_some hm3273
            refine LW_q (.inl rfl) rfl (by decide) (R_sliceTail (i := x3271) Tryz.underlying22 Tryz.sizeOf83 rfl rfl hs3269 (chk_1 hg3278) (chk_2 hg3278)) (fun v3276 hs3277 => ?_)
            refine LW_e0 (.inl rfl) rfl (E_clearTail (z := (⟨0, (⟨zS, zS⟩ : Role), zS, (⟨zS, zS⟩ : Role), (⟨zS, zS⟩ : Role), zS⟩ : Cred)) [] hST hs3269 lenCred oneCred Tryz.underlying22 Tryz.zeroValue83 hs3277 rfl rfl (fun W3279 R3280 hST hR3281 => ?_))
            refine LW_nil ?_
            refine sq_n ?_
            refine CW_seq ?_
            refine CW_region ?_
            refine LW_v (.inl rfl) rfl (by decide) (R_move (v := v_a0) e3274) ?_
            refine LW_v (.inl rfl) rfl (by decide) (R_move (v := (.int .i64 x3271)) e3275) ?_
            obtain ⟨_, hg3284, hm3273⟩ := bind_some hm3273
            refine LW_q (.inl rfl) rfl (by decide) (R_sliceTo (i := x3271) Tryz.underlying22 Tryz.sizeOf83 rfl rfl hR3281 lenCred (chk_1 hg3284) (chk_2 hg3284)) (fun v3282 hs3283 => ?_)
            refine LW_v (.inl rfl) rfl (by decide) (R_assign (v := v3282) rfl) ?_
            refine LW_nil ?_
            refine sq_n ?_
            refine CW_ret ?_
            refine bq_r (sq_r (sq_r (bq_r (sq_r ?_))))
            replace hm3273 := Option.some.inj hm3273; subst hm3273
            refine retQ_1 (v := v3282) rfl rfl ?_
            replace hST : ST (keys (R_a0 ++ [])) w _ _ (R3280 ++ L3272) := hST
            exact ⟨_, (R3280 ++ []), rfl, (ST.backM (L1 := (R3280 ++ [])) (by have hh : ST (keys (R_a0 ++ [])) w _ _ (R3280 ++ L3272) := hST.perm (List.Perm.refl _); simpa only [List.append_assoc, List.cons_append, List.nil_append] using hh)), v3282, R3280, rfl, rfl, hs3283⟩
        · replace hm2966 := if_f hb2991 hm2966
          refine CW_skip ?_
          refine bq_n ?_
          refine sq_n ?_
          refine CW_region ?_
          refine LW_v (.inl rfl) rfl (by decide) (R_move (v := (.int .i64 x2371)) e2969) ?_
          refine LW_v (.inl rfl) rfl (by decide) (R_int (k := .i64) (a := x2371) (b := 1) (v := (.int .i64 ((IntKind.i64.wrap (x2371 + 1))))) rfl rfl rfl) ?_
          refine LW_v (.inl rfl) rfl (by decide) (R_assign (v := (.int .i64 ((IntKind.i64.wrap (x2371 + 1))))) rfl) ?_
          refine LW_nil ?_
          refine sq_n ?_
          exact ⟨n2967, Nat.lt_succ_self _, ((IntKind.i64.wrap (x2371 + 1))), _, (hST.sublist (List.Sublist.refl _)), e2968, rfl, hm2966⟩
      · replace hm2966 := if_f hb2970 hm2966
        refine CW_exit ?_
        refine sq_e (sq_e (bq_e ?_))
        refine sq_n ?_
        refine CW_seq ?_
        refine CW_region ?_
        refine LW_v (.inl rfl) rfl (by decide) (R_move (v := v_a0) e2968) ?_
        refine LW_v (.inl rfl) rfl (by decide) (R_assign (v := v_a0) rfl) ?_
        refine LW_nil ?_
        refine sq_n ?_
        refine CW_ret ?_
        replace hm2966 := Option.some.inj hm2966; subst hm2966
        refine retQ_1 (v := v_a0) rfl rfl ?_
        replace hST : ST (keys (R_a0 ++ [])) w _ _ (R_a0 ++ L2965) := hST
        exact ⟨_, (R_a0 ++ []), rfl, (ST.backM (L1 := (R_a0 ++ [])) (by have hh : ST (keys (R_a0 ++ [])) w _ _ (R_a0 ++ L2965) := hST.perm (List.Perm.refl _); simpa only [List.append_assoc, List.cons_append, List.nil_append] using hh)), v_a0, R_a0, rfl, rfl, h_a0⟩

theorem w_cred_Set (v_a0 : Value) (a0 : List Cred) (r : List Cred) (w : World) (h_a0 : Sl (Pl encCred) 9 (hp w) v_a0 a0) (hm : m_cred_Set a0 = some r) :
    GivesRow Tryz.prog 77 [v_a0] w 83 encCred 9 r := by
  have hST := ST.start w
  unfold m_cred_Set at hm
  refine calls_of_CW (n := 11) Tryz.func77 rfl rfl (Nat.le_of_ble_eq_true rfl) ?_
  refine CW_seq ?_
  refine CW_region ?_
  refine LW_v (.inl rfl) rfl (by decide) (R_assign (v := (.slice none 0 0)) rfl) ?_
  refine LW_nil ?_
  refine sq_n ?_
  refine CW_seq ?_
  refine CW_region ?_
  refine LW_v (.inl rfl) rfl (by decide) (R_move (v := v_a0) rfl) ?_
  obtain ⟨r1, hr2, hm⟩ := bind_some hm
  replace hST : ST NoF w _ _ [] := hST
  have hsz := hST.size
  refine LW_e (.inl rfl) rfl (by decide) (E_givesRow (args := [v_a0]) [] _ hST rfl Tryz.call81 (by exact args1 rfl) (w_slices_Clone_Cred v_a0 a0 _ _ (h_a0.mono (Pl.mono _) hST.sub_hp) hr2) (fun W3 v6 μ4 R7 hST hle5 hR8 => ?_))
  obtain ⟨r9, hr10, hm⟩ := bind_some hm
  replace hST : ST NoF w _ _ (R7 ++ []) := hST.perm (List.Perm.refl _)
  have hsz := hST.size
  refine LW_e (.inl rfl) rfl (by decide) (E_callM (args := [v6, (.func (.func 124) #[] #[])]) (caps := #[]) ((R7 ++ [])) ([]) hST (by simp only [List.append_assoc, List.cons_append, List.nil_append]; exact List.Perm.refl _) rfl Tryz.call80 (by exact args2 rfl rfl) (fun hH hN hsb hmm => w_slices_DeleteFunc_Cred v6 r1 R7 (.func (.func 124) #[] #[]) (fun (x : Cred) => m_cred_Set_c1 x) _ _ hH hN (Sub.refl _) hR8 ⟨124, #[], rfl, Tryz.call124, fun W x r hs hm => w_cred_Set_c1 x r W  hm⟩ hr10) (fun W11 v14 μ12 L16 hST hle13 hlift hK15 => ?_))
  obtain ⟨y17, S18, hv20, rfl, hy19⟩ := hK15
  replace hv20 := hv20.symm; subst hv20
  simp only [List.append_assoc, List.cons_append, List.nil_append] at hST
  refine LW_v (.inl rfl) rfl (by decide) (R_assign (v := y17) rfl) ?_
  refine LW_nil ?_
  refine sq_n ?_
  refine CW_seq ?_
  refine CW_region ?_
  refine LW_v (.inl rfl) rfl (by decide) (R_move (v := y17) rfl) ?_
  obtain ⟨r21, hr22, hm⟩ := bind_some hm
  replace hST : ST NoF w _ _ (S18 ++ []) := hST.perm (List.Perm.refl _)
  have hsz := hST.size
  refine LW_e (.inl rfl) rfl (by decide) (E_callM (args := [y17, (.func (.func 126) #[] #[])]) (caps := #[]) ((S18 ++ [])) ([]) hST (by simp only [List.append_assoc, List.cons_append, List.nil_append]; exact List.Perm.refl _) rfl Tryz.call125 (by exact args2 rfl rfl) (fun hH hN hsb hmm => w_sortF125 y17 r9 S18 (.func (.func 126) #[] #[]) (fun (x : (Cred × Cred)) => m_cred_Compare x.1 x.2) _ _ hH hN (Sub.refl _) hy19 ⟨126, #[], rfl, Tryz.call126, fun W x r hs hm => w_cred_Compare x.1 x.2 r W  hm⟩ hr22) (fun W23 v26 μ24 L28 hST hle25 hlift hK27 => ?_))
  obtain ⟨S29, hv31, rfl, hy30⟩ := hK27
  replace hv31 := hv31.symm; subst hv31
  simp only [List.append_assoc, List.cons_append, List.nil_append] at hST
  refine LW_nil ?_
  refine sq_n ?_
  refine CW_seq ?_
  refine CW_region ?_
  refine LW_v (.inl rfl) rfl (by decide) (R_move (v := y17) rfl) ?_
  obtain ⟨r32, hr33, hm⟩ := bind_some hm
  replace hST : ST NoF w _ _ (S29 ++ []) := hST.perm (List.Perm.refl _)
  have hsz := hST.size
  refine LW_e (.inl rfl) rfl (by decide) (E_callM (args := [y17]) (caps := #[]) ((S29 ++ [])) ([]) hST (by simp only [List.append_assoc, List.cons_append, List.nil_append]; exact List.Perm.refl _) rfl Tryz.call127 (by exact args1 rfl) (fun hH hN hsb hmm => w_slices_Compact_Cred y17 r21 S29 _ _ hH hN (Sub.refl _) hy30 hr33) (fun W34 v37 μ35 L39 hST hle36 hlift hK38 => ?_))
  obtain ⟨y40, S41, hv43, rfl, hy42⟩ := hK38
  replace hv43 := hv43.symm; subst hv43
  simp only [List.append_assoc, List.cons_append, List.nil_append] at hST
  refine LW_v (.inl rfl) rfl (by decide) (R_assign (v := y40) rfl) ?_
  refine LW_nil ?_
  refine sq_n ?_
  refine CW_ret ?_
  replace hm := Option.some.inj hm; subst hm
  refine retQ_1 (v := y40) rfl rfl ?_
  exact ⟨_, S41, rfl, hST.backRow (fun p hq => by simp [hq]) hy42.nd, hy42⟩

theorem w_slices_Clone_Role (v_a0 : Value) (a0 : List Role) (r : List Role) (w : World) (h_a0 : Sl (Pl encRole) 2 (hp w) v_a0 a0) (hm : m_slices_Clone_Role a0 = some r) :
    GivesRow Tryz.prog 129 [v_a0] w 47 encRole 2 r := by
  have hST := ST.start w
  unfold m_slices_Clone_Role at hm
  refine calls_of_CW (n := 8) Tryz.func129 rfl rfl (Nat.le_of_ble_eq_true rfl) ?_
  refine CW_seq ?_
  refine CW_region ?_
  refine LW_v (.inl rfl) rfl (by decide) (R_assign (v := (.slice none 0 0)) rfl) ?_
  refine LW_nil ?_
  refine sq_n ?_
  refine CW_seq ?_
  refine CW_seq ?_
  refine CW_region ?_
  refine LW_v (.inl rfl) rfl (by decide) (R_move (v := v_a0) rfl) ?_
  obtain ⟨A1, c2, rfl⟩ := h_a0.form
  refine LW_v (.inl rfl) rfl (by decide) (R_slEqNil Tryz.underlying23 rfl rfl) ?_
  refine LW_nil ?_
  refine sq_n ?_
  rcases A1 with _ | A5
  · have hn4 := h_a0.isNil
    replace hm : some [] = some r := by rw [hn4] at hm; simpa [appB, maxLen] using hm
    refine CW_if_true (rfl) ?_
    refine CW_seq ?_
    refine CW_region ?_
    refine LW_v (.inl rfl) rfl (by decide) (R_assign (v := (.slice none 0 0)) rfl) ?_
    refine LW_nil ?_
    refine sq_n ?_
    refine CW_ret ?_
    refine sq_r ?_
    replace hm := Option.some.inj hm; subst hm
    refine retQ_1 (v := (.slice none 0 0)) rfl rfl ?_
    exact ⟨_, [], rfl, hST.backRow (fun p hq => by cases hq) (by simp), Row.nil _ _ _⟩
  · refine CW_if_false (rfl) ?_
    refine CW_skip ?_
    refine sq_n ?_
    refine CW_seq ?_
    refine CW_region ?_
    refine LW_e (.inl rfl) rfl (by decide) (E_buildSlice (qs := #[]) (cs := #[]) hST parts0 (run_lit [] Tryz.underlying23 Tryz.sizeOf47 Tryz.zeroValue47 (by decide) rfl (by simp) rfl rfl) (fun W7 b6 hST => ?_))
    refine LW_v (.inl rfl) rfl (by decide) (R_move (v := (.slice (some A5) a0.length c2)) rfl) ?_
    obtain ⟨l8, hb9, hm⟩ := bind_some hm
    replace hST := hST.perm (List.Perm.append_left [] (List.perm_middle (l₁ := [])).symm)
    refine LW_e (.inl rfl) rfl (by decide) (E_append (enc := encRole) (v := (.slice (some ⟨b6, 0, none⟩) 0 0)) (vs := (.slice (some A5) a0.length c2)) (R := [(b6, Obj.cells (#[] : Array Value) 47 (0, 0))]) [] hST lenRole (by decide) oneRole Tryz.underlying23 info47.1 info47.2.1 rfl info47.2.2.1 info47.2.2.2 rfl rfl (Row.lit (l := []) (enc := encRole) rfl (by decide) rfl rfl) (h_a0.mono (Pl.mono _) hST.sub_hp) hb9 (fun W10 v13 R11 hST hR12 => ?_))
    refine LW_v (.inl rfl) rfl (by decide) (R_assign (v := v13) rfl) ?_
    refine LW_nil ?_
    refine sq_n ?_
    refine CW_ret ?_
    replace hm := Option.some.inj hm; subst hm
    refine retQ_1 (v := v13) rfl rfl ?_
    exact ⟨_, R11, rfl, hST.backRow (fun p hq => by simp [hq]) hR12.nd, hR12⟩

theorem w_slices_IndexFunc_Role (v_a0 : Value) (a0 : List Role) (v_a1 : Value) (f1 : Role → Option Bool) (r : Int) (w : World) (h_a0 : Sl (Pl encRole) 2 (hp w) v_a0 a0) (h_a1 : CbOk Tryz.prog v_a1 (hp w) (fun (x : Role) => [(.agg (encRole x).toArray)]) (fun (r : Bool) => (.bool r)) f1) (hm : m_slices_IndexFunc_Role a0 f1 = some r) :
    Gives Tryz.prog 167 [v_a0, v_a1] w (.int .i64 r) := by
  have hST := ST.start w
  unfold m_slices_IndexFunc_Role at hm
  refine calls_of_CW (n := 19) Tryz.func167 rfl rfl (Nat.le_of_ble_eq_true rfl) ?_
  refine CW_seq ?_
  refine CW_region ?_
  refine LW_v (.inl rfl) rfl (by decide) (R_assign (v := (.int .i64 0)) rfl) ?_
  refine LW_nil ?_
  refine sq_n ?_
  refine CW_seq ?_
  refine CW_seq ?_
  refine CW_region ?_
  refine LW_v (.inl rfl) rfl (by decide) (R_move (v := v_a0) rfl) ?_
  refine LW_v (.inl rfl) rfl (by decide) (R_len Tryz.underlying23 rfl h_a0) ?_
  refine LW_v (.inl rfl) rfl (by decide) (R_move (v := (.int .i64 0)) rfl) ?_
  refine LW_nil ?_
  refine sq_n ?_
  refine CW_range (fun i E W => ∃  (L58 : List (Nat × Obj)), (E 8 = .int .i64 (i : Nat) ∧ E 7 = .int .i64 (a0.length : Nat)) ∧ ST NoF w W (hp w) L58 ∧ E 0 = v_a0 ∧ E 1 = v_a1 ∧ m_slices_IndexFunc_Role_L1 f1 (a0.drop i) i = some r) a0.length h_a0.len ⟨_, ⟨rfl, rfl⟩, (hST.sublist (List.Sublist.refl _)), rfl, rfl, hm⟩ (by decide) (by decide) (by decide) (fun _ _ _ h => by obtain ⟨_, eIN, _⟩ := h; exact eIN) ?_ ?_
  · rintro i35 E W hi41 ⟨L58, ⟨eI, eN⟩, hST, e60, e61, hm59⟩
    obtain ⟨x36, xs37, hx39, hx38, hx40⟩ := drop_cons hi41
    rw [hx39] at hm59
    rw [m_slices_IndexFunc_Role_L1] at hm59
    refine CW_block ?_
    refine CW_seq ?_
    refine CW_region ?_
    refine LW_v (.inl rfl) rfl (by decide) (R_move (v := (.int .i64 ((i35 : Int)))) eI) ?_
    refine LW_v (.inl rfl) rfl (by decide) (R_assign (v := (.int .i64 ((i35 : Int)))) rfl) ?_
    refine LW_nil ?_
    refine sq_n ?_
    refine CW_seq ?_
    refine CW_region ?_
    refine LW_v (.inl rfl) rfl (by decide) (R_move (v := v_a1) e61) ?_
    refine LW_v (.inl rfl) rfl (by decide) (R_move (v := v_a0) e60) ?_
    refine LW_v (.inl rfl) rfl (by decide) (R_move (v := (.int .i64 ((i35 : Int)))) rfl) ?_
    refine LW_q (.inl rfl) rfl (by decide) (R_indexP (enc := encRole) (i := (i35 : Int)) (x0 := x36) Tryz.underlying23 Tryz.sizeOf47 rfl rfl h_a0 (Int.natCast_nonneg _) hx38) (fun p62 hp63 => ?_)
    refine LW_v (.inl rfl) rfl (by decide) (R_load rfl (load_atA hST.has hp63 Tryz.isAgg47 Tryz.sizeOf47)) ?_
    obtain ⟨r65, hr66, hm59⟩ := bind_some hm59
    refine LW_e (.inl rfl) rfl (by decide) (E_cb x36 hST h_a1 (Sub.refl _) rfl (args1 rfl) hr66 (fun W67 hST => ?_))
    refine LW_nil ?_
    refine sq_n ?_
    refine CW_if (b := r65) rfl (fun hb68 => ?_) (fun hb68 => ?_)
    · replace hm59 := if_t hb68 hm59
      refine CW_seq ?_
      refine CW_region ?_
      refine LW_v (.inl rfl) rfl (by decide) (R_move (v := (.int .i64 ((i35 : Int)))) rfl) ?_
      refine LW_v (.inl rfl) rfl (by decide) (R_assign (v := (.int .i64 ((i35 : Int)))) rfl) ?_
      refine LW_nil ?_
      refine sq_n ?_
      refine CW_ret ?_
      refine bq_r (sq_r (bq_r (sq_r ?_)))
      replace hm59 := Option.some.inj hm59; subst hm59
      refine retQ_1 (v := (.int .i64 ((i35 : Int)))) rfl rfl ?_
      exact ⟨rfl, hST.ex⟩
    · replace hm59 := if_f hb68 hm59
      refine CW_skip ?_
      refine bq_n ?_
      refine sq_n ?_
      exact ⟨eI, _, ⟨rfl, eN⟩, (hST.sublist (List.Sublist.refl _)), e60, e61, (by rw [hx40]; exact hm59)⟩
  · rintro E W ⟨L58, ⟨eI, eN⟩, hST, e60, e61, hm59⟩
    rw [List.drop_length] at hm59
    rw [m_slices_IndexFunc_Role_L1] at hm59
    refine sq_n ?_
    refine CW_seq ?_
    refine CW_region ?_
    refine LW_v (.inl rfl) rfl (by decide) (R_assign (v := (.int .i64 ((-1)))) rfl) ?_
    refine LW_nil ?_
    refine sq_n ?_
    refine CW_ret ?_
    replace hm59 := Option.some.inj hm59; subst hm59
    refine retQ_1 (v := (.int .i64 ((-1)))) rfl rfl ?_
    exact ⟨rfl, hST.ex⟩

theorem w_slices_DeleteFunc_Role (v_a0 : Value) (a0 : List Role) (R_a0 : List (Nat × Obj)) (v_a1 : Value) (f1 : Role → Option Bool) (r : List Role) (w : World) {μ0 : Mem} (hH : Held (R_a0 ++ []) w) (hN : (((R_a0 ++ []) : List (Nat × Obj)).map (·.1)).Nodup) (hS0 : Sub μ0 (hpx w (R_a0 ++ []))) (h_a0 : Row 47 encRole 2 v_a0 a0 R_a0) (h_a1 : CbOk Tryz.prog v_a1 μ0 (fun (x : Role) => [(.agg (encRole x).toArray)]) (fun (r : Bool) => (.bool r)) f1) (hm : m_slices_DeleteFunc_Role a0 f1 = some r) :
    GivesM Tryz.prog 128 [v_a0, v_a1] w (R_a0 ++ []) (fun v L1 W' => ∃ (y1 : Value) (S2 : List (Nat × Obj)), v = y1 ∧ L1 = (S2 ++ []) ∧ Row 47 encRole 2 y1 r S2) := by
  have hST := (ST.startM hH hN).weak hS0
  unfold m_slices_DeleteFunc_Role at hm
  refine calls_of_CW (n := 42) Tryz.func128 rfl rfl (Nat.le_of_ble_eq_true rfl) ?_
  refine CW_seq ?_
  refine CW_region ?_
  refine LW_v (.inl rfl) rfl (by decide) (R_assign (v := (.slice none 0 0)) rfl) ?_
  refine LW_nil ?_
  refine sq_n ?_
  refine CW_seq ?_
  refine CW_region ?_
  refine LW_v (.inl rfl) rfl (by decide) (R_move (v := v_a0) rfl) ?_
  refine LW_v (.inl rfl) rfl (by decide) (R_move (v := v_a1) rfl) ?_
  obtain ⟨r1, hr2, hm⟩ := bind_some hm
  replace hST : ST (keys (R_a0 ++ [])) w _ _ (R_a0 ++ []) := hST
  have hsz := hST.size
  refine LW_e (.inl rfl) rfl (by decide) (E_gives (args := [v_a0, v_a1]) hST rfl Tryz.call167 (by exact args2 rfl rfl) (w_slices_IndexFunc_Role v_a0 a0 v_a1 f1 _ _ (h_a0.sl lenRole (fun b o hq => hST.at_ (List.mem_append_left _ hq))) (h_a1.mono hST.sub_hp) hr2) (fun W3 hST => ?_))
  refine LW_v (.inl rfl) rfl (by decide) (R_assign (v := (.int .i64 r1)) rfl) ?_
  refine LW_nil ?_
  refine sq_n ?_
  refine CW_seq ?_
  refine CW_seq ?_
  refine CW_region ?_
  refine LW_v (.inl rfl) rfl (by decide) (R_move (v := (.int .i64 r1)) rfl) ?_
  refine LW_v (.inl rfl) rfl (by decide) (R_int (k := .i64) (a := r1) (b := ((-1))) (v := (.bool ((r1 == ((-1)))))) rfl rfl rfl) ?_
  refine LW_nil ?_
  refine sq_n ?_
  refine CW_if (b := (r1 == ((-1)))) rfl (fun hb4 => ?_) (fun hb4 => ?_)
  · replace hm := if_t hb4 hm
    refine CW_seq ?_
    refine CW_region ?_
    refine LW_v (.inl rfl) rfl (by decide) (R_move (v := v_a0) rfl) ?_
    refine LW_v (.inl rfl) rfl (by decide) (R_assign (v := v_a0) rfl) ?_
    refine LW_nil ?_
    refine sq_n ?_
    refine CW_ret ?_
    refine sq_r ?_
    replace hm := Option.some.inj hm; subst hm
    refine retQ_1 (v := v_a0) rfl rfl ?_
    replace hST : ST (keys (R_a0 ++ [])) w _ _ (R_a0 ++ []) := hST
    exact ⟨_, (R_a0 ++ []), rfl, (ST.backM (L1 := (R_a0 ++ [])) (by have hh : ST (keys (R_a0 ++ [])) w _ _ (R_a0 ++ []) := hST.perm (List.Perm.refl _); simpa only [List.append_assoc, List.cons_append, List.nil_append] using hh)), v_a0, R_a0, rfl, rfl, h_a0⟩
  · replace hm := if_f hb4 hm
    refine CW_skip ?_
    refine sq_n ?_
    refine CW_seq ?_
    refine CW_seq ?_
    refine CW_region ?_
    refine LW_v (.inl rfl) rfl (by decide) (R_move (v := (.int .i64 r1)) rfl) ?_
    refine LW_v (.inl rfl) rfl (by decide) (R_int (k := .i64) (a := r1) (b := 1) (v := (.int .i64 ((IntKind.i64.wrap (r1 + 1))))) rfl rfl rfl) ?_
    refine LW_v (.inl rfl) rfl (by decide) (R_assign (v := (.int .i64 ((IntKind.i64.wrap (r1 + 1))))) rfl) ?_
    refine LW_nil ?_
    refine sq_n ?_
    refine CW_block (CW_loop (fun m E W => ∃ (l249 : List Role) (R251 : List (Nat × Obj)) (x252 : Int) (x253 : Int) (L319 : List (Nat × Obj)), ST (keys (R_a0 ++ [])) w W μ0 (R251 ++ L319) ∧ E 0 = v_a0 ∧ E 1 = v_a1 ∧ E 5 = (.int .i64 x252) ∧ E 6 = (.int .i64 x253) ∧ Row 47 encRole 2 v_a0 l249 R251 ∧ m_slices_DeleteFunc_Role_L1 f1 m l249 x252 x253 = some r) FUEL ⟨a0, R_a0, r1, ((IntKind.i64.wrap (r1 + 1))), _, (hST.sublist (List.Sublist.refl _)), rfl, rfl, rfl, rfl, h_a0, hm⟩ ?_)
    rintro m E W ⟨l249, R251, x252, x253, L319, hST, e322, e323, e324, e325, hs250, hm320⟩
    cases m with
    | zero => rw [m_slices_DeleteFunc_Role_L1] at hm320; cases hm320
    | succ n321 =>
      rw [m_slices_DeleteFunc_Role_L1] at hm320
      refine CW_seq ?_
      refine CW_seq ?_
      refine CW_region ?_
      refine LW_v (.inl rfl) rfl (by decide) (R_move (v := (.int .i64 x253)) e325) ?_
      refine LW_v (.inl rfl) rfl (by decide) (R_move (v := v_a0) e322) ?_
      refine LW_v (.inl rfl) rfl (by decide) (R_lenRow Tryz.underlying23 rfl hs250) ?_
      refine LW_v (.inl rfl) rfl (by decide) (R_int (k := .i64) (a := x253) (b := ((l249.length : Int))) (v := (.bool ((decide (x253 < ((l249.length : Int))))))) rfl rfl rfl) ?_
      refine LW_nil ?_
      refine sq_n ?_
      refine CW_if (b := (decide (x253 < ((l249.length : Int))))) rfl (fun hb326 => ?_) (fun hb326 => ?_)
      · replace hm320 := if_t hb326 hm320
        refine CW_skip ?_
        refine sq_n ?_
        refine CW_seq ?_
        obtain ⟨s358, hm359, hm360⟩ := bind_some hm320
        refine CW_cut (fun E W => ∃ (l348 : List Role) (R350 : List (Nat × Obj)) (x351 : Int) (L352 : List (Nat × Obj)), ST (keys (R_a0 ++ [])) w W μ0 (R350 ++ L352) ∧ E 0 = v_a0 ∧ E 1 = v_a1 ∧ E 5 = (.int .i64 x351) ∧ E 6 = (.int .i64 x253) ∧ Row 47 encRole 2 v_a0 l348 R350 ∧ (m_slices_DeleteFunc_Role_L1 f1 n321 l348 x351 ((IntKind.i64.wrap (x253 + 1)))) = some r) ?_ ?_
        · refine CW_block ?_
          refine CW_seq ?_
          refine CW_region ?_
          refine LW_v (.inl rfl) rfl (by decide) (R_move (v := v_a0) e322) ?_
          refine LW_v (.inl rfl) rfl (by decide) (R_move (v := (.int .i64 x253)) e325) ?_
          obtain ⟨x364, hx365, hm359⟩ := bind_some hm359
          refine LW_q (.inl rfl) rfl (by decide) (R_indexRow (i := x253) (x0 := x364) Tryz.underlying23 Tryz.sizeOf47 rfl rfl hs250 (idx_nonneg hx365) (idx_get hx365)) (fun p361 hp362 => ?_)
          refine LW_v (.inl rfl) rfl (by decide) (R_load (v := (.agg (encRole x364).toArray)) rfl (load_ixA hST.has (fun p hq => by simp [hq]) hs250 lenRole hp362 (idx_get hx365) Tryz.isAgg47 Tryz.sizeOf47)) ?_
          refine LW_e (.inl rfl) rfl (by decide) (E_alloc hST Tryz.zeroValue47 (fun W367 b366 hST => ?_))
          refine LW_e0 (.inl rfl) rfl (E_store [] (.agg (encRole x364).toArray) ((encRole x364).toArray) hST rfl rfl Tryz.sizeOf47 (oneRole x364) (Nat.le_of_ble_eq_true rfl) rfl (fun W368 hST => ?_))
          refine LW_nil ?_
          refine sq_n ?_
          refine CW_seq ?_
          refine CW_region ?_
          refine LW_v (.inl rfl) rfl (by decide) (R_move (v := v_a1) e323) ?_
          refine LW_v (.inl rfl) rfl (by decide) (R_load (v := (.agg (encRole x364).toArray)) rfl (load_boxA hST.has (.head _) (encRole x364) rfl Tryz.isAgg47 Tryz.sizeOf47)) ?_
          obtain ⟨r369, hr370, hm359⟩ := bind_some hm359
          refine LW_e (.inl rfl) rfl (by decide) (E_cb x364 hST h_a1 (Sub.refl _) rfl (args1 rfl) hr370 (fun W371 hST => ?_))
          refine LW_v (.inl rfl) rfl (by decide) (R_not (b := r369) rfl) ?_
          refine LW_nil ?_
          refine sq_n ?_
          refine CW_if (b := (!r369)) rfl (fun hb372 => ?_) (fun hb372 => ?_)
          · replace hm359 := if_t hb372 hm359
            refine CW_seq ?_
            refine CW_region ?_
            refine LW_v (.inl rfl) rfl (by decide) (R_move (v := v_a0) e322) ?_
            refine LW_v (.inl rfl) rfl (by decide) (R_move (v := (.int .i64 x252)) e324) ?_
            refine LW_v (.inl rfl) rfl (by decide) (R_load (v := (.agg (encRole x364).toArray)) rfl (load_boxA hST.has (.head _) (encRole x364) rfl Tryz.isAgg47 Tryz.sizeOf47)) ?_
            obtain ⟨x376, hx377, hm359⟩ := bind_some hm359
            refine LW_q (.inl rfl) rfl (by decide) (R_indexRow (i := x252) (x0 := x376) Tryz.underlying23 Tryz.sizeOf47 rfl rfl hs250 (idx_nonneg hx377) (idx_get hx377)) (fun p373 hp374 => ?_)
            refine LW_e0 (.inl rfl) rfl (E_storeRow (u := (.agg (encRole x364).toArray)) (x1 := x364) [_] hST hs250 lenRole oneRole rfl rfl rfl hp374 (idx_get hx377) Tryz.sizeOf47 (fun W378 R379 hST hR380 => ?_))
            refine LW_nil ?_
            refine sq_n ?_
            replace hST : ST (keys (R_a0 ++ [])) w _ _ ((b366, Obj.cells ((encRole x364).toArray : Array Value) 47 (0, 0)) :: (R379 ++ L319)) := hST
            replace hST : ST (keys (R_a0 ++ [])) w _ _ (R379 ++ L319) := hST.sublist (List.Sublist.cons _ (List.Sublist.refl _))
            refine CW_region ?_
            refine LW_v (.inl rfl) rfl (by decide) (R_move (v := (.int .i64 x252)) e324) ?_
            refine LW_v (.inl rfl) rfl (by decide) (R_int (k := .i64) (a := x252) (b := 1) (v := (.int .i64 ((IntKind.i64.wrap (x252 + 1))))) rfl rfl rfl) ?_
            refine LW_v (.inl rfl) rfl (by decide) (R_assign (v := (.int .i64 ((IntKind.i64.wrap (x252 + 1))))) rfl) ?_
            refine LW_nil ?_
            refine bq_n ?_
            refine sq_n ?_
            replace hm359 := Option.some.inj hm359; subst hm359
            exact ⟨((l249.set (Int.toNat x252) x364)), R379, ((IntKind.i64.wrap (x252 + 1))), _, (hST.sublist (List.Sublist.refl _)), e322, e323, rfl, e325, hR380, hm360⟩
          · replace hm359 := if_f hb372 hm359
            refine CW_skip ?_
            refine bq_n ?_
            refine sq_n ?_
            replace hm359 := Option.some.inj hm359; subst hm359
            exact ⟨l249, R251, x252, _, (hST.sublist (List.Sublist.cons _ (List.Sublist.refl _))), e322, e323, e324, e325, hs250, hm360⟩
        · rintro E W ⟨l348, R350, x351, L352, hST, e354, e355, e356, e357, hs349, hm353⟩
          refine CW_region ?_
          refine LW_v (.inl rfl) rfl (by decide) (R_move (v := (.int .i64 x253)) e357) ?_
          refine LW_v (.inl rfl) rfl (by decide) (R_int (k := .i64) (a := x253) (b := 1) (v := (.int .i64 ((IntKind.i64.wrap (x253 + 1))))) rfl rfl rfl) ?_
          refine LW_v (.inl rfl) rfl (by decide) (R_assign (v := (.int .i64 ((IntKind.i64.wrap (x253 + 1))))) rfl) ?_
          refine LW_nil ?_
          refine sq_n ?_
          exact ⟨n321, Nat.lt_succ_self _, l348, R350, x351, ((IntKind.i64.wrap (x253 + 1))), _, (hST.sublist (List.Sublist.refl _)), e354, e355, e356, rfl, hs349, hm353⟩
      · replace hm320 := if_f hb326 hm320
        refine CW_exit ?_
        refine sq_e (sq_e (bq_e ?_))
        refine sq_n ?_
        refine CW_seq ?_
        refine CW_region ?_
        refine LW_v (.inl rfl) rfl (by decide) (R_move (v := v_a0) e322) ?_
        refine LW_v (.inl rfl) rfl (by decide) (R_move (v := (.int .i64 x252)) e324) ?_
        obtain ⟨_, hg383, hm320⟩ := bind_some hm320
        refine LW_q (.inl rfl) rfl (by decide) (R_sliceTail (i := x252) Tryz.underlying23 Tryz.sizeOf47 rfl rfl hs250 (chk_1 hg383) (chk_2 hg383)) (fun v381 hs382 => ?_)
        refine LW_e0 (.inl rfl) rfl (E_clearTail (z := (⟨zS, zS⟩ : Role)) [] hST hs250 lenRole oneRole Tryz.underlying23 Tryz.zeroValue47 hs382 rfl rfl (fun W384 R385 hST hR386 => ?_))
        refine LW_nil ?_
        refine sq_n ?_
        refine CW_seq ?_
        refine CW_region ?_
        refine LW_v (.inl rfl) rfl (by decide) (R_move (v := v_a0) e322) ?_
        refine LW_v (.inl rfl) rfl (by decide) (R_move (v := (.int .i64 x252)) e324) ?_
        obtain ⟨_, hg389, hm320⟩ := bind_some hm320
        refine LW_q (.inl rfl) rfl (by decide) (R_sliceTo (i := x252) Tryz.underlying23 Tryz.sizeOf47 rfl rfl hR386 lenRole (chk_1 hg389) (chk_2 hg389)) (fun v387 hs388 => ?_)
        refine LW_v (.inl rfl) rfl (by decide) (R_assign (v := v387) rfl) ?_
        refine LW_nil ?_
        refine sq_n ?_
        refine CW_ret ?_
        replace hm320 := Option.some.inj hm320; subst hm320
        refine retQ_1 (v := v387) rfl rfl ?_
        replace hST : ST (keys (R_a0 ++ [])) w _ _ (R385 ++ L319) := hST
        exact ⟨_, (R385 ++ []), rfl, (ST.backM (L1 := (R385 ++ [])) (by have hh : ST (keys (R_a0 ++ [])) w _ _ (R385 ++ L319) := hST.perm (List.Perm.refl _); simpa only [List.append_assoc, List.cons_append, List.nil_append] using hh)), v387, R385, rfl, rfl, hs388⟩

theorem w_role_Set_c1 (a0 : Role) (r : Bool) (w : World)  (hm : m_role_Set_c1 a0 = some r) :
    Gives Tryz.prog 130 [(.agg (encRole a0).toArray)] w (.bool r) := by
  have hST := ST.start w
  unfold m_role_Set_c1 at hm
  refine calls_of_CW (n := 6) Tryz.func130 rfl rfl (Nat.le_of_ble_eq_true rfl) ?_
  refine CW_seq ?_
  refine CW_region ?_
  refine LW_e (.inl rfl) rfl (by decide) (E_box (v := (.agg (encRole a0).toArray)) hST rfl (fun W2 b1 hST => ?_))
  refine LW_v (.inl rfl) rfl (by decide) (R_assign (v := (.bool false)) rfl) ?_
  refine LW_nil ?_
  refine sq_n ?_
  refine CW_seq ?_
  refine CW_region ?_
  refine LW_v (.inl rfl) rfl (by decide) (R_load (v := (.agg (encRole a0).toArray)) rfl (load_boxA hST.has (.head _) (encRole a0) rfl Tryz.isAgg47 Tryz.sizeOf47)) ?_
  obtain ⟨r3, hr4, hm⟩ := bind_some hm
  replace hST : ST NoF w _ _ ((b1, Obj.cells ((encRole a0).toArray : Array Value) 47 (0, 0)) :: []) := hST
  have hsz := hST.size
  refine LW_e (.inl rfl) rfl (by decide) (E_gives (args := [(.agg (encRole a0).toArray)]) hST rfl Tryz.call131 (by exact args1 rfl) (w_role_Right a0 _ _  hr4) (fun W5 hST => ?_))
  refine LW_v (.inl rfl) rfl (by decide) (R_not (b := r3) rfl) ?_
  refine LW_v (.inl rfl) rfl (by decide) (R_assign (v := (.bool ((!r3)))) rfl) ?_
  refine LW_nil ?_
  refine sq_n ?_
  replace hST : ST NoF w _ _ [] := hST.sublist (List.Sublist.cons _ (List.Sublist.refl _))
  refine CW_ret ?_
  replace hm := Option.some.inj hm; subst hm
  refine retQ_1 (v := (.bool ((!r3)))) rfl rfl ?_
  exact ⟨rfl, hST.ex⟩

theorem w_sortF132 (v_a0 : Value) (a0 : List Role) (R_a0 : List (Nat × Obj)) (v_a1 : Value) (f1 : ((Role × Role)) → Option Int) (r : List Role) (w : World) {μ0 : Mem} (hH : Held (R_a0 ++ []) w) (hN : (((R_a0 ++ []) : List (Nat × Obj)).map (·.1)).Nodup) (hS0 : Sub μ0 (hpx w (R_a0 ++ []))) (h_a0 : Row 47 encRole 2 v_a0 a0 R_a0) (h_a1 : CbOk Tryz.prog v_a1 μ0 (fun (x : (Role × Role)) => [(.agg (encRole x.1).toArray), (.agg (encRole x.2).toArray)]) (fun (r : Int) => (.int .i64 r)) f1) (hm : sortF f1 a0 = some r) :
    GivesM Tryz.prog 132 [v_a0, v_a1] w (R_a0 ++ []) (fun v L1 W' => ∃ (S : List (Nat × Obj)), v = (.tuple #[]) ∧ L1 = (S ++ []) ∧ Row 47 encRole 2 v_a0 r S) := sortF_gives (P := Tryz.prog) (ρ := ren132) lay132 2 Tryz.isAgg47 Tryz.sizeOf47 encRole lenRole oneRole hH hS0 h_a0 h_a1 hm

theorem w_slices_Compact_Role (v_a0 : Value) (a0 : List Role) (R_a0 : List (Nat × Obj)) (r : List Role) (w : World) {μ0 : Mem} (hH : Held (R_a0 ++ []) w) (hN : (((R_a0 ++ []) : List (Nat × Obj)).map (·.1)).Nodup) (hS0 : Sub μ0 (hpx w (R_a0 ++ []))) (h_a0 : Row 47 encRole 2 v_a0 a0 R_a0) (hm : m_slices_Compact_Role a0 = some r) :
    GivesM Tryz.prog 133 [v_a0] w (R_a0 ++ []) (fun v L1 W' => ∃ (y1 : Value) (S2 : List (Nat × Obj)), v = y1 ∧ L1 = (S2 ++ []) ∧ Row 47 encRole 2 y1 r S2) := by
  have hST := (ST.startM hH hN).weak hS0
  unfold m_slices_Compact_Role at hm
  refine calls_of_CW (n := 61) Tryz.func133 rfl rfl (Nat.le_of_ble_eq_true rfl) ?_
  refine CW_seq ?_
  refine CW_region ?_
  refine LW_v (.inl rfl) rfl (by decide) (R_assign (v := (.slice none 0 0)) rfl) ?_
  refine LW_nil ?_
  refine sq_n ?_
  refine CW_seq ?_
  refine CW_seq ?_
  refine CW_region ?_
  refine LW_v (.inl rfl) rfl (by decide) (R_move (v := v_a0) rfl) ?_
  refine LW_v (.inl rfl) rfl (by decide) (R_lenRow Tryz.underlying23 rfl h_a0) ?_
  refine LW_v (.inl rfl) rfl (by decide) (R_int (k := .i64) (a := ((a0.length : Int))) (b := 2) (v := (.bool ((decide (((a0.length : Int)) < 2))))) rfl rfl rfl) ?_
  refine LW_nil ?_
  refine sq_n ?_
  refine CW_if (b := (decide (((a0.length : Int)) < 2))) rfl (fun hb1 => ?_) (fun hb1 => ?_)
  · replace hm := if_t hb1 hm
    refine CW_seq ?_
    refine CW_region ?_
    refine LW_v (.inl rfl) rfl (by decide) (R_move (v := v_a0) rfl) ?_
    refine LW_v (.inl rfl) rfl (by decide) (R_assign (v := v_a0) rfl) ?_
    refine LW_nil ?_
    refine sq_n ?_
    refine CW_ret ?_
    refine sq_r ?_
    replace hm := Option.some.inj hm; subst hm
    refine retQ_1 (v := v_a0) rfl rfl ?_
    replace hST : ST (keys (R_a0 ++ [])) w _ _ (R_a0 ++ []) := hST
    exact ⟨_, (R_a0 ++ []), rfl, (ST.backM (L1 := (R_a0 ++ [])) (by have hh : ST (keys (R_a0 ++ [])) w _ _ (R_a0 ++ []) := hST.perm (List.Perm.refl _); simpa only [List.append_assoc, List.cons_append, List.nil_append] using hh)), v_a0, R_a0, rfl, rfl, h_a0⟩
  · replace hm := if_f hb1 hm
    refine CW_skip ?_
    refine sq_n ?_
    refine CW_seq ?_
    refine CW_seq ?_
    refine CW_region ?_
    refine LW_v (.inl rfl) rfl (by decide) (R_assign (v := (.int .i64 1)) rfl) ?_
    refine LW_nil ?_
    refine sq_n ?_
    refine CW_block (CW_loop (fun m E W => ∃ (x2371 : Int) (L2965 : List (Nat × Obj)), ST (keys (R_a0 ++ [])) w W μ0 (R_a0 ++ L2965) ∧ E 0 = v_a0 ∧ E 3 = (.int .i64 x2371) ∧ m_slices_Compact_Role_L1 a0 m x2371 = some r) FUEL ⟨1, _, (hST.sublist (List.Sublist.refl _)), rfl, rfl, hm⟩ ?_)
    rintro m E W ⟨x2371, L2965, hST, e2968, e2969, hm2966⟩
    cases m with
    | zero => rw [m_slices_Compact_Role_L1] at hm2966; cases hm2966
    | succ n2967 =>
      rw [m_slices_Compact_Role_L1] at hm2966
      refine CW_seq ?_
      refine CW_seq ?_
      refine CW_region ?_
      refine LW_v (.inl rfl) rfl (by decide) (R_move (v := (.int .i64 x2371)) e2969) ?_
      refine LW_v (.inl rfl) rfl (by decide) (R_move (v := v_a0) e2968) ?_
      refine LW_v (.inl rfl) rfl (by decide) (R_lenRow Tryz.underlying23 rfl h_a0) ?_
      refine LW_v (.inl rfl) rfl (by decide) (R_int (k := .i64) (a := x2371) (b := ((a0.length : Int))) (v := (.bool ((decide (x2371 < ((a0.length : Int))))))) rfl rfl rfl) ?_
      refine LW_nil ?_
      refine sq_n ?_
      refine CW_if (b := (decide (x2371 < ((a0.length : Int))))) rfl (fun hb2970 => ?_) (fun hb2970 => ?_)
      · replace hm2966 := if_t hb2970 hm2966
        refine CW_skip ?_
        refine sq_n ?_
        refine CW_seq ?_
        refine CW_block ?_
        refine CW_seq ?_
        refine PW_start (Has μ0 (R_a0 ++ [])) Tryz_mixed ?_
        replace hST := hST.drew
        have hSS : (Has μ0 (R_a0 ++ []) _) := ((show ST (keys (R_a0 ++ [])) w _ _ (R_a0 ++ L2965) from hST).has.sub (Sub.refl _) (fun p hq => ((List.mem_append.1 hq).elim (fun hq => (List.mem_append_left _ hq)) (fun hq => (absurd hq List.not_mem_nil)))))
        refine PW_v 0 rfl (by kernel_rfl) (by kernel_rfl) (by kernel_rfl) (.inl rfl) rfl (by decide) hSS (fun W hS => R_move (v := v_a0) e2968) ?_
        refine PW_v 1 rfl (by kernel_rfl) (by kernel_rfl) (by kernel_rfl) (.inl rfl) rfl (by decide) hSS (fun W hS => R_move (v := (.int .i64 x2371)) e2969) ?_
        obtain ⟨x2984, hx2985, hm2966⟩ := bind_some hm2966
        refine PW_q 2 rfl (by kernel_rfl) (by kernel_rfl) (by kernel_rfl) (.inl rfl) rfl (by decide) hSS (R_indexRow (i := x2371) (x0 := x2984) Tryz.underlying23 Tryz.sizeOf47 rfl rfl h_a0 (idx_nonneg hx2985) (idx_get hx2985)) (fun p2981 hp2982 => ?_)
        refine PW_v 3 rfl (by kernel_rfl) (by kernel_rfl) (by kernel_rfl) (.inl rfl) rfl (by decide) hSS (fun W hS => R_load (v := (.agg (encRole x2984).toArray)) rfl (load_ixA hS (fun p hq => by simp [hq]) h_a0 lenRole hp2982 (idx_get hx2985) Tryz.isAgg47 Tryz.sizeOf47)) ?_
        refine PW_v 4 rfl (by kernel_rfl) (by kernel_rfl) (by kernel_rfl) (.inl rfl) rfl (by decide) hSS (fun W hS => R_move (v := v_a0) e2968) ?_
        refine PW_v 5 rfl (by kernel_rfl) (by kernel_rfl) (by kernel_rfl) (.inl rfl) rfl (by decide) hSS (fun W hS => R_move (v := (.int .i64 x2371)) e2969) ?_
        refine PW_v 6 rfl (by kernel_rfl) (by kernel_rfl) (by kernel_rfl) (.inl rfl) rfl (by decide) hSS (fun W hS => R_int (k := .i64) (a := x2371) (b := 1) (v := (.int .i64 ((IntKind.i64.wrap (x2371 - 1))))) rfl rfl rfl) ?_
        obtain ⟨x2989, hx2990, hm2966⟩ := bind_some hm2966
        refine PW_q 7 rfl (by kernel_rfl) (by kernel_rfl) (by kernel_rfl) (.inl rfl) rfl (by decide) hSS (R_indexRow (i := (IntKind.i64.wrap (x2371 - 1))) (x0 := x2989) Tryz.underlying23 Tryz.sizeOf47 rfl rfl h_a0 (idx_nonneg hx2990) (idx_get hx2990)) (fun p2986 hp2987 => ?_)
        refine PW_v 8 rfl (by kernel_rfl) (by kernel_rfl) (by kernel_rfl) (.inl rfl) rfl (by decide) hSS (fun W hS => R_load (v := (.agg (encRole x2989).toArray)) rfl (load_ixA hS (fun p hq => by simp [hq]) h_a0 lenRole hp2987 (idx_get hx2990) Tryz.isAgg47 Tryz.sizeOf47)) ?_
        refine PW_v 9 rfl (by kernel_rfl) (by kernel_rfl) (by kernel_rfl) (.inl rfl) rfl (by decide) hSS (fun W hS => R_eql (a := (encRole x2984).toArray) (b := (encRole x2989).toArray) rfl rfl (guard_agg Tryz.eqGuardType47) (bin_eql (eqInRole _ x2984 x2989))) ?_
        refine PW_done (by kernel_rfl) ?_
        refine sq_n ?_
        refine CW_if (b := (beqRole x2984 x2989)) rfl (fun hb2991 => ?_) (fun hb2991 => ?_)
        · replace hm2966 := if_t hb2991 hm2966
          refine CW_seq ?_
          refine CW_region ?_
          refine LW_v (.inl rfl) rfl (by decide) (R_move (v := v_a0) e2968) ?_
          refine LW_v (.inl rfl) rfl (by decide) (R_move (v := (.int .i64 x2371)) e2969) ?_
          obtain ⟨_, hg2994, hm2966⟩ := bind_some hm2966
          refine LW_q (.inl rfl) rfl (by decide) (R_sliceTail (i := x2371) Tryz.underlying23 Tryz.sizeOf47 rfl rfl h_a0 (chk_1 hg2994) (chk_2 hg2994)) (fun v2992 hs2993 => ?_)
          refine LW_v (.inl rfl) rfl (by decide) (R_assign (v := v2992) rfl) ?_
          refine LW_nil ?_
          refine sq_n ?_
          refine CW_seq ?_
          refine CW_seq ?_
          refine CW_region ?_
          refine LW_v (.inl rfl) rfl (by decide) (R_assign (v := (.int .i64 1)) rfl) ?_
          refine LW_nil ?_
          refine sq_n ?_
          obtain ⟨s3285, hm3286, hm3287⟩ := bind_some hm2966
          refine CW_cut (fun E W => ∃ (l3268 : List Role) (R3270 : List (Nat × Obj)) (x3271 : Int) (L3272 : List (Nat × Obj)), ST (keys (R_a0 ++ [])) w W μ0 (R3270 ++ L3272) ∧ E 0 = v_a0 ∧ E 3 = (.int .i64 x3271) ∧ Row 47 encRole 2 v_a0 l3268 R3270 ∧ (((chk (decide (0 ≤ x3271) && decide (x3271 ≤ (l3268.length : Int))))).bind fun _ => (((chk (decide (0 ≤ x3271) && decide (x3271 ≤ (((clearT l3268 (Int.toNat x3271) (⟨zS, zS⟩ : Role))).length : Int))))).bind fun _ => some (((clearT l3268 (Int.toNat x3271) (⟨zS, zS⟩ : Role))).take (Int.toNat x3271)))) = some r) ?_ ?_
          · refine CW_block (CW_loop (fun m E W => ∃ (l3372 : List Role) (R3374 : List (Nat × Obj)) (x3375 : Int) (x3376 : Int) (L3470 : List (Nat × Obj)), ST (keys (R_a0 ++ [])) w W μ0 (R3374 ++ L3470) ∧ E 0 = v_a0 ∧ E 3 = (.int .i64 x3375) ∧ E 4 = v2992 ∧ E 5 = (.int .i64 x3376) ∧ Row 47 encRole 2 v_a0 l3372 R3374 ∧ m_slices_Compact_Role_L2 x2371 m l3372 x3375 x3376 = some s3285) FUEL ⟨a0, R_a0, x2371, 1, _, (hST.sublist (List.Sublist.refl _)), e2968, e2969, rfl, rfl, h_a0, hm3286⟩ ?_)
            rintro m E W ⟨l3372, R3374, x3375, x3376, L3470, hST, e3473, e3474, e3475, e3476, hs3373, hm3471⟩
            cases m with
            | zero => rw [m_slices_Compact_Role_L2] at hm3471; cases hm3471
            | succ n3472 =>
              rw [m_slices_Compact_Role_L2] at hm3471
              refine CW_seq ?_
              refine CW_seq ?_
              refine CW_region ?_
              refine LW_v (.inl rfl) rfl (by decide) (R_move (v := (.int .i64 x3376)) e3476) ?_
              refine LW_v (.inl rfl) rfl (by decide) (R_move (v := v2992) e3475) ?_
              refine LW_v (.inl rfl) rfl (by decide) (R_lenTail Tryz.underlying23 rfl hs2993 hs3373) ?_
              refine LW_v (.inl rfl) rfl (by decide) (R_int (k := .i64) (a := x3376) (b := (((l3372.length - (Int.toNat x2371) : Nat) : Int))) (v := (.bool ((decide (x3376 < (((l3372.length - (Int.toNat x2371) : Nat) : Int))))))) rfl rfl rfl) ?_
              refine LW_nil ?_
              refine sq_n ?_
              refine CW_if (b := (decide (x3376 < (((l3372.length - (Int.toNat x2371) : Nat) : Int))))) rfl (fun hb3477 => ?_) (fun hb3477 => ?_)
              · replace hm3471 := if_t hb3477 hm3471
                refine CW_skip ?_
                refine sq_n ?_
                refine CW_seq ?_
                obtain ⟨s3523, hm3524, hm3525⟩ := bind_some hm3471
                refine CW_cut (fun E W => ∃ (l3513 : List Role) (R3515 : List (Nat × Obj)) (x3516 : Int) (L3517 : List (Nat × Obj)), ST (keys (R_a0 ++ [])) w W μ0 (R3515 ++ L3517) ∧ E 0 = v_a0 ∧ E 3 = (.int .i64 x3516) ∧ E 4 = v2992 ∧ E 5 = (.int .i64 x3376) ∧ Row 47 encRole 2 v_a0 l3513 R3515 ∧ (m_slices_Compact_Role_L2 x2371 n3472 l3513 x3516 ((IntKind.i64.wrap (x3376 + 1)))) = some s3285) ?_ ?_
                · refine CW_block ?_
                  refine CW_seq ?_
                  refine PW_start (Has μ0 (R3374 ++ [])) Tryz_mixed ?_
                  replace hST := hST.drew
                  have hSS : (Has μ0 (R3374 ++ []) _) := ((show ST (keys (R_a0 ++ [])) w _ _ (R3374 ++ L3470) from hST).has.sub (Sub.refl _) (fun p hq => ((List.mem_append.1 hq).elim (fun hq => (List.mem_append_left _ hq)) (fun hq => (absurd hq List.not_mem_nil)))))
                  refine PW_v 0 rfl (by kernel_rfl) (by kernel_rfl) (by kernel_rfl) (.inl rfl) rfl (by decide) hSS (fun W hS => R_move (v := v2992) e3475) ?_
                  refine PW_v 1 rfl (by kernel_rfl) (by kernel_rfl) (by kernel_rfl) (.inl rfl) rfl (by decide) hSS (fun W hS => R_move (v := (.int .i64 x3376)) e3476) ?_
                  obtain ⟨x3539, hx3540, hm3524⟩ := bind_some hm3524
                  refine PW_q 2 rfl (by kernel_rfl) (by kernel_rfl) (by kernel_rfl) (.inl rfl) rfl (by decide) hSS (R_indexTail (i := x3376) (x0 := x3539) Tryz.underlying23 Tryz.sizeOf47 rfl rfl hs3373 hs2993 (idx_nonneg hx3540) (idx_get hx3540)) (fun p3536 hp3537 => ?_)
                  refine PW_v 3 rfl (by kernel_rfl) (by kernel_rfl) (by kernel_rfl) (.inl rfl) rfl (by decide) hSS (fun W hS => R_load (v := (.agg (encRole x3539).toArray)) rfl (load_ixA hS (fun p hq => by simp [hq]) hs3373 lenRole hp3537 (tail_get (idx_get hx3540)) Tryz.isAgg47 Tryz.sizeOf47)) ?_
                  refine PW_v 4 rfl (by kernel_rfl) (by kernel_rfl) (by kernel_rfl) (.inl rfl) rfl (by decide) hSS (fun W hS => R_move (v := v2992) e3475) ?_
                  refine PW_v 5 rfl (by kernel_rfl) (by kernel_rfl) (by kernel_rfl) (.inl rfl) rfl (by decide) hSS (fun W hS => R_move (v := (.int .i64 x3376)) e3476) ?_
                  refine PW_v 6 rfl (by kernel_rfl) (by kernel_rfl) (by kernel_rfl) (.inl rfl) rfl (by decide) hSS (fun W hS => R_int (k := .i64) (a := x3376) (b := 1) (v := (.int .i64 ((IntKind.i64.wrap (x3376 - 1))))) rfl rfl rfl) ?_
                  obtain ⟨x3544, hx3545, hm3524⟩ := bind_some hm3524
                  refine PW_q 7 rfl (by kernel_rfl) (by kernel_rfl) (by kernel_rfl) (.inl rfl) rfl (by decide) hSS (R_indexTail (i := (IntKind.i64.wrap (x3376 - 1))) (x0 := x3544) Tryz.underlying23 Tryz.sizeOf47 rfl rfl hs3373 hs2993 (idx_nonneg hx3545) (idx_get hx3545)) (fun p3541 hp3542 => ?_)
                  refine PW_v 8 rfl (by kernel_rfl) (by kernel_rfl) (by kernel_rfl) (.inl rfl) rfl (by decide) hSS (fun W hS => R_load (v := (.agg (encRole x3544).toArray)) rfl (load_ixA hS (fun p hq => by simp [hq]) hs3373 lenRole hp3542 (tail_get (idx_get hx3545)) Tryz.isAgg47 Tryz.sizeOf47)) ?_
                  refine PW_v 9 rfl (by kernel_rfl) (by kernel_rfl) (by kernel_rfl) (.inl rfl) rfl (by decide) hSS (fun W hS => R_neq (a := (encRole x3539).toArray) (b := (encRole x3544).toArray) rfl rfl (guard_agg Tryz.eqGuardType47) (bin_neq (eqInRole _ x3539 x3544))) ?_
                  refine PW_done (by kernel_rfl) ?_
                  refine sq_n ?_
                  refine CW_if (b := (!(beqRole x3539 x3544))) rfl (fun hb3546 => ?_) (fun hb3546 => ?_)
                  · replace hm3524 := if_t hb3546 hm3524
                    refine CW_seq ?_
                    refine CW_region ?_
                    refine LW_v (.inl rfl) rfl (by decide) (R_move (v := v_a0) e3473) ?_
                    refine LW_v (.inl rfl) rfl (by decide) (R_move (v := (.int .i64 x3375)) e3474) ?_
                    refine LW_v (.inl rfl) rfl (by decide) (R_move (v := v2992) e3475) ?_
                    refine LW_v (.inl rfl) rfl (by decide) (R_move (v := (.int .i64 x3376)) e3476) ?_
                    obtain ⟨x3550, hx3551, hm3524⟩ := bind_some hm3524
                    refine LW_q (.inl rfl) rfl (by decide) (R_indexTail (i := x3376) (x0 := x3550) Tryz.underlying23 Tryz.sizeOf47 rfl rfl hs3373 hs2993 (idx_nonneg hx3551) (idx_get hx3551)) (fun p3547 hp3548 => ?_)
                    refine LW_v (.inl rfl) rfl (by decide) (R_load (v := (.agg (encRole x3550).toArray)) rfl (load_ixA hST.has (fun p hq => by simp [hq]) hs3373 lenRole hp3548 (tail_get (idx_get hx3551)) Tryz.isAgg47 Tryz.sizeOf47)) ?_
                    obtain ⟨x3555, hx3556, hm3524⟩ := bind_some hm3524
                    refine LW_q (.inl rfl) rfl (by decide) (R_indexRow (i := x3375) (x0 := x3555) Tryz.underlying23 Tryz.sizeOf47 rfl rfl hs3373 (idx_nonneg hx3556) (idx_get hx3556)) (fun p3552 hp3553 => ?_)
                    refine LW_e0 (.inl rfl) rfl (E_storeRow (u := (.agg (encRole x3550).toArray)) (x1 := x3550) [] hST hs3373 lenRole oneRole rfl rfl rfl hp3553 (idx_get hx3556) Tryz.sizeOf47 (fun W3557 R3558 hST hR3559 => ?_))
                    refine LW_nil ?_
                    refine sq_n ?_
                    refine CW_region ?_
                    refine LW_v (.inl rfl) rfl (by decide) (R_move (v := (.int .i64 x3375)) e3474) ?_
                    refine LW_v (.inl rfl) rfl (by decide) (R_int (k := .i64) (a := x3375) (b := 1) (v := (.int .i64 ((IntKind.i64.wrap (x3375 + 1))))) rfl rfl rfl) ?_
                    refine LW_v (.inl rfl) rfl (by decide) (R_assign (v := (.int .i64 ((IntKind.i64.wrap (x3375 + 1))))) rfl) ?_
                    refine LW_nil ?_
                    refine bq_n ?_
                    refine sq_n ?_
                    replace hm3524 := Option.some.inj hm3524; subst hm3524
                    exact ⟨((l3372.set (Int.toNat x3375) x3550)), R3558, ((IntKind.i64.wrap (x3375 + 1))), _, (hST.sublist (List.Sublist.refl _)), e3473, rfl, e3475, e3476, hR3559, hm3525⟩
                  · replace hm3524 := if_f hb3546 hm3524
                    refine CW_skip ?_
                    refine bq_n ?_
                    refine sq_n ?_
                    replace hm3524 := Option.some.inj hm3524; subst hm3524
                    exact ⟨l3372, R3374, x3375, _, (hST.sublist (List.Sublist.refl _)), e3473, e3474, e3475, e3476, hs3373, hm3525⟩
                · rintro E W ⟨l3513, R3515, x3516, L3517, hST, e3519, e3520, e3521, e3522, hs3514, hm3518⟩
                  refine CW_region ?_
                  refine LW_v (.inl rfl) rfl (by decide) (R_move (v := (.int .i64 x3376)) e3522) ?_
                  refine LW_v (.inl rfl) rfl (by decide) (R_int (k := .i64) (a := x3376) (b := 1) (v := (.int .i64 ((IntKind.i64.wrap (x3376 + 1))))) rfl rfl rfl) ?_
                  refine LW_v (.inl rfl) rfl (by decide) (R_assign (v := (.int .i64 ((IntKind.i64.wrap (x3376 + 1))))) rfl) ?_
                  refine LW_nil ?_
                  refine sq_n ?_
                  exact ⟨n3472, Nat.lt_succ_self _, l3513, R3515, x3516, ((IntKind.i64.wrap (x3376 + 1))), _, (hST.sublist (List.Sublist.refl _)), e3519, e3520, e3521, rfl, hs3514, hm3518⟩
              · replace hm3471 := if_f hb3477 hm3471
                refine CW_exit ?_
                refine sq_e (sq_e (bq_e ?_))
                refine sq_n ?_
                replace hm3471 := Option.some.inj hm3471; subst hm3471
                exact ⟨l3372, R3374, x3375, _, (hST.sublist (List.Sublist.refl _)), e3473, e3474, hs3373, hm3287⟩
          · rintro E W ⟨l3268, R3270, x3271, L3272, hST, e3274, e3275, hs3269, hm3273⟩
            refine CW_seq ?_
            refine CW_region ?_
            refine LW_v (.inl rfl) rfl (by decide) (R_move (v := v_a0) e3274) ?_
            refine LW_v (.inl rfl) rfl (by decide) (R_move (v := (.int .i64 x3271)) e3275) ?_
            obtain ⟨_, hg3278, hm3273⟩ := bind_some hm3273
            refine LW_q (.inl rfl) rfl (by decide) (R_sliceTail (i := x3271) Tryz.underlying23 Tryz.sizeOf47 rfl rfl hs3269 (chk_1 hg3278) (chk_2 hg3278)) (fun v3276 hs3277 => ?_)
            refine LW_e0 (.inl rfl) rfl (E_clearTail (z := (⟨zS, zS⟩ : Role)) [] hST hs3269 lenRole oneRole Tryz.underlying23 Tryz.zeroValue47 hs3277 rfl rfl (fun W3279 R3280 hST hR3281 => ?_))
            refine LW_nil ?_
            refine sq_n ?_
            refine CW_seq ?_
            refine CW_region ?_
            refine LW_v (.inl rfl) rfl (by decide) (R_move (v := v_a0) e3274) ?_
            refine LW_v (.inl rfl) rfl (by decide) (R_move (v := (.int .i64 x3271)) e3275) ?_
            obtain ⟨_, hg3284, hm3273⟩ := bind_some hm3273
            refine LW_q (.inl rfl) rfl (by decide) (R_sliceTo (i := x3271) Tryz.underlying23 Tryz.sizeOf47 rfl rfl hR3281 lenRole (chk_1 hg3284) (chk_2 hg3284)) (fun v3282 hs3283 => ?_)
            refine LW_v (.inl rfl) rfl (by decide) (R_assign (v := v3282) rfl) ?_
            refine LW_nil ?_
            refine sq_n ?_
            refine CW_ret ?_
            refine bq_r (sq_r (sq_r (bq_r (sq_r ?_))))
            replace hm3273 := Option.some.inj hm3273; subst hm3273
            refine retQ_1 (v := v3282) rfl rfl ?_
            replace hST : ST (keys (R_a0 ++ [])) w _ _ (R3280 ++ L3272) := hST
            exact ⟨_, (R3280 ++ []), rfl, (ST.backM (L1 := (R3280 ++ [])) (by have hh : ST (keys (R_a0 ++ [])) w _ _ (R3280 ++ L3272) := hST.perm (List.Perm.refl _); simpa only [List.append_assoc, List.cons_append, List.nil_append] using hh)), v3282, R3280, rfl, rfl, hs3283⟩
        · replace hm2966 := if_f hb2991 hm2966
          refine CW_skip ?_
          refine bq_n ?_
          refine sq_n ?_
          refine CW_region ?_
          refine LW_v (.inl rfl) rfl (by decide) (R_move (v := (.int .i64 x2371)) e2969) ?_
          refine LW_v (.inl rfl) rfl (by decide) (R_int (k := .i64) (a := x2371) (b := 1) (v := (.int .i64 ((IntKind.i64.wrap (x2371 + 1))))) rfl rfl rfl) ?_
          refine LW_v (.inl rfl) rfl (by decide) (R_assign (v := (.int .i64 ((IntKind.i64.wrap (x2371 + 1))))) rfl) ?_
          refine LW_nil ?_
          refine sq_n ?_
          exact ⟨n2967, Nat.lt_succ_self _, ((IntKind.i64.wrap (x2371 + 1))), _, (hST.sublist (List.Sublist.refl _)), e2968, rfl, hm2966⟩
      · replace hm2966 := if_f hb2970 hm2966
        refine CW_exit ?_
        refine sq_e (sq_e (bq_e ?_))
        refine sq_n ?_
        refine CW_seq ?_
        refine CW_region ?_
        refine LW_v (.inl rfl) rfl (by decide) (R_move (v := v_a0) e2968) ?_
        refine LW_v (.inl rfl) rfl (by decide) (R_assign (v := v_a0) rfl) ?_
        refine LW_nil ?_
        refine sq_n ?_
        refine CW_ret ?_
        replace hm2966 := Option.some.inj hm2966; subst hm2966
        refine retQ_1 (v := v_a0) rfl rfl ?_
        replace hST : ST (keys (R_a0 ++ [])) w _ _ (R_a0 ++ L2965) := hST
        exact ⟨_, (R_a0 ++ []), rfl, (ST.backM (L1 := (R_a0 ++ [])) (by have hh : ST (keys (R_a0 ++ [])) w _ _ (R_a0 ++ L2965) := hST.perm (List.Perm.refl _); simpa only [List.append_assoc, List.cons_append, List.nil_append] using hh)), v_a0, R_a0, rfl, rfl, h_a0⟩

theorem w_role_Set (v_a0 : Value) (a0 : List Role) (r : List Role) (w : World) (h_a0 : Sl (Pl encRole) 2 (hp w) v_a0 a0) (hm : m_role_Set a0 = some r) :
    GivesRow Tryz.prog 78 [v_a0] w 47 encRole 2 r := by
  have hST := ST.start w
  unfold m_role_Set at hm
  refine calls_of_CW (n := 11) Tryz.func78 rfl rfl (Nat.le_of_ble_eq_true rfl) ?_
  refine CW_seq ?_
  refine CW_region ?_
  refine LW_v (.inl rfl) rfl (by decide) (R_assign (v := (.slice none 0 0)) rfl) ?_
  refine LW_nil ?_
  refine sq_n ?_
  refine CW_seq ?_
  refine CW_region ?_
  refine LW_v (.inl rfl) rfl (by decide) (R_move (v := v_a0) rfl) ?_
  obtain ⟨r1, hr2, hm⟩ := bind_some hm
  replace hST : ST NoF w _ _ [] := hST
  have hsz := hST.size
  refine LW_e (.inl rfl) rfl (by decide) (E_givesRow (args := [v_a0]) [] _ hST rfl Tryz.call129 (by exact args1 rfl) (w_slices_Clone_Role v_a0 a0 _ _ (h_a0.mono (Pl.mono _) hST.sub_hp) hr2) (fun W3 v6 μ4 R7 hST hle5 hR8 => ?_))
  obtain ⟨r9, hr10, hm⟩ := bind_some hm
  replace hST : ST NoF w _ _ (R7 ++ []) := hST.perm (List.Perm.refl _)
  have hsz := hST.size
  refine LW_e (.inl rfl) rfl (by decide) (E_callM (args := [v6, (.func (.func 130) #[] #[])]) (caps := #[]) ((R7 ++ [])) ([]) hST (by simp only [List.append_assoc, List.cons_append, List.nil_append]; exact List.Perm.refl _) rfl Tryz.call128 (by exact args2 rfl rfl) (fun hH hN hsb hmm => w_slices_DeleteFunc_Role v6 r1 R7 (.func (.func 130) #[] #[]) (fun (x : Role) => m_role_Set_c1 x) _ _ hH hN (Sub.refl _) hR8 ⟨130, #[], rfl, Tryz.call130, fun W x r hs hm => w_role_Set_c1 x r W  hm⟩ hr10) (fun W11 v14 μ12 L16 hST hle13 hlift hK15 => ?_))
  obtain ⟨y17, S18, hv20, rfl, hy19⟩ := hK15
  replace hv20 := hv20.symm; subst hv20
  simp only [List.append_assoc, List.cons_append, List.nil_append] at hST
  refine LW_v (.inl rfl) rfl (by decide) (R_assign (v := y17) rfl) ?_
  refine LW_nil ?_
  refine sq_n ?_
  refine CW_seq ?_
  refine CW_region ?_
  refine LW_v (.inl rfl) rfl (by decide) (R_move (v := y17) rfl) ?_
  obtain ⟨r21, hr22, hm⟩ := bind_some hm
  replace hST : ST NoF w _ _ (S18 ++ []) := hST.perm (List.Perm.refl _)
  have hsz := hST.size
  refine LW_e (.inl rfl) rfl (by decide) (E_callM (args := [y17, (.func (.func 94) #[] #[])]) (caps := #[]) ((S18 ++ [])) ([]) hST (by simp only [List.append_assoc, List.cons_append, List.nil_append]; exact List.Perm.refl _) rfl Tryz.call132 (by exact args2 rfl rfl) (fun hH hN hsb hmm => w_sortF132 y17 r9 S18 (.func (.func 94) #[] #[]) (fun (x : (Role × Role)) => m_role_Compare x.1 x.2) _ _ hH hN (Sub.refl _) hy19 ⟨94, #[], rfl, Tryz.call94, fun W x r hs hm => w_role_Compare x.1 x.2 r W  hm⟩ hr22) (fun W23 v26 μ24 L28 hST hle25 hlift hK27 => ?_))
  obtain ⟨S29, hv31, rfl, hy30⟩ := hK27
  replace hv31 := hv31.symm; subst hv31
  simp only [List.append_assoc, List.cons_append, List.nil_append] at hST
  refine LW_nil ?_
  refine sq_n ?_
  refine CW_seq ?_
  refine CW_region ?_
  refine LW_v (.inl rfl) rfl (by decide) (R_move (v := y17) rfl) ?_
  obtain ⟨r32, hr33, hm⟩ := bind_some hm
  replace hST : ST NoF w _ _ (S29 ++ []) := hST.perm (List.Perm.refl _)
  have hsz := hST.size
  refine LW_e (.inl rfl) rfl (by decide) (E_callM (args := [y17]) (caps := #[]) ((S29 ++ [])) ([]) hST (by simp only [List.append_assoc, List.cons_append, List.nil_append]; exact List.Perm.refl _) rfl Tryz.call133 (by exact args1 rfl) (fun hH hN hsb hmm => w_slices_Compact_Role y17 r21 S29 _ _ hH hN (Sub.refl _) hy30 hr33) (fun W34 v37 μ35 L39 hST hle36 hlift hK38 => ?_))
  obtain ⟨y40, S41, hv43, rfl, hy42⟩ := hK38
  replace hv43 := hv43.symm; subst hv43
  simp only [List.append_assoc, List.cons_append, List.nil_append] at hST
  refine LW_v (.inl rfl) rfl (by decide) (R_assign (v := y40) rfl) ?_
  refine LW_nil ?_
  refine sq_n ?_
  refine CW_ret ?_
  replace hm := Option.some.inj hm; subst hm
  refine retQ_1 (v := y40) rfl rfl ?_
  exact ⟨_, S41, rfl, hST.backRow (fun p hq => by simp [hq]) hy42.nd, hy42⟩

theorem w_graph_Graph_bears (b_a0 : Nat) (v_a0_all : Value) (a0_all : List Cred) (v_a0_targets : Value) (a0_targets : List (Role × Bool)) (v_a0_words : Value) (a0_words : List (ByteArray × Bool)) (v_a0_relevant : Value) (a0_relevant : List (Cred × Bool)) (a1 : Cred) (r : Bool) (w : World) (h_a0_all : Sl (Pl encCred) 9 (hp w) v_a0_all a0_all) (h_a0_targets : MapAt (fun (x : Role) => (.agg (encRole x).toArray)) (fun (x : Bool) => (Value.bool x)) (hp w) v_a0_targets a0_targets) (h_a0_words : MapAt Value.string (fun (x : Bool) => (Value.bool x)) (hp w) v_a0_words a0_words) (h_a0_relevant : MapAt (fun (x : Cred) => (.agg (encCred x).toArray)) (fun (x : Bool) => (Value.bool x)) (hp w) v_a0_relevant a0_relevant) (hA_a0 : At (hp w) (.pointer (some ⟨b_a0, 0, none⟩)) [v_a0_all, v_a0_targets, v_a0_words, v_a0_relevant]) (hm : m_graph_Graph_bears a0_all a0_targets a0_words a0_relevant a1 = some r) :
    Gives Tryz.prog 83 [(.pointer (some ⟨b_a0, 0, none⟩)), (.agg (encCred a1).toArray)] w (.bool r) := by
  have hST := ST.start w
  unfold m_graph_Graph_bears at hm
  refine calls_of_CW (n := 22) Tryz.func83 rfl rfl (Nat.le_of_ble_eq_true rfl) ?_
  refine CW_seq ?_
  refine CW_region ?_
  refine LW_e (.inl rfl) rfl (by decide) (E_box (v := (.agg (encCred a1).toArray)) hST rfl (fun W2 b1 hST => ?_))
  refine LW_v (.inl rfl) rfl (by decide) (R_assign (v := (.bool false)) rfl) ?_
  refine LW_nil ?_
  refine sq_n ?_
  refine CW_seq ?_
  obtain ⟨s21, hm22, hm23⟩ := bind_some hm
  refine CW_cut (fun E W => ∃ (x17 : Bool) (L18 : List (Nat × Obj)), ST NoF w W (hp w) L18 ∧ E 4 = (.bool x17) ∧ some x17 = some r) ?_ ?_
  · refine PW_start (Has (hp w) ((b1, Obj.cells ((encCred a1).toArray : Array Value) 83 (0, 0)) :: [])) Tryz_mixed ?_
    replace hST := hST.drew
    have hSS : (Has (hp w) ((b1, Obj.cells ((encCred a1).toArray : Array Value) 83 (0, 0)) :: []) _) := ((show ST NoF w _ _ ((b1, Obj.cells ((encCred a1).toArray : Array Value) 83 (0, 0)) :: []) from hST).has.sub (Sub.refl _) (fun p hq => ((List.mem_cons.1 hq).elim (fun hq => by rw [hq]; exact (.head _)) (fun hq => (absurd hq List.not_mem_nil)))))
    refine PW_v 0 rfl (by kernel_rfl) (by kernel_rfl) (by kernel_rfl) (.inl rfl) rfl (by decide) hSS (fun W hS => R_move (v := (.pointer (some ⟨b_a0, 0, none⟩))) rfl) ?_
    refine PW_v 1 rfl (by kernel_rfl) (by kernel_rfl) (by kernel_rfl) (.inl rfl) rfl (by decide) hSS (fun W hS => R_nilCheck rfl) ?_
    refine PW_q 2 rfl (by kernel_rfl) (by kernel_rfl) (by kernel_rfl) (.inl rfl) rfl (by decide) hSS (R_fieldAt [v_a0_targets] fa122_1 rfl hA_a0 rfl) (fun p31 hp32 => ?_)
    refine PW_v 3 rfl (by kernel_rfl) (by kernel_rfl) (by kernel_rfl) (.inl rfl) rfl (by decide) hSS (fun W hS => R_load rfl (load_at1 hS (y := v_a0_targets) hp32 Tryz.isAgg118)) ?_
    refine PW_v 4 rfl (by kernel_rfl) (by kernel_rfl) (by kernel_rfl) (.inl rfl) rfl (by decide) hSS (fun W hS => R_field fa83_1 rfl) ?_
    refine PW_v 5 rfl (by kernel_rfl) (by kernel_rfl) (by kernel_rfl) (.inl rfl) rfl (by decide) hSS (fun W hS => R_load (v := (.agg (encRole a1.Head).toArray)) rfl (load_boxA hS (.head _) (encRole a1.Head) rfl Tryz.isAgg47 Tryz.sizeOf47)) ?_
    refine PW_v 6 rfl (by kernel_rfl) (by kernel_rfl) (by kernel_rfl) (.inl rfl) rfl (by decide) hSS (fun W hS => R_lookupD (k := a1.Head) (z := false) (vf := (fun (x : Bool) => (Value.bool x))) kl47 Tryz.underlying118 Tryz.zeroValue4 rfl rfl (h_a0_targets.mono (fun b o hq => hS.1 b o hq))) ?_
    refine PW_v 7 rfl (by kernel_rfl) (by kernel_rfl) (by kernel_rfl) (.inl rfl) rfl (by decide) hSS (fun W hS => R_move (v := (.bool ((mgetD beqRole a0_targets a1.Head false)))) rfl) ?_
    rcases bool_cases ((mgetD beqRole a0_targets a1.Head false)) with hb34 | hb34
    · replace hm22 := if_t hb34 hm22
      refine PW_no 8 rfl (by kernel_rfl) (by kernel_rfl) (by kernel_rfl) rfl rfl (by decide) (congrArg Value.bool hb34) rfl (by decide) hSS ?_
      refine PW_no 9 rfl (by kernel_rfl) (by kernel_rfl) (by kernel_rfl) rfl rfl (by decide) (congrArg Value.bool hb34) rfl (by decide) hSS ?_
      refine PW_no 10 rfl (by kernel_rfl) (by kernel_rfl) (by kernel_rfl) rfl rfl (by decide) (congrArg Value.bool hb34) rfl (by decide) hSS ?_
      refine PW_no 11 rfl (by kernel_rfl) (by kernel_rfl) (by kernel_rfl) rfl rfl (by decide) (congrArg Value.bool hb34) rfl (by decide) hSS ?_
      refine PW_no 12 rfl (by kernel_rfl) (by kernel_rfl) (by kernel_rfl) rfl rfl (by decide) (congrArg Value.bool hb34) rfl (by decide) hSS ?_
      refine PW_no 13 rfl (by kernel_rfl) (by kernel_rfl) (by kernel_rfl) rfl rfl (by decide) (congrArg Value.bool hb34) rfl (by decide) hSS ?_
      refine PW_no 14 rfl (by kernel_rfl) (by kernel_rfl) (by kernel_rfl) rfl rfl (by decide) (congrArg Value.bool hb34) rfl (by decide) hSS ?_
      refine PW_no 15 rfl (by kernel_rfl) (by kernel_rfl) (by kernel_rfl) rfl rfl (by decide) (congrArg Value.bool hb34) rfl (by decide) hSS ?_
      refine PW_v 16 rfl (by kernel_rfl) (by kernel_rfl) (by kernel_rfl) (.inl rfl) rfl (by decide) hSS (fun W hS => R_pickT (v := (.bool true)) (congrArg Value.bool hb34) rfl) ?_
      refine PW_v 17 rfl (by kernel_rfl) (by kernel_rfl) (by kernel_rfl) (.inl rfl) rfl (by decide) hSS (fun W hS => R_assign (v := (.bool true)) rfl) ?_
      refine PW_done (by kernel_rfl) ?_
      refine sq_n ?_
      replace hm22 := Option.some.inj hm22; subst hm22
      exact ⟨true, _, (hST.sublist (List.Sublist.cons _ (List.Sublist.refl _))), rfl, hm23⟩
    · replace hm22 := if_f hb34 hm22
      refine PW_v 8 rfl (by kernel_rfl) (by kernel_rfl) (by kernel_rfl) (.inr ⟨7, false, 12, rfl, rfl, by decide, (congrArg Value.bool hb34)⟩) rfl (by decide) hSS (fun W hS => R_move (v := (.pointer (some ⟨b_a0, 0, none⟩))) rfl) ?_
      refine PW_v 9 rfl (by kernel_rfl) (by kernel_rfl) (by kernel_rfl) (.inr ⟨7, false, 12, rfl, rfl, by decide, (congrArg Value.bool hb34)⟩) rfl (by decide) hSS (fun W hS => R_nilCheck rfl) ?_
      refine PW_q 10 rfl (by kernel_rfl) (by kernel_rfl) (by kernel_rfl) (.inr ⟨7, false, 12, rfl, rfl, by decide, (congrArg Value.bool hb34)⟩) rfl (by decide) hSS (R_fieldAt [v_a0_words] fa122_2 rfl hA_a0 rfl) (fun p35 hp36 => ?_)
      refine PW_v 11 rfl (by kernel_rfl) (by kernel_rfl) (by kernel_rfl) (.inr ⟨7, false, 12, rfl, rfl, by decide, (congrArg Value.bool hb34)⟩) rfl (by decide) hSS (fun W hS => R_load rfl (load_at1 hS (y := v_a0_words) hp36 Tryz.isAgg119)) ?_
      refine PW_v 12 rfl (by kernel_rfl) (by kernel_rfl) (by kernel_rfl) (.inr ⟨7, false, 12, rfl, rfl, by decide, (congrArg Value.bool hb34)⟩) rfl (by decide) hSS (fun W hS => R_field fa83_1 rfl) ?_
      refine PW_v 13 rfl (by kernel_rfl) (by kernel_rfl) (by kernel_rfl) (.inr ⟨7, false, 12, rfl, rfl, by decide, (congrArg Value.bool hb34)⟩) rfl (by decide) hSS (fun W hS => R_field fa47_1 rfl) ?_
      refine PW_v 14 rfl (by kernel_rfl) (by kernel_rfl) (by kernel_rfl) (.inr ⟨7, false, 12, rfl, rfl, by decide, (congrArg Value.bool hb34)⟩) rfl (by decide) hSS (fun W hS => R_load (v := (.string a1.Head.Word)) rfl (load_box1 hS (.head _) rfl Tryz.isAgg9)) ?_
      refine PW_v 15 rfl (by kernel_rfl) (by kernel_rfl) (by kernel_rfl) (.inr ⟨7, false, 12, rfl, rfl, by decide, (congrArg Value.bool hb34)⟩) rfl (by decide) hSS (fun W hS => R_lookupD (k := a1.Head.Word) (z := false) (vf := (fun (x : Bool) => (Value.bool x))) kl9 Tryz.underlying119 Tryz.zeroValue4 rfl rfl (h_a0_words.mono (fun b o hq => hS.1 b o hq))) ?_
      refine PW_v 16 rfl (by kernel_rfl) (by kernel_rfl) (by kernel_rfl) (.inl rfl) rfl (by decide) hSS (fun W hS => R_pickF (v := (.bool ((mgetD beqS a0_words a1.Head.Word false)))) (congrArg Value.bool hb34) rfl) ?_
      refine PW_v 17 rfl (by kernel_rfl) (by kernel_rfl) (by kernel_rfl) (.inl rfl) rfl (by decide) hSS (fun W hS => R_assign (v := (.bool ((mgetD beqS a0_words a1.Head.Word false)))) rfl) ?_
      refine PW_done (by kernel_rfl) ?_
      refine sq_n ?_
      replace hm22 := Option.some.inj hm22; subst hm22
      exact ⟨((mgetD beqS a0_words a1.Head.Word false)), _, (hST.sublist (List.Sublist.cons _ (List.Sublist.refl _))), rfl, hm23⟩
  · rintro E W ⟨x17, L18, hST, e20, hm19⟩
    refine CW_ret ?_
    replace hm19 := Option.some.inj hm19; subst hm19
    refine retQ_1 (v := (.bool x17)) rfl e20 ?_
    exact ⟨rfl, hST.ex⟩

theorem w_cred_Roles (a0 : Cred) (r : List Role) (w : World)  (hm : m_cred_Roles a0 = some r) :
    GivesRow Tryz.prog 86 [(.agg (encCred a0).toArray)] w 47 encRole 2 r := by
  have hST := ST.start w
  unfold m_cred_Roles at hm
  refine calls_of_CW (n := 27) Tryz.func86 rfl rfl (Nat.le_of_ble_eq_true rfl) ?_
  refine CW_seq ?_
  refine CW_region ?_
  refine LW_e (.inl rfl) rfl (by decide) (E_box (v := (.agg (encCred a0).toArray)) hST rfl (fun W2 b1 hST => ?_))
  refine LW_v (.inl rfl) rfl (by decide) (R_assign (v := (.slice none 0 0)) rfl) ?_
  refine LW_nil ?_
  refine sq_n ?_
  refine CW_seq ?_
  refine CW_seq ?_
  refine CW_region ?_
  refine LW_v (.inl rfl) rfl (by decide) (R_load (v := (.agg (encCred a0).toArray)) rfl (load_boxA hST.has (.head _) (encCred a0) rfl Tryz.isAgg83 Tryz.sizeOf83)) ?_
  obtain ⟨r3, hr4, hm⟩ := bind_some hm
  replace hST : ST NoF w _ _ ((b1, Obj.cells ((encCred a0).toArray : Array Value) 83 (0, 0)) :: []) := hST
  have hsz := hST.size
  refine LW_e (.inl rfl) rfl (by decide) (E_gives (args := [(.agg (encCred a0).toArray)]) hST rfl Tryz.call98 (by exact args1 rfl) (w_cred_Right a0 _ _  hr4) (fun W5 hST => ?_))
  refine LW_v (.inl rfl) rfl (by decide) (R_not (b := r3) rfl) ?_
  refine LW_nil ?_
  refine sq_n ?_
  refine CW_if (b := (!r3)) rfl (fun hb6 => ?_) (fun hb6 => ?_)
  · replace hm := if_t hb6 hm
    refine CW_seq ?_
    refine CW_region ?_
    refine LW_v (.inl rfl) rfl (by decide) (R_assign (v := (.slice none 0 0)) rfl) ?_
    refine LW_nil ?_
    refine sq_n ?_
    replace hST : ST NoF w _ _ [] := hST.sublist (List.Sublist.cons _ (List.Sublist.refl _))
    refine CW_ret ?_
    refine sq_r ?_
    replace hm := Option.some.inj hm; subst hm
    refine retQ_1 (v := (.slice none 0 0)) rfl rfl ?_
    exact ⟨_, [], rfl, hST.backRow (fun p hq => by cases hq) (by simp), Row.nil _ _ _⟩
  · replace hm := if_f hb6 hm
    refine CW_skip ?_
    refine sq_n ?_
    refine CW_seq ?_
    refine CW_region ?_
    refine LW_v (.inl rfl) rfl (by decide) (R_field fa83_1 rfl) ?_
    refine LW_v (.inl rfl) rfl (by decide) (R_load (v := (.agg (encRole a0.Head).toArray)) rfl (load_boxA hST.has (.head _) (encRole a0.Head) rfl Tryz.isAgg47 Tryz.sizeOf47)) ?_
    refine LW_e (.inl rfl) rfl (by decide) (E_buildSlice (qs := #[(0, (.agg (encRole a0.Head).toArray))]) (cs := (encRole a0.Head).toArray) hST (parts1 rfl) (run_lit [(.agg (encRole a0.Head).toArray)] Tryz.underlying23 Tryz.sizeOf47 Tryz.zeroValue47 (by decide) rfl (by intro v hv; simp only [List.mem_cons, List.not_mem_nil, or_false] at hv; rcases hv with rfl <;> rfl) rfl rfl) (fun W8 b7 hST => ?_))
    refine LW_v (.inl rfl) rfl (by decide) (R_assign (v := (.slice (some ⟨b7, 0, none⟩) 1 1)) rfl) ?_
    refine LW_nil ?_
    refine sq_n ?_
    refine CW_seq ?_
    obtain ⟨s54, hm55, hm56⟩ := bind_some hm
    refine CW_cut (fun E W => ∃ (v18 : Value) (l19 : List Role) (R21 : List (Nat × Obj)) (L22 : List (Nat × Obj)), ST NoF w W (hp w) ((b1, Obj.cells ((encCred a0).toArray : Array Value) 83 (0, 0)) :: (R21 ++ L22)) ∧ E 1 = (.pointer (some ⟨b1, 0, none⟩)) ∧ E 3 = v18 ∧ Row 47 encRole 2 v18 l19 R21 ∧ (((if (a0.Kind == 4) then (((appB 32 l19 ([a0.C]))).bind fun l48 => some l48) else some l19) : Option (List Role)).bind fun l36 => some l36) = some r) ?_ ?_
    · refine CW_seq ?_
      refine CW_region ?_
      refine LW_v (.inl rfl) rfl (by decide) (R_field fa83_0 rfl) ?_
      refine LW_v (.inl rfl) rfl (by decide) (R_load (v := (.int .i64 a0.Kind)) rfl (load_box1 hST.has (.tail _ (.head _)) rfl Tryz.isAgg3)) ?_
      refine LW_v (.inl rfl) rfl (by decide) (R_int (k := .i64) (a := a0.Kind) (b := 1) (v := (.bool ((a0.Kind != 1)))) rfl rfl rfl) ?_
      refine LW_nil ?_
      refine sq_n ?_
      refine CW_if (b := (a0.Kind != 1)) rfl (fun hb57 => ?_) (fun hb57 => ?_)
      · replace hm55 := if_t hb57 hm55
        refine CW_region ?_
        refine LW_v (.inl rfl) rfl (by decide) (R_move (v := (.slice (some ⟨b7, 0, none⟩) 1 1)) rfl) ?_
        refine LW_v (.inl rfl) rfl (by decide) (R_field fa83_3 rfl) ?_
        refine LW_v (.inl rfl) rfl (by decide) (R_load (v := (.agg (encRole a0.B).toArray)) rfl (load_boxA hST.has (.tail _ (.head _)) (encRole a0.B) rfl Tryz.isAgg47 Tryz.sizeOf47)) ?_
        refine LW_e (.inl rfl) rfl (by decide) (E_buildSlice (qs := #[(0, (.agg (encRole a0.B).toArray))]) (cs := (encRole a0.B).toArray) hST (parts1 rfl) (run_lit [(.agg (encRole a0.B).toArray)] Tryz.underlying23 Tryz.sizeOf47 Tryz.zeroValue47 (by decide) rfl (by intro v hv; simp only [List.mem_cons, List.not_mem_nil, or_false] at hv; rcases hv with rfl <;> rfl) rfl rfl) (fun W59 b58 hST => ?_))
        obtain ⟨l60, hb61, hm55⟩ := bind_some hm55
        replace hST := hST.perm (List.Perm.append_left [_] (List.perm_middle (l₁ := [_])).symm)
        refine LW_e (.inl rfl) rfl (by decide) (E_append (enc := encRole) (v := (.slice (some ⟨b7, 0, none⟩) 1 1)) (vs := (.slice (some ⟨b58, 0, none⟩) 1 1)) (R := [(b7, Obj.cells ((encRole a0.Head).toArray : Array Value) 47 (0, 0))]) [_, _] hST lenRole (by decide) oneRole Tryz.underlying23 info47.1 info47.2.1 rfl info47.2.2.1 info47.2.2.2 rfl rfl (Row.lit (l := [a0.Head]) (enc := encRole) rfl (by decide) rfl rfl) (Sl.lit (enc := encRole) (l := [a0.B]) lenRole rfl (Nat.le_of_ble_eq_true rfl) rfl (hST.at_ (.head _))) hb61 (fun W62 v65 R63 hST hR64 => ?_))
        refine LW_v (.inl rfl) rfl (by decide) (R_assign (v := v65) rfl) ?_
        refine LW_nil ?_
        refine sq_n ?_
        replace hm55 := Option.some.inj hm55; subst hm55
        exact ⟨v65, l60, R63, _, (hST.sublist (List.Sublist.cons _ (List.Sublist.refl _))), rfl, rfl, hR64, hm56⟩
      · replace hm55 := if_f hb57 hm55
        refine CW_skip ?_
        refine sq_n ?_
        replace hm55 := Option.some.inj hm55; subst hm55
        replace hST := hST.perm (List.Perm.append_left [] (List.perm_middle (l₁ := [_])).symm)
        exact ⟨(.slice (some ⟨b7, 0, none⟩) 1 1), ([a0.Head]), [(b7, Obj.cells ((encRole a0.Head).toArray : Array Value) 47 (0, 0))], _, (hST.sublist (List.Sublist.refl _)), rfl, rfl, (Row.lit (l := [a0.Head]) (enc := encRole) rfl (by decide) rfl rfl), hm56⟩
    · rintro E W ⟨v18, l19, R21, L22, hST, e24, e25, hs20, hm23⟩
      refine CW_seq ?_
      obtain ⟨s42, hm43, hm44⟩ := bind_some hm23
      refine CW_cut (fun E W => ∃ (v35 : Value) (l36 : List Role) (R38 : List (Nat × Obj)) (L39 : List (Nat × Obj)), ST NoF w W (hp w) (R38 ++ L39) ∧ E 3 = v35 ∧ Row 47 encRole 2 v35 l36 R38 ∧ some l36 = some r) ?_ ?_
      · refine CW_seq ?_
        refine CW_region ?_
        refine LW_v (.inl rfl) rfl (by decide) (R_field fa83_0 e24) ?_
        refine LW_v (.inl rfl) rfl (by decide) (R_load (v := (.int .i64 a0.Kind)) rfl (load_box1 hST.has (.head _) rfl Tryz.isAgg3)) ?_
        refine LW_v (.inl rfl) rfl (by decide) (R_int (k := .i64) (a := a0.Kind) (b := 4) (v := (.bool ((a0.Kind == 4)))) rfl rfl rfl) ?_
        refine LW_nil ?_
        refine sq_n ?_
        refine CW_if (b := (a0.Kind == 4)) rfl (fun hb45 => ?_) (fun hb45 => ?_)
        · replace hm43 := if_t hb45 hm43
          refine CW_region ?_
          refine LW_v (.inl rfl) rfl (by decide) (R_move (v := v18) e25) ?_
          refine LW_v (.inl rfl) rfl (by decide) (R_field fa83_4 e24) ?_
          refine LW_v (.inl rfl) rfl (by decide) (R_load (v := (.agg (encRole a0.C).toArray)) rfl (load_boxA hST.has (.head _) (encRole a0.C) rfl Tryz.isAgg47 Tryz.sizeOf47)) ?_
          refine LW_e (.inl rfl) rfl (by decide) (E_buildSlice (qs := #[(0, (.agg (encRole a0.C).toArray))]) (cs := (encRole a0.C).toArray) hST (parts1 rfl) (run_lit [(.agg (encRole a0.C).toArray)] Tryz.underlying23 Tryz.sizeOf47 Tryz.zeroValue47 (by decide) rfl (by intro v hv; simp only [List.mem_cons, List.not_mem_nil, or_false] at hv; rcases hv with rfl <;> rfl) rfl rfl) (fun W47 b46 hST => ?_))
          obtain ⟨l48, hb49, hm43⟩ := bind_some hm43
          refine LW_e (.inl rfl) rfl (by decide) (E_append (enc := encRole) (v := v18) (vs := (.slice (some ⟨b46, 0, none⟩) 1 1)) (R := R21) [_, _] hST lenRole (by decide) oneRole Tryz.underlying23 info47.1 info47.2.1 rfl info47.2.2.1 info47.2.2.2 rfl rfl hs20 (Sl.lit (enc := encRole) (l := [a0.C]) lenRole rfl (Nat.le_of_ble_eq_true rfl) rfl (hST.at_ (.head _))) hb49 (fun W50 v53 R51 hST hR52 => ?_))
          refine LW_v (.inl rfl) rfl (by decide) (R_assign (v := v53) rfl) ?_
          refine LW_nil ?_
          refine sq_n ?_
          replace hm43 := Option.some.inj hm43; subst hm43
          exact ⟨v53, l48, R51, _, (hST.sublist (List.Sublist.cons _ (List.Sublist.cons _ (List.Sublist.refl _)))), rfl, hR52, hm44⟩
        · replace hm43 := if_f hb45 hm43
          refine CW_skip ?_
          refine sq_n ?_
          replace hm43 := Option.some.inj hm43; subst hm43
          exact ⟨v18, l19, R21, _, (hST.sublist (List.Sublist.cons _ (List.Sublist.refl _))), e25, hs20, hm44⟩
      · rintro E W ⟨v35, l36, R38, L39, hST, e41, hs37, hm40⟩
        refine CW_seq ?_
        refine CW_region ?_
        refine LW_v (.inl rfl) rfl (by decide) (R_move (v := v35) e41) ?_
        refine LW_v (.inl rfl) rfl (by decide) (R_assign (v := v35) rfl) ?_
        refine LW_nil ?_
        refine sq_n ?_
        refine CW_ret ?_
        replace hm40 := Option.some.inj hm40; subst hm40
        refine retQ_1 (v := v35) rfl rfl ?_
        exact ⟨_, R38, rfl, hST.backRow (fun p hq => by simp [hq]) hs37.nd, hs37⟩

end Go.Proofs.YtfjdjbdnnoijgaaGreat
