/- a part of a proof of ChainStands -/
import Derived.Test.YtfjdjbdnnoijgaaGreatGH11M
import Derived.Test.YtfjdjbdnnoijgaaGreatLs
import Derived.Test.YtfjdjbdnnoijgaaGreatProg
set_option linter.all false
namespace Go.Proofs.YtfjdjbdnnoijgaaGreat
open Go.RowKit
set_option maxRecDepth 10000
theorem Tryz_mixed : Tryz.prog.follows .mixedOrders = true := by rfl
theorem info5 : Tryz.prog.info? 5 = some Tryz.t5 ∧ Tryz.t5.zero = some (.int .u8 0) ∧ Tryz.t5.size = 1 ∧ Tryz.t5.bytes = 1 := ⟨by kernel_rfl, by kernel_rfl, by kernel_rfl, by kernel_rfl⟩
theorem info9 : Tryz.prog.info? 9 = some Tryz.t9 ∧ Tryz.t9.zero = some (.string ⟨#[]⟩) ∧ Tryz.t9.size = 1 ∧ Tryz.t9.bytes = 16 := ⟨by kernel_rfl, by kernel_rfl, by kernel_rfl, by kernel_rfl⟩
theorem info78 : Tryz.prog.info? 78 = some Tryz.t78 ∧ Tryz.t78.zero = some (.agg #[(.string ⟨#[]⟩), (.string ⟨#[]⟩), (.string ⟨#[]⟩)]) ∧ Tryz.t78.size = 3 ∧ Tryz.t78.bytes = 48 := ⟨by kernel_rfl, by kernel_rfl, by kernel_rfl, by kernel_rfl⟩
theorem info83 : Tryz.prog.info? 83 = some Tryz.t83 ∧ Tryz.t83.zero = some (.agg #[(.int .i64 0), (.string ⟨#[]⟩), (.string ⟨#[]⟩), (.string ⟨#[]⟩), (.string ⟨#[]⟩), (.string ⟨#[]⟩), (.string ⟨#[]⟩), (.string ⟨#[]⟩), (.string ⟨#[]⟩)]) ∧ Tryz.t83.size = 9 ∧ Tryz.t83.bytes = 136 := ⟨by kernel_rfl, by kernel_rfl, by kernel_rfl, by kernel_rfl⟩
theorem info89 : Tryz.prog.info? 89 = some Tryz.t89 ∧ Tryz.t89.zero = some (.agg #[(.int .i64 0), (.string ⟨#[]⟩), (.string ⟨#[]⟩), (.string ⟨#[]⟩), (.string ⟨#[]⟩), (.string ⟨#[]⟩), (.string ⟨#[]⟩), (.string ⟨#[]⟩), (.string ⟨#[]⟩), (.string ⟨#[]⟩), (.string ⟨#[]⟩), (.string ⟨#[]⟩)]) ∧ Tryz.t89.size = 12 ∧ Tryz.t89.bytes = 184 := ⟨by kernel_rfl, by kernel_rfl, by kernel_rfl, by kernel_rfl⟩
theorem fa47_0 : FieldAt Tryz.prog 47 0 0 := FieldAt_of Tryz.underlying47 rfl Tryz.sizeOf9 (by decide) rfl
theorem fa47_1 : FieldAt Tryz.prog 47 1 1 := FieldAt_of Tryz.underlying47 rfl Tryz.sizeOf9 (by decide) rfl
theorem fields47 : (Tryz.prog.fieldsOf 47).toList = (match Tryz.prog.underlying 47 with | some (.struct fs) => fs.toList | _ => []) := by rw [Tryz.underlying47]; simp [Program.fieldsOf, Tryz.underlying47]
theorem eqInRole (d : Nat) (x y : Role) (W : World) : (Op.equalIn (d + 2) 47 (.agg (encRole x).toArray) (.agg (encRole y).toArray)).run Tryz.prog W = .ok (beqRole x y) W := by
  rw [run_equalIn_struct W (d + 1) 47 _ _ (by kernel_rfl) Tryz.stoodInHeld47, fields47, Tryz.underlying47]
  exact (eqFields_cons (by decide) (part_one Tryz.isAgg9 rfl) (part_one Tryz.isAgg9 rfl) (eqS Tryz.underlying9 _ _ _ _) (eqFields_cons (by decide) (part_one Tryz.isAgg9 rfl) (part_one Tryz.isAgg9 rfl) (eqS Tryz.underlying9 _ _ _ _) (eqFields_nil _ _ _)))
theorem pl47 : ∀ fs, Tryz.prog.underlying 47 = some (.struct fs) → ∀ w, (fs.mapM (fun (f : Field) => do pure (f.offset, ← sizeOf f.type)) : Sem (Array (Nat × Nat))).run Tryz.prog w = .ok #[(0, 1), (1, 1)] w := by
  intro fs h w
  rw [Tryz.underlying47] at h
  cases h
  kernel_rfl
theorem fa83_0 : FieldAt Tryz.prog 83 0 0 := FieldAt_of Tryz.underlying83 rfl Tryz.sizeOf3 (by decide) rfl
theorem fa83_1 : FieldAt Tryz.prog 83 1 1 := FieldAt_of Tryz.underlying83 rfl Tryz.sizeOf47 (by decide) rfl
theorem fa83_2 : FieldAt Tryz.prog 83 2 3 := FieldAt_of Tryz.underlying83 rfl Tryz.sizeOf9 (by decide) rfl
theorem fa83_3 : FieldAt Tryz.prog 83 3 4 := FieldAt_of Tryz.underlying83 rfl Tryz.sizeOf47 (by decide) rfl
theorem fa83_4 : FieldAt Tryz.prog 83 4 6 := FieldAt_of Tryz.underlying83 rfl Tryz.sizeOf47 (by decide) rfl
theorem fa83_5 : FieldAt Tryz.prog 83 5 8 := FieldAt_of Tryz.underlying83 rfl Tryz.sizeOf9 (by decide) rfl
theorem fields83 : (Tryz.prog.fieldsOf 83).toList = (match Tryz.prog.underlying 83 with | some (.struct fs) => fs.toList | _ => []) := by rw [Tryz.underlying83]; simp [Program.fieldsOf, Tryz.underlying83]
theorem eqInCred (d : Nat) (x y : Cred) (W : World) : (Op.equalIn (d + 3) 83 (.agg (encCred x).toArray) (.agg (encCred y).toArray)).run Tryz.prog W = .ok (beqCred x y) W := by
  rw [run_equalIn_struct W (d + 2) 83 _ _ (by kernel_rfl) Tryz.stoodInHeld83, fields83, Tryz.underlying83]
  exact (eqFields_cons (by decide) (part_one Tryz.isAgg3 rfl) (part_one Tryz.isAgg3 rfl) (eqI Tryz.underlying3 _ _ _ _) (eqFields_cons (by decide) (part_agg Tryz.isAgg47 Tryz.sizeOf47 rfl) (part_agg Tryz.isAgg47 Tryz.sizeOf47 rfl) (eqInRole _ x.Head y.Head W) (eqFields_cons (by decide) (part_one Tryz.isAgg9 rfl) (part_one Tryz.isAgg9 rfl) (eqS Tryz.underlying9 _ _ _ _) (eqFields_cons (by decide) (part_agg Tryz.isAgg47 Tryz.sizeOf47 rfl) (part_agg Tryz.isAgg47 Tryz.sizeOf47 rfl) (eqInRole _ x.B y.B W) (eqFields_cons (by decide) (part_agg Tryz.isAgg47 Tryz.sizeOf47 rfl) (part_agg Tryz.isAgg47 Tryz.sizeOf47 rfl) (eqInRole _ x.C y.C W) (eqFields_cons (by decide) (part_one Tryz.isAgg9 rfl) (part_one Tryz.isAgg9 rfl) (eqS Tryz.underlying9 _ _ _ _) (eqFields_nil _ _ _)))))))
theorem pl83 : ∀ fs, Tryz.prog.underlying 83 = some (.struct fs) → ∀ w, (fs.mapM (fun (f : Field) => do pure (f.offset, ← sizeOf f.type)) : Sem (Array (Nat × Nat))).run Tryz.prog w = .ok #[(0, 1), (1, 2), (3, 1), (4, 2), (6, 2), (8, 1)] w := by
  intro fs h w
  rw [Tryz.underlying83] at h
  cases h
  kernel_rfl
theorem fa78_0 : FieldAt Tryz.prog 78 0 0 := FieldAt_of Tryz.underlying78 rfl Tryz.sizeOf47 (by decide) rfl
theorem fa78_1 : FieldAt Tryz.prog 78 1 2 := FieldAt_of Tryz.underlying78 rfl Tryz.sizeOf9 (by decide) rfl
theorem fields78 : (Tryz.prog.fieldsOf 78).toList = (match Tryz.prog.underlying 78 with | some (.struct fs) => fs.toList | _ => []) := by rw [Tryz.underlying78]; simp [Program.fieldsOf, Tryz.underlying78]
theorem eqInFact (d : Nat) (x y : Fact) (W : World) : (Op.equalIn (d + 3) 78 (.agg (encFact x).toArray) (.agg (encFact y).toArray)).run Tryz.prog W = .ok (beqFact x y) W := by
  rw [run_equalIn_struct W (d + 2) 78 _ _ (by kernel_rfl) Tryz.stoodInHeld78, fields78, Tryz.underlying78]
  exact (eqFields_cons (by decide) (part_agg Tryz.isAgg47 Tryz.sizeOf47 rfl) (part_agg Tryz.isAgg47 Tryz.sizeOf47 rfl) (eqInRole _ x.Role y.Role W) (eqFields_cons (by decide) (part_one Tryz.isAgg9 rfl) (part_one Tryz.isAgg9 rfl) (eqS Tryz.underlying9 _ _ _ _) (eqFields_nil _ _ _)))
theorem pl78 : ∀ fs, Tryz.prog.underlying 78 = some (.struct fs) → ∀ w, (fs.mapM (fun (f : Field) => do pure (f.offset, ← sizeOf f.type)) : Sem (Array (Nat × Nat))).run Tryz.prog w = .ok #[(0, 2), (2, 1)] w := by
  intro fs h w
  rw [Tryz.underlying78] at h
  cases h
  kernel_rfl
theorem fa89_0 : FieldAt Tryz.prog 89 0 0 := FieldAt_of Tryz.underlying89 rfl Tryz.sizeOf83 (by decide) rfl
theorem fa89_1 : FieldAt Tryz.prog 89 1 9 := FieldAt_of Tryz.underlying89 rfl Tryz.sizeOf78 (by decide) rfl
theorem fields89 : (Tryz.prog.fieldsOf 89).toList = (match Tryz.prog.underlying 89 with | some (.struct fs) => fs.toList | _ => []) := by rw [Tryz.underlying89]; simp [Program.fieldsOf, Tryz.underlying89]
theorem eqInStep (d : Nat) (x y : Step) (W : World) : (Op.equalIn (d + 4) 89 (.agg (encStep x).toArray) (.agg (encStep y).toArray)).run Tryz.prog W = .ok (beqStep x y) W := by
  rw [run_equalIn_struct W (d + 3) 89 _ _ (by kernel_rfl) Tryz.stoodInHeld89, fields89, Tryz.underlying89]
  exact (eqFields_cons (by decide) (part_agg Tryz.isAgg83 Tryz.sizeOf83 rfl) (part_agg Tryz.isAgg83 Tryz.sizeOf83 rfl) (eqInCred _ x.Cred y.Cred W) (eqFields_cons (by decide) (part_agg Tryz.isAgg78 Tryz.sizeOf78 rfl) (part_agg Tryz.isAgg78 Tryz.sizeOf78 rfl) (eqInFact _ x.Fact y.Fact W) (eqFields_nil _ _ _)))
theorem pl89 : ∀ fs, Tryz.prog.underlying 89 = some (.struct fs) → ∀ w, (fs.mapM (fun (f : Field) => do pure (f.offset, ← sizeOf f.type)) : Sem (Array (Nat × Nat))).run Tryz.prog w = .ok #[(0, 9), (9, 3)] w := by
  intro fs h w
  rw [Tryz.underlying89] at h
  cases h
  kernel_rfl
theorem fa221_0 : FieldAt Tryz.prog 221 0 0 := FieldAt_of Tryz.underlying221 rfl Tryz.sizeOf189 (by decide) rfl
theorem pl221 : ∀ fs, Tryz.prog.underlying 221 = some (.struct fs) → ∀ w, (fs.mapM (fun (f : Field) => do pure (f.offset, ← sizeOf f.type)) : Sem (Array (Nat × Nat))).run Tryz.prog w = .ok #[(0, 1)] w := by
  intro fs h w
  rw [Tryz.underlying221] at h
  cases h
  kernel_rfl
theorem kl78 : KeyLaw Tryz.prog 78 (fun (x : Fact) => (.agg (encFact x).toArray)) beqFact :=
  KeyLaw.struct Tryz.underlying78 (fun d x y W => eqInFact (d + 7) x y W) (fun b k W => checkKey_struct Tryz.underlying78 rfl (List.forall_mem_cons.2 ⟨fun _ => ⟨.agg (encRole k.Role).toArray, part_agg Tryz.isAgg47 Tryz.sizeOf47 rfl, checkKey_struct Tryz.underlying47 rfl (List.forall_mem_cons.2 ⟨fun _ => ⟨.string k.Role.Owner, part_one Tryz.isAgg9 rfl, checkKey_string Tryz.underlying9 _ _ _ _⟩, (List.forall_mem_cons.2 ⟨fun _ => ⟨.string k.Role.Word, part_one Tryz.isAgg9 rfl, checkKey_string Tryz.underlying9 _ _ _ _⟩, (fun _ h => by cases h)⟩)⟩)⟩, (List.forall_mem_cons.2 ⟨fun _ => ⟨.string k.Who, part_one Tryz.isAgg9 rfl, checkKey_string Tryz.underlying9 _ _ _ _⟩, (fun _ h => by cases h)⟩)⟩))
    (fun k x h => (beqFact_iff.1 h).symm) (fun k => by simp [Instr.sameBits, encFact, bytes_beq, beqS_iff])
theorem w_slices_Clone_Cred (v_a0 : Value) (a0 : List Cred) (r : List Cred) (w : World) (h_a0 : Sl (Pl encCred) 9 (hp w) v_a0 a0) (hm : m_slices_Clone_Cred a0 = some r) :
    GivesRow true Tryz.prog 81 [v_a0] w 83 encCred 9 r := by
  have hST := ST.start (dd := true) w
  unfold m_slices_Clone_Cred at hm
  refine calls_of_CW (n := 8) Tryz.func81 rfl rfl (Nat.le_of_ble_eq_true rfl) ?_
  refine CW_seq ?_
  refine CW_region ?_
  refine LV (R_assign (v := (.slice none 0 0)) rfl) ?_
  refine LW_nil ?_
  refine sq_n ?_
  refine CW_seq ?_
  refine CW_seq ?_
  refine CW_region ?_
  refine LV (R_move (v := v_a0) rfl) ?_
  obtain ⟨A1, c2, rfl⟩ := h_a0.form
  refine LV (R_slEqNil Tryz.underlying22 rfl rfl) ?_
  refine LW_nil ?_
  refine sq_n ?_
  rcases A1 with _ | A5
  · have hn4 := h_a0.isNil
    replace hm : some [] = some r := by rw [hn4] at hm; simpa [appB, maxLen] using hm
    refine CW_if_true (rfl) ?_
    refine CW_seq ?_
    refine CW_region ?_
    refine LV (R_assign (v := (.slice none 0 0)) rfl) ?_
    refine LW_nil ?_
    refine sq_n ?_
    refine CW_ret ?_
    refine sq_r ?_
    replace hm := Option.some.inj hm; subst hm
    refine retQ_1 (v := (.slice none 0 0)) rfl rfl ?_
    exact ⟨_, [], rfl, hST.backRow (fun p hq => by cases hq) (by simp), Row.nil _ _ _⟩
  · refine CW_if_false (rfl) ?_
    refine CW_skip ?_
    refine sq_n ?_
    refine CW_seq ?_
    refine CW_region ?_
    refine LE (E_buildSlice (qs := #[]) (cs := #[]) hST parts0 (run_lit [] Tryz.underlying22 Tryz.sizeOf83 Tryz.zeroValue83 (by decide) rfl (by simp) rfl rfl) (fun W7 b6 hST => ?_))
    refine LV (R_move (v := (.slice (some A5) a0.length c2)) rfl) ?_
    obtain ⟨l8, hb9, hm⟩ := bind_some hm
    replace hST := hST.perm (List.Perm.append_left [] (List.perm_middle (l₁ := [])).symm)
    refine LE (E_append (enc := encCred) (v := (.slice (some ⟨b6, 0, none⟩) 0 0)) (vs := (.slice (some A5) a0.length c2)) (R := [(b6, Obj.cells (#[] : Array Value) 83 (0, 0))]) [] hST lenCred (by decide) oneCred Tryz.underlying22 info83.1 info83.2.1 rfl info83.2.2.1 info83.2.2.2 rfl rfl (Row.lit (l := []) (enc := encCred) rfl (by decide) rfl rfl) (h_a0.mono (Pl.mono _) hST.sub_hp) hb9 (fun W10 v13 R11 hST hR12 => ?_))
    refine LV (R_assign (v := v13) rfl) ?_
    refine LW_nil ?_
    refine sq_n ?_
    refine CW_ret ?_
    replace hm := Option.some.inj hm; subst hm
    refine retQ_1 (v := v13) rfl rfl ?_
    exact ⟨_, R11, rfl, hST.backRow (fun p hq => by simp [hq]) hR12.nd, hR12⟩
theorem w_slices_IndexFunc_Cred (v_a0 : Value) (a0 : List Cred) (v_a1 : Value) (f1 : Cred → Option Bool) (r : Int) (w : World) (h_a0 : Sl (Pl encCred) 9 (hp w) v_a0 a0) (h_a1 : CbOk Tryz.prog v_a1 (hp w) (fun (x : Cred) => [(.agg (encCred x).toArray)]) (fun (r : Bool) => (.bool r)) f1) (hm : m_slices_IndexFunc_Cred a0 f1 = some r) :
    Gives true Tryz.prog 137 [v_a0, v_a1] w (.int .i64 r) := by
  have hST := ST.start (dd := true) w
  unfold m_slices_IndexFunc_Cred at hm
  refine calls_of_CW (n := 19) Tryz.func137 rfl rfl (Nat.le_of_ble_eq_true rfl) ?_
  refine CW_seq ?_
  refine CW_region ?_
  refine LV (R_assign (v := (.int .i64 0)) rfl) ?_
  refine LW_nil ?_
  refine sq_n ?_
  refine CW_seq ?_
  refine CW_seq ?_
  refine CW_region ?_
  refine LV (R_move (v := v_a0) rfl) ?_
  refine LV (R_len Tryz.underlying22 rfl h_a0) ?_
  refine LV (R_move (v := (.int .i64 0)) rfl) ?_
  refine LW_nil ?_
  refine sq_n ?_
  refine CW_range (fun i E W => ∃  (L58 : List (Nat × Obj)), (E 8 = .int .i64 (i : Nat) ∧ E 7 = .int .i64 (a0.length : Nat)) ∧ ST true NoF w W (hp w) L58 ∧ E 0 = v_a0 ∧ E 1 = v_a1 ∧ m_slices_IndexFunc_Cred_L1 f1 (a0.drop i) i = some r) a0.length h_a0.len ⟨_, ⟨rfl, rfl⟩, (hST.sublist (List.Sublist.refl _)), rfl, rfl, hm⟩ (by decide) (by decide) (by decide) (fun _ _ _ h => by obtain ⟨_, eIN, _⟩ := h; exact eIN) ?_ ?_
  · rintro i35 E W hi41 ⟨L58, ⟨eI, eN⟩, hST, e60, e61, hm59⟩
    obtain ⟨x36, xs37, hx39, hx38, hx40⟩ := drop_cons hi41
    rw [hx39] at hm59
    rw [m_slices_IndexFunc_Cred_L1] at hm59
    refine CW_block ?_
    refine CW_seq ?_
    refine CW_region ?_
    refine LV (R_move (v := (.int .i64 ((i35 : Int)))) eI) ?_
    refine LV (R_assign (v := (.int .i64 ((i35 : Int)))) rfl) ?_
    refine LW_nil ?_
    refine sq_n ?_
    refine CW_seq ?_
    refine CW_region ?_
    refine LV (R_move (v := v_a1) e61) ?_
    refine LV (R_move (v := v_a0) e60) ?_
    refine LV (R_move (v := (.int .i64 ((i35 : Int)))) rfl) ?_
    refine LQ (R_indexP (enc := encCred) (i := (i35 : Int)) (x0 := x36) Tryz.underlying22 Tryz.sizeOf83 rfl rfl h_a0 (Int.natCast_nonneg _) hx38) (fun p62 hp63 => ?_)
    refine LV (R_load rfl (load_atA hST.has hp63 Tryz.isAgg83 Tryz.sizeOf83)) ?_
    obtain ⟨r65, hr66, hm59⟩ := bind_some hm59
    refine LE (E_cb x36 hST h_a1 (Sub.refl _) rfl (args1 rfl) hr66 (fun W67 hST => ?_))
    refine LW_nil ?_
    refine sq_n ?_
    refine CW_if (b := r65) rfl (fun hb68 => ?_) (fun hb68 => ?_)
    · replace hm59 := if_t hb68 hm59
      refine CW_seq ?_
      refine CW_region ?_
      refine LV (R_move (v := (.int .i64 ((i35 : Int)))) rfl) ?_
      refine LV (R_assign (v := (.int .i64 ((i35 : Int)))) rfl) ?_
      refine LW_nil ?_
      refine sq_n ?_
      refine CW_ret ?_
      refine bq_r (sq_r (bq_r (sq_r ?_)))
      replace hm59 := Option.some.inj hm59; subst hm59
      refine retQ_1 (v := (.int .i64 ((i35 : Int)))) rfl rfl ?_
      exact ⟨rfl, hST.ex⟩
    · replace hm59 := if_f hb68 hm59
      refine CW_skip ?_
      refine bq_n ?_
      refine sq_n ?_
      exact ⟨eI, _, ⟨rfl, eN⟩, (hST.sublist (List.Sublist.refl _)), e60, e61, (by rw [hx40]; exact hm59)⟩
  · rintro E W ⟨L58, ⟨eI, eN⟩, hST, e60, e61, hm59⟩
    rw [List.drop_length] at hm59
    rw [m_slices_IndexFunc_Cred_L1] at hm59
    refine sq_n ?_
    refine CW_seq ?_
    refine CW_region ?_
    refine LV (R_assign (v := (.int .i64 ((-1)))) rfl) ?_
    refine LW_nil ?_
    refine sq_n ?_
    refine CW_ret ?_
    replace hm59 := Option.some.inj hm59; subst hm59
    refine retQ_1 (v := (.int .i64 ((-1)))) rfl rfl ?_
    exact ⟨rfl, hST.ex⟩
theorem w_slices_DeleteFunc_Cred (v_a0 : Value) (a0 : List Cred) (R_a0 : List (Nat × Obj)) (v_a1 : Value) (f1 : Cred → Option Bool) (r : List Cred) (w : World) {μ0 : Mem} (hH : Held (R_a0 ++ []) w) (hN : (((R_a0 ++ []) : List (Nat × Obj)).map (·.1)).Nodup) (hS0 : Sub μ0 (hpx w (R_a0 ++ []))) (h_a0 : Row 83 encCred 9 v_a0 a0 R_a0) (h_a1 : CbOk Tryz.prog v_a1 μ0 (fun (x : Cred) => [(.agg (encCred x).toArray)]) (fun (r : Bool) => (.bool r)) f1) (hm : m_slices_DeleteFunc_Cred a0 f1 = some r) :
    GivesM true Tryz.prog 80 [v_a0, v_a1] w (R_a0 ++ []) (fun v L1 W' => ∃ (y1 : Value) (S2 : List (Nat × Obj)), v = y1 ∧ L1 = (S2 ++ []) ∧ Row 83 encCred 9 y1 r S2) := by
  have hST := (ST.startM (dd := true) hH hN).weak hS0
  unfold m_slices_DeleteFunc_Cred at hm
  refine calls_of_CW (n := 42) Tryz.func80 rfl rfl (Nat.le_of_ble_eq_true rfl) ?_
  refine CW_seq ?_
  refine CW_region ?_
  refine LV (R_assign (v := (.slice none 0 0)) rfl) ?_
  refine LW_nil ?_
  refine sq_n ?_
  refine CW_seq ?_
  refine CW_region ?_
  refine LV (R_move (v := v_a0) rfl) ?_
  refine LV (R_move (v := v_a1) rfl) ?_
  obtain ⟨r1, hr2, hm⟩ := bind_some hm
  refine LE (E_gives (args := [v_a0, v_a1]) hST rfl Tryz.call137 (by exact args2 rfl rfl) ((w_slices_IndexFunc_Cred v_a0 a0 v_a1 f1 _ _ (h_a0.sl lenCred (fun b o hq => hST.at_ (List.mem_append_left _ hq))) (h_a1.mono hST.sub_hp) hr2)) (fun W3 hST => ?_))
  refine LV (R_assign (v := (.int .i64 r1)) rfl) ?_
  refine LW_nil ?_
  refine sq_n ?_
  refine CW_seq ?_
  refine CW_seq ?_
  refine CW_region ?_
  refine LV (R_move (v := (.int .i64 r1)) rfl) ?_
  refine LV (R_int (k := .i64) (a := r1) (b := ((-1))) (v := (.bool ((r1 == ((-1)))))) rfl rfl rfl) ?_
  refine LW_nil ?_
  refine sq_n ?_
  refine CW_if (b := (r1 == ((-1)))) rfl (fun hb4 => ?_) (fun hb4 => ?_)
  · replace hm := if_t hb4 hm
    refine CW_seq ?_
    refine CW_region ?_
    refine LV (R_move (v := v_a0) rfl) ?_
    refine LV (R_assign (v := v_a0) rfl) ?_
    refine LW_nil ?_
    refine sq_n ?_
    refine CW_ret ?_
    refine sq_r ?_
    replace hm := Option.some.inj hm; subst hm
    refine retQ_1 (v := v_a0) rfl rfl ?_
    replace hST : ST true (keys (R_a0 ++ [])) w _ _ (R_a0 ++ []) := hST
    exact ⟨_, (R_a0 ++ []), rfl, (ST.backM (L1 := (R_a0 ++ [])) (by have hh : ST true (keys (R_a0 ++ [])) w _ _ (R_a0 ++ []) := hST.perm (List.Perm.refl _); simpa only [List.append_assoc, List.cons_append, List.nil_append] using hh)), v_a0, R_a0, rfl, rfl, h_a0⟩
  · replace hm := if_f hb4 hm
    refine CW_skip ?_
    refine sq_n ?_
    refine CW_seq ?_
    refine CW_seq ?_
    refine CW_region ?_
    refine LV (R_move (v := (.int .i64 r1)) rfl) ?_
    refine LV (R_int (k := .i64) (a := r1) (b := 1) (v := (.int .i64 ((IntKind.i64.wrap (r1 + 1))))) rfl rfl rfl) ?_
    refine LV (R_assign (v := (.int .i64 ((IntKind.i64.wrap (r1 + 1))))) rfl) ?_
    refine LW_nil ?_
    refine sq_n ?_
    refine CW_block (CW_loop (fun m E W => ∃ (l249 : List Cred) (R251 : List (Nat × Obj)) (x252 : Int) (x253 : Int) (L319 : List (Nat × Obj)), ST true (keys (R_a0 ++ [])) w W μ0 (R251 ++ L319) ∧ E 0 = v_a0 ∧ E 1 = v_a1 ∧ E 5 = (.int .i64 x252) ∧ E 6 = (.int .i64 x253) ∧ Row 83 encCred 9 v_a0 l249 R251 ∧ m_slices_DeleteFunc_Cred_L1 f1 m l249 x252 x253 = some r) FUEL ⟨a0, R_a0, r1, ((IntKind.i64.wrap (r1 + 1))), _, (hST.sublist (List.Sublist.refl _)), rfl, rfl, rfl, rfl, h_a0, hm⟩ ?_)
    rintro m E W ⟨l249, R251, x252, x253, L319, hST, e322, e323, e324, e325, hs250, hm320⟩
    cases m with
    | zero => rw [m_slices_DeleteFunc_Cred_L1] at hm320; cases hm320
    | succ n321 =>
      rw [m_slices_DeleteFunc_Cred_L1] at hm320
      refine CW_seq ?_
      refine CW_seq ?_
      refine CW_region ?_
      refine LV (R_move (v := (.int .i64 x253)) e325) ?_
      refine LV (R_move (v := v_a0) e322) ?_
      refine LV (R_lenRow Tryz.underlying22 rfl hs250) ?_
      refine LV (R_int (k := .i64) (a := x253) (b := ((l249.length : Int))) (v := (.bool ((decide (x253 < ((l249.length : Int))))))) rfl rfl rfl) ?_
      refine LW_nil ?_
      refine sq_n ?_
      refine CW_if (b := (decide (x253 < ((l249.length : Int))))) rfl (fun hb326 => ?_) (fun hb326 => ?_)
      · replace hm320 := if_t hb326 hm320
        refine CW_skip ?_
        refine sq_n ?_
        refine CW_seq ?_
        obtain ⟨s358, hm359, hm360⟩ := bind_some hm320
        refine CW_cut (fun E W => ∃ (l348 : List Cred) (R350 : List (Nat × Obj)) (x351 : Int) (L352 : List (Nat × Obj)), ST true (keys (R_a0 ++ [])) w W μ0 (R350 ++ L352) ∧ E 0 = v_a0 ∧ E 1 = v_a1 ∧ E 5 = (.int .i64 x351) ∧ E 6 = (.int .i64 x253) ∧ Row 83 encCred 9 v_a0 l348 R350 ∧ (m_slices_DeleteFunc_Cred_L1 f1 n321 l348 x351 ((IntKind.i64.wrap (x253 + 1)))) = some r) ?_ ?_
        · refine CW_block ?_
          refine CW_seq ?_
          refine CW_region ?_
          refine LV (R_move (v := v_a0) e322) ?_
          refine LV (R_move (v := (.int .i64 x253)) e325) ?_
          obtain ⟨x364, hx365, hm359⟩ := bind_some hm359
          refine LQ (R_indexRow (i := x253) (x0 := x364) Tryz.underlying22 Tryz.sizeOf83 rfl rfl hs250 (idx_nonneg hx365) (idx_get hx365)) (fun p361 hp362 => ?_)
          refine LV (R_load (v := (.agg (encCred x364).toArray)) rfl (load_ixA hST.has (fun p hq => by simp [hq]) hs250 lenCred hp362 (idx_get hx365) Tryz.isAgg83 Tryz.sizeOf83)) ?_
          refine LE (E_alloc hST Tryz.zeroValue83 (fun W367 b366 hST => ?_))
          refine LW_e0 (.inl rfl) rfl (E_store [] (.agg (encCred x364).toArray) ((encCred x364).toArray) hST rfl rfl Tryz.sizeOf83 (oneCred x364) (Nat.le_of_ble_eq_true rfl) rfl (fun W368 hST => ?_))
          refine LW_nil ?_
          refine sq_n ?_
          refine CW_seq ?_
          refine CW_region ?_
          refine LV (R_move (v := v_a1) e323) ?_
          refine LV (R_load (v := (.agg (encCred x364).toArray)) rfl (load_boxA hST.has (.head _) (encCred x364) rfl Tryz.isAgg83 Tryz.sizeOf83)) ?_
          replace hST : ST true (keys (R_a0 ++ [])) w _ _ ((b366, Obj.cells ((encCred x364).toArray : Array Value) 83 (0, 0)) :: (R251 ++ L319)) := hST
          obtain ⟨r369, hr370, hm359⟩ := bind_some hm359
          refine LE (E_cb x364 hST h_a1 (Sub.refl _) rfl (args1 rfl) hr370 (fun W371 hST => ?_))
          refine LV (R_not (b := r369) rfl) ?_
          refine LW_nil ?_
          refine sq_n ?_
          refine CW_if (b := (!r369)) rfl (fun hb372 => ?_) (fun hb372 => ?_)
          · replace hm359 := if_t hb372 hm359
            refine CW_seq ?_
            refine CW_region ?_
            refine LV (R_move (v := v_a0) e322) ?_
            refine LV (R_move (v := (.int .i64 x252)) e324) ?_
            refine LV (R_load (v := (.agg (encCred x364).toArray)) rfl (load_boxA hST.has (.head _) (encCred x364) rfl Tryz.isAgg83 Tryz.sizeOf83)) ?_
            obtain ⟨x376, hx377, hm359⟩ := bind_some hm359
            refine LQ (R_indexRow (i := x252) (x0 := x376) Tryz.underlying22 Tryz.sizeOf83 rfl rfl hs250 (idx_nonneg hx377) (idx_get hx377)) (fun p373 hp374 => ?_)
            refine LW_e0 (.inl rfl) rfl (E_storeRow (u := (.agg (encCred x364).toArray)) (x1 := x364) [_] hST hs250 lenCred oneCred rfl rfl rfl hp374 (idx_get hx377) Tryz.sizeOf83 (fun W378 R379 hST hR380 => ?_))
            refine LW_nil ?_
            refine sq_n ?_
            replace hST : ST true (keys (R_a0 ++ [])) w _ _ ((b366, Obj.cells ((encCred x364).toArray : Array Value) 83 (0, 0)) :: (R379 ++ L319)) := hST
            replace hST : ST true (keys (R_a0 ++ [])) w _ _ (R379 ++ L319) := hST.sublist (List.Sublist.cons _ (List.Sublist.refl _))
            refine CW_region ?_
            refine LV (R_move (v := (.int .i64 x252)) e324) ?_
            refine LV (R_int (k := .i64) (a := x252) (b := 1) (v := (.int .i64 ((IntKind.i64.wrap (x252 + 1))))) rfl rfl rfl) ?_
            refine LV (R_assign (v := (.int .i64 ((IntKind.i64.wrap (x252 + 1))))) rfl) ?_
            refine LW_nil ?_
            refine bq_n ?_
            refine sq_n ?_
            replace hm359 := Option.some.inj hm359; subst hm359
            exact ⟨((l249.set (Int.toNat x252) x364)), R379, ((IntKind.i64.wrap (x252 + 1))), _, (hST.sublist (List.Sublist.refl _)), e322, e323, rfl, e325, hR380, hm360⟩
          · replace hm359 := if_f hb372 hm359
            refine CW_skip ?_
            refine bq_n ?_
            refine sq_n ?_
            replace hm359 := Option.some.inj hm359; subst hm359
            exact ⟨l249, R251, x252, _, (hST.sublist (List.Sublist.cons _ (List.Sublist.refl _))), e322, e323, e324, e325, hs250, hm360⟩
        · rintro E W ⟨l348, R350, x351, L352, hST, e354, e355, e356, e357, hs349, hm353⟩
          refine CW_region ?_
          refine LV (R_move (v := (.int .i64 x253)) e357) ?_
          refine LV (R_int (k := .i64) (a := x253) (b := 1) (v := (.int .i64 ((IntKind.i64.wrap (x253 + 1))))) rfl rfl rfl) ?_
          refine LV (R_assign (v := (.int .i64 ((IntKind.i64.wrap (x253 + 1))))) rfl) ?_
          refine LW_nil ?_
          refine sq_n ?_
          exact ⟨n321, Nat.lt_succ_self _, l348, R350, x351, ((IntKind.i64.wrap (x253 + 1))), _, (hST.sublist (List.Sublist.refl _)), e354, e355, e356, rfl, hs349, hm353⟩
      · replace hm320 := if_f hb326 hm320
        refine CW_exit ?_
        refine sq_e (sq_e (bq_e ?_))
        refine sq_n ?_
        refine CW_seq ?_
        refine CW_region ?_
        refine LV (R_move (v := v_a0) e322) ?_
        refine LV (R_move (v := (.int .i64 x252)) e324) ?_
        obtain ⟨_, hg383, hm320⟩ := bind_some hm320
        refine LQ (R_sliceTail (i := x252) Tryz.underlying22 Tryz.sizeOf83 rfl rfl hs250 (chk_1 hg383) (chk_2 hg383)) (fun v381 hs382 => ?_)
        refine LW_e0 (.inl rfl) rfl (E_clearTail (z := (⟨0, (⟨zS, zS⟩ : Role), zS, (⟨zS, zS⟩ : Role), (⟨zS, zS⟩ : Role), zS⟩ : Cred)) [] hST hs250 lenCred oneCred Tryz.underlying22 Tryz.zeroValue83 hs382 rfl rfl (fun W384 R385 hST hR386 => ?_))
        refine LW_nil ?_
        refine sq_n ?_
        refine CW_seq ?_
        refine CW_region ?_
        refine LV (R_move (v := v_a0) e322) ?_
        refine LV (R_move (v := (.int .i64 x252)) e324) ?_
        obtain ⟨_, hg389, hm320⟩ := bind_some hm320
        refine LQ (R_sliceTo (i := x252) Tryz.underlying22 Tryz.sizeOf83 rfl rfl hR386 lenCred (chk_1 hg389) (chk_2 hg389)) (fun v387 hs388 => ?_)
        refine LV (R_assign (v := v387) rfl) ?_
        refine LW_nil ?_
        refine sq_n ?_
        refine CW_ret ?_
        replace hm320 := Option.some.inj hm320; subst hm320
        refine retQ_1 (v := v387) rfl rfl ?_
        replace hST : ST true (keys (R_a0 ++ [])) w _ _ (R385 ++ L319) := hST
        exact ⟨_, (R385 ++ []), rfl, (ST.backM (L1 := (R385 ++ [])) (by have hh : ST true (keys (R_a0 ++ [])) w _ _ (R385 ++ L319) := hST.perm (List.Perm.refl _); simpa only [List.append_assoc, List.cons_append, List.nil_append] using hh)), v387, R385, rfl, rfl, hs388⟩
theorem ext244 (w : World) (s : ByteArray) (c : Int) : (callFunc 244 [Value.string s, .int .u8 c].toArray).run Tryz.prog w = .ok (.value (.int .i64 (xIndexByte s c))) w := run_indexByteS Tryz.func244 (by kernel_rfl) (by kernel_rfl) (by kernel_rfl) (by kernel_rfl) s c w
theorem w_internal_stringslite_IndexByte (a0 : ByteArray) (a1 : Int) (r : Int) (w : World)  (hm : m_internal_stringslite_IndexByte a0 a1 = some r) :
    Gives true Tryz.prog 215 [(.string a0), (.int .u8 a1)] w (.int .i64 r) := by
  have hST := ST.start (dd := true) w
  unfold m_internal_stringslite_IndexByte at hm
  refine calls_of_CW (n := 8) Tryz.func215 rfl rfl (Nat.le_of_ble_eq_true rfl) ?_
  refine CW_seq ?_
  refine CW_region ?_
  refine LV (R_assign (v := (.int .i64 0)) rfl) ?_
  refine LW_nil ?_
  refine sq_n ?_
  refine CW_seq ?_
  refine CW_region ?_
  refine LV (R_move (v := (.string a0)) rfl) ?_
  refine LV (R_move (v := (.int .u8 a1)) rfl) ?_
  refine LE (E_ext (args := [(.string a0), (.int .u8 a1)]) (v := .int .i64 (xIndexByte a0 a1)) rfl (by exact args2 rfl rfl) (ext244 _ a0 a1) ?_)
  refine LV (R_assign (v := (.int .i64 ((xIndexByte a0 a1)))) rfl) ?_
  refine LW_nil ?_
  refine sq_n ?_
  refine CW_ret ?_
  replace hm := Option.some.inj hm; subst hm
  refine retQ_1 (v := (.int .i64 ((xIndexByte a0 a1)))) rfl rfl ?_
  exact ⟨rfl, hST.ex⟩
theorem w_strings_IndexByte (a0 : ByteArray) (a1 : Int) (r : Int) (w : World)  (hm : m_strings_IndexByte a0 a1 = some r) :
    Gives true Tryz.prog 169 [(.string a0), (.int .u8 a1)] w (.int .i64 r) := by
  have hST := ST.start (dd := true) w
  unfold m_strings_IndexByte at hm
  refine calls_of_CW (n := 8) Tryz.func169 rfl rfl (Nat.le_of_ble_eq_true rfl) ?_
  refine CW_seq ?_
  refine CW_region ?_
  refine LV (R_assign (v := (.int .i64 0)) rfl) ?_
  refine LW_nil ?_
  refine sq_n ?_
  refine CW_seq ?_
  refine CW_region ?_
  refine LV (R_move (v := (.string a0)) rfl) ?_
  refine LV (R_move (v := (.int .u8 a1)) rfl) ?_
  obtain ⟨r1, hr2, hm⟩ := bind_some hm
  refine LE (E_gives (args := [(.string a0), (.int .u8 a1)]) hST rfl Tryz.call215 (by exact args2 rfl rfl) ((w_internal_stringslite_IndexByte a0 a1 _ _  hr2)) (fun W3 hST => ?_))
  refine LV (R_assign (v := (.int .i64 r1)) rfl) ?_
  refine LW_nil ?_
  refine sq_n ?_
  refine CW_ret ?_
  replace hm := Option.some.inj hm; subst hm
  refine retQ_1 (v := (.int .i64 r1)) rfl rfl ?_
  exact ⟨rfl, hST.ex⟩
theorem w_name_only (a0 : ByteArray) (r : Bool) (w : World)  (hm : m_name_only a0 = some r) :
    Gives true Tryz.prog 170 [(.string a0)] w (.bool r) := by
  have hST := ST.start (dd := true) w
  unfold m_name_only at hm
  refine calls_of_CW (n := 16) Tryz.func170 rfl rfl (Nat.le_of_ble_eq_true rfl) ?_
  refine CW_seq ?_
  refine CW_region ?_
  refine LV (R_assign (v := (.bool false)) rfl) ?_
  refine LW_nil ?_
  refine sq_n ?_
  refine CW_seq ?_
  refine CW_seq ?_
  refine CW_region ?_
  refine LV (R_move (v := (.string a0)) rfl) ?_
  obtain ⟨l1, hr2, hm⟩ := bind_some hm
  refine LE (E_bytesOf hST Tryz.underlying9 Tryz.underlying189 Tryz.underlying5 rfl hr2 (fun W3 v4 μ5 hST hle6 hs7 hf8 => ?_))
  refine LV (R_len Tryz.underlying189 rfl hs7) ?_
  refine LV (R_move (v := (.int .i64 0)) rfl) ?_
  refine LW_nil ?_
  refine sq_n ?_
  refine CW_range (fun i E W => ∃  (L63 : List (Nat × Obj)), (E 8 = .int .i64 (i : Nat) ∧ E 7 = .int .i64 (l1.length : Nat)) ∧ ST true NoF w W μ5 L63 ∧ E 6 = v4 ∧ m_name_only_L1 (l1.drop i) = some r) l1.length hs7.len ⟨_, ⟨rfl, rfl⟩, (hST.sublist (List.Sublist.refl _)), rfl, hm⟩ (by decide) (by decide) (by decide) (fun _ _ _ h => by obtain ⟨_, eIN, _⟩ := h; exact eIN) ?_ ?_
  · rintro i41 E W hi47 ⟨L63, ⟨eI, eN⟩, hST, e65, hm64⟩
    obtain ⟨x42, xs43, hx45, hx44, hx46⟩ := drop_cons hi47
    rw [hx45] at hm64
    rw [m_name_only_L1] at hm64
    refine CW_block ?_
    refine CW_seq ?_
    refine CW_region ?_
    refine LQ (R_indexP (enc := (encIk .u8)) (i := (i41 : Int)) (x0 := x42) Tryz.underlying189 Tryz.sizeOf5 e65 eI hs7 (Int.natCast_nonneg _) hx44) (fun p66 hp67 => ?_)
    refine LV (R_load rfl (load_at1 hST.has (y := (.int .u8 x42)) hp67 Tryz.isAgg5)) ?_
    refine LV (R_assign (v := (.int .u8 x42)) rfl) ?_
    refine LW_nil ?_
    refine sq_n ?_
    refine CW_seq ?_
    refine CW_region ?_
    refine LV (R_move (v := (.int .u8 x42)) rfl) ?_
    obtain ⟨r69, hr70, hm64⟩ := bind_some hm64
    refine LE (E_gives (args := [(.string ((⟨#[97, 98, 99, 100, 101, 102, 103, 104, 105, 106, 107, 108, 109, 110, 111, 112, 113, 114, 115, 116, 117, 118, 119, 120, 121, 122, 48, 49, 50, 51, 52, 53, 54, 55, 56, 57, 45]⟩ : ByteArray))), (.int .u8 x42)]) hST rfl Tryz.call169 (by exact args2 rfl rfl) ((w_strings_IndexByte ((⟨#[97, 98, 99, 100, 101, 102, 103, 104, 105, 106, 107, 108, 109, 110, 111, 112, 113, 114, 115, 116, 117, 118, 119, 120, 121, 122, 48, 49, 50, 51, 52, 53, 54, 55, 56, 57, 45]⟩ : ByteArray)) x42 _ _  hr70)) (fun W71 hST => ?_))
    refine LV (R_int (k := .i64) (a := r69) (b := 0) (v := (.bool ((decide (r69 < 0))))) rfl rfl rfl) ?_
    refine LW_nil ?_
    refine sq_n ?_
    refine CW_if (b := (decide (r69 < 0))) rfl (fun hb72 => ?_) (fun hb72 => ?_)
    · replace hm64 := if_t hb72 hm64
      refine CW_seq ?_
      refine CW_region ?_
      refine LV (R_assign (v := (.bool false)) rfl) ?_
      refine LW_nil ?_
      refine sq_n ?_
      refine CW_ret ?_
      refine bq_r (sq_r (bq_r (sq_r ?_)))
      replace hm64 := Option.some.inj hm64; subst hm64
      refine retQ_1 (v := (.bool false)) rfl rfl ?_
      exact ⟨rfl, hST.ex⟩
    · replace hm64 := if_f hb72 hm64
      refine CW_skip ?_
      refine bq_n ?_
      refine sq_n ?_
      exact ⟨eI, _, ⟨rfl, eN⟩, (hST.sublist (List.Sublist.refl _)), e65, (by rw [hx46]; exact hm64)⟩
  · rintro E W ⟨L63, ⟨eI, eN⟩, hST, e65, hm64⟩
    rw [List.drop_length] at hm64
    rw [m_name_only_L1] at hm64
    refine sq_n ?_
    refine CW_seq ?_
    refine CW_region ?_
    refine LV (R_assign (v := (.bool true)) rfl) ?_
    refine LW_nil ?_
    refine sq_n ?_
    refine CW_ret ?_
    replace hm64 := Option.some.inj hm64; subst hm64
    refine retQ_1 (v := (.bool true)) rfl rfl ?_
    exact ⟨rfl, hST.ex⟩
theorem w_name_Right (a0 : ByteArray) (r : Bool) (w : World)  (hm : m_name_Right a0 = some r) :
    Gives true Tryz.prog 134 [(.string a0)] w (.bool r) := by
  have hST := ST.start (dd := true) w
  unfold m_name_Right at hm
  refine calls_of_CW (n := 21) Tryz.func134 rfl rfl (Nat.le_of_ble_eq_true rfl) ?_
  refine CW_seq ?_
  refine CW_region ?_
  refine LV (R_assign (v := (.bool false)) rfl) ?_
  refine LW_nil ?_
  refine sq_n ?_
  refine CW_seq ?_
  refine CW_region ?_
  refine LV (R_move (v := (.string a0)) rfl) ?_
  refine LV (R_lenStr (s := a0) Tryz.underlying9 rfl) ?_
  refine LV (R_int (k := .i64) (a := ((a0.size : Int))) (b := 1) (v := (.bool ((decide (((a0.size : Int)) ≥ 1))))) rfl rfl rfl) ?_
  refine LV (R_move (v := (.bool ((decide (((a0.size : Int)) ≥ 1))))) rfl) ?_
  obtain ⟨s45, hm46, hm47⟩ := bind_some hm
  refine LW_join (J := fun E W => ∃ (x2 : Bool) (L3 : List (Nat × Obj)), ST true NoF w W (hp w) L3 ∧ E 0 = (.string a0) ∧ E 2 = (.bool false) ∧ E 10 = (.bool x2) ∧ (((if x2 then (((idxS a0 0)).bind fun c40 => (((m_strings_IndexByte ((⟨#[97, 98, 99, 100, 101, 102, 103, 104, 105, 106, 107, 108, 109, 110, 111, 112, 113, 114, 115, 116, 117, 118, 119, 120, 121, 122]⟩ : ByteArray)) ((c40.toNat : Int)))).bind fun r42 => some ((decide (r42 ≥ 0))))) else some false) : Option Bool).bind fun x14 => (((if x14 then (((m_name_only a0)).bind fun r33 => some r33) else some false) : Option Bool).bind fun x24 => some x24)) = some r) 4 ?_ (fun key48 => ?_)
  · rintro E W ⟨x2, L3, hST, e5, e6, e7, hm4⟩
    refine LV (R_move (v := (.bool x2)) e7) ?_
    obtain ⟨s36, hm37, hm38⟩ := bind_some hm4
    refine LW_join (J := fun E W => ∃ (x14 : Bool) (L15 : List (Nat × Obj)), ST true NoF w W (hp w) L15 ∧ E 0 = (.string a0) ∧ E 2 = (.bool false) ∧ E 16 = (.bool x14) ∧ (((if x14 then (((m_name_only a0)).bind fun r33 => some r33) else some false) : Option Bool).bind fun x24 => some x24) = some r) 5 ?_ (fun key39 => ?_)
    · rintro E W ⟨x14, L15, hST, e17, e18, e19, hm16⟩
      refine LV (R_move (v := (.bool x14)) e19) ?_
      obtain ⟨s29, hm30, hm31⟩ := bind_some hm16
      refine LW_join (J := fun E W => ∃ (x24 : Bool) (L25 : List (Nat × Obj)), ST true NoF w W (hp w) L25 ∧ E 2 = (.bool false) ∧ E 20 = (.bool x24) ∧ some x24 = some r) 3 ?_ (fun key32 => ?_)
      · rintro E W ⟨x24, L25, hST, e27, e28, hm26⟩
        refine LV (R_assign (v := (.bool x24)) e28) ?_
        refine LW_nil ?_
        refine sq_n ?_
        refine CW_ret ?_
        replace hm26 := Option.some.inj hm26; subst hm26
        refine retQ_1 (v := (.bool x24)) rfl rfl ?_
        exact ⟨rfl, hST.ex⟩
      · rcases bool_cases x14 with hb20 | hb20
        · replace hm30 := if_t hb20 hm30
          refine LW_v (.inr ⟨14, true, 17, rfl, rfl, by decide, (congrArg Value.bool hb20)⟩) rfl (by decide) (R_move (v := (.string a0)) e17) ?_
          obtain ⟨r33, hr34, hm30⟩ := bind_some hm30
          refine LW_e (.inr ⟨14, true, 17, rfl, rfl, by decide, (congrArg Value.bool hb20)⟩) rfl (by decide) (E_gives (args := [(.string a0)]) hST rfl Tryz.call170 (by exact args1 rfl) ((w_name_only a0 _ _  hr34)) (fun W35 hST => ?_))
          refine LV (R_pickT (v := (.bool r33)) (congrArg Value.bool hb20) rfl) ?_
          replace hm30 := Option.some.inj hm30; subst hm30
          exact key32 _ _ ⟨r33, _, (hST.sublist (List.Sublist.refl _)), e18, rfl, hm31⟩
        · replace hm30 := if_f hb20 hm30
          refine LW_no rfl (by decide) rfl rfl (by decide) (congrArg Value.bool hb20) ?_
          refine LW_no rfl (by decide) rfl rfl (by decide) (congrArg Value.bool hb20) ?_
          refine LV (R_pickF (v := (.bool false)) (congrArg Value.bool hb20) rfl) ?_
          replace hm30 := Option.some.inj hm30; subst hm30
          exact key32 _ _ ⟨false, _, (hST.sublist (List.Sublist.refl _)), e18, rfl, hm31⟩
    · rcases bool_cases x2 with hb8 | hb8
      · replace hm37 := if_t hb8 hm37
        refine LW_v (.inr ⟨8, true, 11, rfl, rfl, by decide, (congrArg Value.bool hb8)⟩) rfl (by decide) (R_move (v := (.string a0)) e5) ?_
        obtain ⟨c40, hx41, hm37⟩ := bind_some hm37
        refine LW_v (.inr ⟨8, true, 11, rfl, rfl, by decide, (congrArg Value.bool hb8)⟩) rfl (by decide) (R_indexStr (i := 0) Tryz.underlying9 rfl rfl (idxS_nonneg hx41) (idxS_get hx41)) ?_
        obtain ⟨r42, hr43, hm37⟩ := bind_some hm37
        refine LW_e (.inr ⟨8, true, 11, rfl, rfl, by decide, (congrArg Value.bool hb8)⟩) rfl (by decide) (E_gives (args := [(.string ((⟨#[97, 98, 99, 100, 101, 102, 103, 104, 105, 106, 107, 108, 109, 110, 111, 112, 113, 114, 115, 116, 117, 118, 119, 120, 121, 122]⟩ : ByteArray))), (.int .u8 ((c40.toNat : Int)))]) hST rfl Tryz.call169 (by exact args2 rfl rfl) ((w_strings_IndexByte ((⟨#[97, 98, 99, 100, 101, 102, 103, 104, 105, 106, 107, 108, 109, 110, 111, 112, 113, 114, 115, 116, 117, 118, 119, 120, 121, 122]⟩ : ByteArray)) ((c40.toNat : Int)) _ _  hr43)) (fun W44 hST => ?_))
        refine LW_v (.inr ⟨8, true, 11, rfl, rfl, by decide, (congrArg Value.bool hb8)⟩) rfl (by decide) (R_int (k := .i64) (a := r42) (b := 0) (v := (.bool ((decide (r42 ≥ 0))))) rfl rfl rfl) ?_
        refine LV (R_pickT (v := (.bool ((decide (r42 ≥ 0))))) (congrArg Value.bool hb8) rfl) ?_
        replace hm37 := Option.some.inj hm37; subst hm37
        exact key39 _ _ ⟨((decide (r42 ≥ 0))), _, (hST.sublist (List.Sublist.refl _)), e5, e6, rfl, hm38⟩
      · replace hm37 := if_f hb8 hm37
        refine LW_no rfl (by decide) rfl rfl (by decide) (congrArg Value.bool hb8) ?_
        refine LW_no rfl (by decide) rfl rfl (by decide) (congrArg Value.bool hb8) ?_
        refine LW_no rfl (by decide) rfl rfl (by decide) (congrArg Value.bool hb8) ?_
        refine LW_no rfl (by decide) rfl rfl (by decide) (congrArg Value.bool hb8) ?_
        refine LV (R_pickF (v := (.bool false)) (congrArg Value.bool hb8) rfl) ?_
        replace hm37 := Option.some.inj hm37; subst hm37
        exact key39 _ _ ⟨false, _, (hST.sublist (List.Sublist.refl _)), e5, e6, rfl, hm38⟩
  · rcases bool_cases ((decide (((a0.size : Int)) ≥ 1))) with hb1 | hb1
    · replace hm46 := if_t hb1 hm46
      refine LW_v (.inr ⟨3, true, 6, rfl, rfl, by decide, (congrArg Value.bool hb1)⟩) rfl (by decide) (R_move (v := (.string a0)) rfl) ?_
      refine LW_v (.inr ⟨3, true, 6, rfl, rfl, by decide, (congrArg Value.bool hb1)⟩) rfl (by decide) (R_lenStr (s := a0) Tryz.underlying9 rfl) ?_
      refine LW_v (.inr ⟨3, true, 6, rfl, rfl, by decide, (congrArg Value.bool hb1)⟩) rfl (by decide) (R_int (k := .i64) (a := ((a0.size : Int))) (b := 16) (v := (.bool ((decide (((a0.size : Int)) ≤ 16))))) rfl rfl rfl) ?_
      refine LV (R_pickT (v := (.bool ((decide (((a0.size : Int)) ≤ 16))))) (congrArg Value.bool hb1) rfl) ?_
      replace hm46 := Option.some.inj hm46; subst hm46
      exact key48 _ _ ⟨((decide (((a0.size : Int)) ≤ 16))), _, (hST.sublist (List.Sublist.refl _)), rfl, rfl, rfl, hm47⟩
    · replace hm46 := if_f hb1 hm46
      refine LW_no rfl (by decide) rfl rfl (by decide) (congrArg Value.bool hb1) ?_
      refine LW_no rfl (by decide) rfl rfl (by decide) (congrArg Value.bool hb1) ?_
      refine LW_no rfl (by decide) rfl rfl (by decide) (congrArg Value.bool hb1) ?_
      refine LV (R_pickF (v := (.bool false)) (congrArg Value.bool hb1) rfl) ?_
      replace hm46 := Option.some.inj hm46; subst hm46
      exact key48 _ _ ⟨false, _, (hST.sublist (List.Sublist.refl _)), rfl, rfl, rfl, hm47⟩
theorem w_role_Right (a0 : Role) (r : Bool) (w : World)  (hm : m_role_Right a0 = some r) :
    Gives true Tryz.prog 131 [(.agg (encRole a0).toArray)] w (.bool r) := by
  have hST := ST.start (dd := true) w
  unfold m_role_Right at hm
  refine calls_of_CW (n := 11) Tryz.func131 rfl rfl (Nat.le_of_ble_eq_true rfl) ?_
  refine CW_seq ?_
  refine CW_region ?_
  refine LE (E_box (v := (.agg (encRole a0).toArray)) hST rfl (fun W2 b1 hST => ?_))
  refine LV (R_assign (v := (.bool false)) rfl) ?_
  refine LW_nil ?_
  refine sq_n ?_
  refine CW_seq ?_
  refine CW_region ?_
  refine LV (R_field fa47_0 rfl) ?_
  refine LV (R_load (v := (.string a0.Owner)) rfl (load_box1 hST.has (.head _) rfl Tryz.isAgg9)) ?_
  obtain ⟨r3, hr4, hm⟩ := bind_some hm
  refine LE (E_gives (args := [(.string a0.Owner)]) hST rfl Tryz.call134 (by exact args1 rfl) ((w_name_Right a0.Owner _ _  hr4)) (fun W5 hST => ?_))
  refine LV (R_move (v := (.bool r3)) rfl) ?_
  obtain ⟨s15, hm16, hm17⟩ := bind_some hm
  refine LW_join (J := fun E W => ∃ (x10 : Bool) (L11 : List (Nat × Obj)), ST true NoF w W (hp w) L11 ∧ E 2 = (.bool false) ∧ E 10 = (.bool x10) ∧ some x10 = some r) 4 ?_ (fun key18 => ?_)
  · rintro E W ⟨x10, L11, hST, e13, e14, hm12⟩
    refine LV (R_assign (v := (.bool x10)) e14) ?_
    refine LW_nil ?_
    refine sq_n ?_
    refine CW_ret ?_
    replace hm12 := Option.some.inj hm12; subst hm12
    refine retQ_1 (v := (.bool x10)) rfl rfl ?_
    exact ⟨rfl, hST.ex⟩
  · rcases bool_cases r3 with hb6 | hb6
    · replace hm16 := if_t hb6 hm16
      refine LW_v (.inr ⟨3, true, 6, rfl, rfl, by decide, (congrArg Value.bool hb6)⟩) rfl (by decide) (R_field fa47_1 rfl) ?_
      refine LW_v (.inr ⟨3, true, 6, rfl, rfl, by decide, (congrArg Value.bool hb6)⟩) rfl (by decide) (R_load (v := (.string a0.Word)) rfl (load_box1 hST.has (.head _) rfl Tryz.isAgg9)) ?_
      obtain ⟨r19, hr20, hm16⟩ := bind_some hm16
      refine LW_e (.inr ⟨3, true, 6, rfl, rfl, by decide, (congrArg Value.bool hb6)⟩) rfl (by decide) (E_gives (args := [(.string a0.Word)]) hST rfl Tryz.call134 (by exact args1 rfl) ((w_name_Right a0.Word _ _  hr20)) (fun W21 hST => ?_))
      refine LV (R_pickT (v := (.bool r19)) (congrArg Value.bool hb6) rfl) ?_
      replace hm16 := Option.some.inj hm16; subst hm16
      exact key18 _ _ ⟨r19, _, (hST.sublist (List.Sublist.cons _ (List.Sublist.refl _))), rfl, rfl, hm17⟩
    · replace hm16 := if_f hb6 hm16
      refine LW_no rfl (by decide) rfl rfl (by decide) (congrArg Value.bool hb6) ?_
      refine LW_no rfl (by decide) rfl rfl (by decide) (congrArg Value.bool hb6) ?_
      refine LW_no rfl (by decide) rfl rfl (by decide) (congrArg Value.bool hb6) ?_
      refine LV (R_pickF (v := (.bool false)) (congrArg Value.bool hb6) rfl) ?_
      replace hm16 := Option.some.inj hm16; subst hm16
      exact key18 _ _ ⟨false, _, (hST.sublist (List.Sublist.cons _ (List.Sublist.refl _))), rfl, rfl, hm17⟩
theorem ext184 (w : World) (a b : ByteArray) : (callFunc 184 [Value.string a, .string b].toArray).run Tryz.prog w = .ok (.value (.int .i64 (xCompareS a b))) w := run_cmpS Tryz.func184 (by kernel_rfl) (by kernel_rfl) (by kernel_rfl) (by kernel_rfl) a b w
theorem w_internal_bytealg_CompareString (a0 : ByteArray) (a1 : ByteArray) (r : Int) (w : World)  (hm : m_internal_bytealg_CompareString a0 a1 = some r) :
    Gives true Tryz.prog 142 [(.string a0), (.string a1)] w (.int .i64 r) := by
  have hST := ST.start (dd := true) w
  unfold m_internal_bytealg_CompareString at hm
  refine calls_of_CW (n := 8) Tryz.func142 rfl rfl (Nat.le_of_ble_eq_true rfl) ?_
  refine CW_seq ?_
  refine CW_region ?_
  refine LV (R_assign (v := (.int .i64 0)) rfl) ?_
  refine LW_nil ?_
  refine sq_n ?_
  refine CW_seq ?_
  refine CW_region ?_
  refine LV (R_move (v := (.string a0)) rfl) ?_
  refine LV (R_move (v := (.string a1)) rfl) ?_
  refine LE (E_ext (args := [(.string a0), (.string a1)]) (v := .int .i64 (xCompareS a0 a1)) rfl (by exact args2 rfl rfl) (ext184 _ a0 a1) ?_)
  refine LV (R_assign (v := (.int .i64 ((xCompareS a0 a1)))) rfl) ?_
  refine LW_nil ?_
  refine sq_n ?_
  refine CW_ret ?_
  replace hm := Option.some.inj hm; subst hm
  refine retQ_1 (v := (.int .i64 ((xCompareS a0 a1)))) rfl rfl ?_
  exact ⟨rfl, hST.ex⟩
theorem w_strings_Compare (a0 : ByteArray) (a1 : ByteArray) (r : Int) (w : World)  (hm : m_strings_Compare a0 a1 = some r) :
    Gives true Tryz.prog 95 [(.string a0), (.string a1)] w (.int .i64 r) := by
  have hST := ST.start (dd := true) w
  unfold m_strings_Compare at hm
  refine calls_of_CW (n := 8) Tryz.func95 rfl rfl (Nat.le_of_ble_eq_true rfl) ?_
  refine CW_seq ?_
  refine CW_region ?_
  refine LV (R_assign (v := (.int .i64 0)) rfl) ?_
  refine LW_nil ?_
  refine sq_n ?_
  refine CW_seq ?_
  refine CW_region ?_
  refine LV (R_move (v := (.string a0)) rfl) ?_
  refine LV (R_move (v := (.string a1)) rfl) ?_
  obtain ⟨r1, hr2, hm⟩ := bind_some hm
  refine LE (E_gives (args := [(.string a0), (.string a1)]) hST rfl Tryz.call142 (by exact args2 rfl rfl) ((w_internal_bytealg_CompareString a0 a1 _ _  hr2)) (fun W3 hST => ?_))
  refine LV (R_assign (v := (.int .i64 r1)) rfl) ?_
  refine LW_nil ?_
  refine sq_n ?_
  refine CW_ret ?_
  replace hm := Option.some.inj hm; subst hm
  refine retQ_1 (v := (.int .i64 r1)) rfl rfl ?_
  exact ⟨rfl, hST.ex⟩
theorem w_cmp_Or_int (v_a0 : Value) (a0 : List Int) (r : Int) (w : World) (h_a0 : Sl (Pl (encIk .i64)) 1 (hp w) v_a0 a0) (hm : m_cmp_Or_int a0 = some r) :
    Gives true Tryz.prog 93 [v_a0] w (.int .i64 r) := by
  have hST := ST.start (dd := true) w
  unfold m_cmp_Or_int at hm
  refine calls_of_CW (n := 18) Tryz.func93 rfl rfl (Nat.le_of_ble_eq_true rfl) ?_
  refine CW_seq ?_
  refine CW_region ?_
  refine LV (R_assign (v := (.int .i64 0)) rfl) ?_
  refine LW_nil ?_
  refine sq_n ?_
  refine CW_seq ?_
  refine CW_region ?_
  refine LV (R_assign (v := (.int .i64 0)) rfl) ?_
  refine LW_nil ?_
  refine sq_n ?_
  refine CW_seq ?_
  refine CW_seq ?_
  refine CW_region ?_
  refine LV (R_move (v := v_a0) rfl) ?_
  refine LV (R_len Tryz.underlying173 rfl h_a0) ?_
  refine LV (R_move (v := (.int .i64 0)) rfl) ?_
  refine LW_nil ?_
  refine sq_n ?_
  refine CW_range (fun i E W => ∃  (L43 : List (Nat × Obj)), (E 8 = .int .i64 (i : Nat) ∧ E 7 = .int .i64 (a0.length : Nat)) ∧ ST true NoF w W (hp w) L43 ∧ E 3 = (.int .i64 0) ∧ E 6 = v_a0 ∧ m_cmp_Or_int_L1 (a0.drop i) = some r) a0.length h_a0.len ⟨_, ⟨rfl, rfl⟩, (hST.sublist (List.Sublist.refl _)), rfl, rfl, hm⟩ (by decide) (by decide) (by decide) (fun _ _ _ h => by obtain ⟨_, eIN, _⟩ := h; exact eIN) ?_ ?_
  · rintro i26 E W hi32 ⟨L43, ⟨eI, eN⟩, hST, e45, e46, hm44⟩
    obtain ⟨x27, xs28, hx30, hx29, hx31⟩ := drop_cons hi32
    rw [hx30] at hm44
    rw [m_cmp_Or_int_L1] at hm44
    refine CW_block ?_
    refine CW_seq ?_
    refine CW_region ?_
    refine LQ (R_indexP (enc := (encIk .i64)) (i := (i26 : Int)) (x0 := x27) Tryz.underlying173 Tryz.sizeOf3 e46 eI h_a0 (Int.natCast_nonneg _) hx29) (fun p47 hp48 => ?_)
    refine LV (R_load rfl (load_at1 hST.has (y := (.int .i64 x27)) hp48 Tryz.isAgg3)) ?_
    refine LV (R_assign (v := (.int .i64 x27)) rfl) ?_
    refine LW_nil ?_
    refine sq_n ?_
    refine CW_seq ?_
    refine CW_region ?_
    refine LV (R_move (v := (.int .i64 x27)) rfl) ?_
    refine LV (R_move (v := (.int .i64 0)) e45) ?_
    refine LV (R_int (k := .i64) (a := x27) (b := 0) (v := (.bool ((x27 != 0)))) rfl rfl rfl) ?_
    refine LW_nil ?_
    refine sq_n ?_
    refine CW_if (b := (x27 != 0)) rfl (fun hb50 => ?_) (fun hb50 => ?_)
    · replace hm44 := if_t hb50 hm44
      refine CW_seq ?_
      refine CW_region ?_
      refine LV (R_move (v := (.int .i64 x27)) rfl) ?_
      refine LV (R_assign (v := (.int .i64 x27)) rfl) ?_
      refine LW_nil ?_
      refine sq_n ?_
      refine CW_ret ?_
      refine bq_r (sq_r (bq_r (sq_r ?_)))
      replace hm44 := Option.some.inj hm44; subst hm44
      refine retQ_1 (v := (.int .i64 x27)) rfl rfl ?_
      exact ⟨rfl, hST.ex⟩
    · replace hm44 := if_f hb50 hm44
      refine CW_skip ?_
      refine bq_n ?_
      refine sq_n ?_
      exact ⟨eI, _, ⟨rfl, eN⟩, (hST.sublist (List.Sublist.refl _)), e45, e46, (by rw [hx31]; exact hm44)⟩
  · rintro E W ⟨L43, ⟨eI, eN⟩, hST, e45, e46, hm44⟩
    rw [List.drop_length] at hm44
    rw [m_cmp_Or_int_L1] at hm44
    refine sq_n ?_
    refine CW_seq ?_
    refine CW_region ?_
    refine LV (R_move (v := (.int .i64 0)) e45) ?_
    refine LV (R_assign (v := (.int .i64 0)) rfl) ?_
    refine LW_nil ?_
    refine sq_n ?_
    refine CW_ret ?_
    replace hm44 := Option.some.inj hm44; subst hm44
    refine retQ_1 (v := (.int .i64 0)) rfl rfl ?_
    exact ⟨rfl, hST.ex⟩
theorem w_role_Compare (a0 : Role) (a1 : Role) (r : Int) (w : World)  (hm : m_role_Compare a0 a1 = some r) :
    Gives true Tryz.prog 94 [(.agg (encRole a0).toArray), (.agg (encRole a1).toArray)] w (.int .i64 r) := by
  have hST := ST.start (dd := true) w
  unfold m_role_Compare at hm
  refine calls_of_CW (n := 17) Tryz.func94 rfl rfl (Nat.le_of_ble_eq_true rfl) ?_
  refine CW_seq ?_
  refine CW_region ?_
  refine LE (E_box (v := (.agg (encRole a0).toArray)) hST rfl (fun W2 b1 hST => ?_))
  refine LE (E_box (v := (.agg (encRole a1).toArray)) hST rfl (fun W4 b3 hST => ?_))
  refine LV (R_assign (v := (.int .i64 0)) rfl) ?_
  refine LW_nil ?_
  refine sq_n ?_
  refine CW_seq ?_
  refine PX_start (fun l W => Has (hp w) ((b3, Obj.cells ((encRole a1).toArray : Array Value) 47 (0, 0)) :: ((b1, Obj.cells ((encRole a0).toArray : Array Value) 47 (0, 0)) :: [])) W) Tryz_mixed ?_
  replace hST := hST.drew
  have hS0 : Has (hp w) ((b3, Obj.cells ((encRole a1).toArray : Array Value) 47 (0, 0)) :: ((b1, Obj.cells ((encRole a0).toArray : Array Value) 47 (0, 0)) :: [])) _ := hST.has.sub (Sub.refl _) (fun p hq => ((List.mem_cons.1 hq).elim (fun hq => by rw [hq]; exact (.head _)) (fun hq => ((List.mem_cons.1 hq).elim (fun hq => by rw [hq]; exact (.tail _ (.head _))) (fun hq => (absurd hq List.not_mem_nil))))))
  refine PV 0 rfl hS0 (R_field fa47_0 rfl) ?_
  refine PX_v 1 rfl (by kernel_rfl) (.inl rfl) rfl (by decide) (fun _ _ h => h) hS0 (fun l W hpd hs => have hS := hs; R_load (v := (.string a0.Owner)) rfl (load_box1 hS (.tail _ (.head _)) rfl Tryz.isAgg9)) ?_
  refine PV 2 rfl hS0 (R_field fa47_0 rfl) ?_
  refine PX_v 3 rfl (by kernel_rfl) (.inl rfl) rfl (by decide) (fun _ _ h => h) hS0 (fun l W hpd hs => have hS := hs; R_load (v := (.string a1.Owner)) rfl (load_box1 hS (.head _) rfl Tryz.isAgg9)) ?_
  refine PV 5 rfl hS0 (R_field fa47_1 rfl) ?_
  refine PX_v 6 rfl (by kernel_rfl) (.inl rfl) rfl (by decide) (fun _ _ h => h) hS0 (fun l W hpd hs => have hS := hs; R_load (v := (.string a0.Word)) rfl (load_box1 hS (.tail _ (.head _)) rfl Tryz.isAgg9)) ?_
  refine PV 7 rfl hS0 (R_field fa47_1 rfl) ?_
  refine PX_v 8 rfl (by kernel_rfl) (.inl rfl) rfl (by decide) (fun _ _ h => h) hS0 (fun l W hpd hs => have hS := hs; R_load (v := (.string a1.Word)) rfl (load_box1 hS (.head _) rfl Tryz.isAgg9)) ?_
  obtain ⟨r27, hr28, hm⟩ := bind_some hm
  refine PX_e 4 rfl (by kernel_rfl) (.inl rfl) rfl (by decide) (E_gives (args := [(.string a0.Owner), (.string a1.Owner)]) hST rfl Tryz.call95 (by exact args2 rfl rfl) ((w_strings_Compare a0.Owner a1.Owner _ _  hr28)) (fun W29 hST => ?_))
  have hS0 : Has (hp w) ((b3, Obj.cells ((encRole a1).toArray : Array Value) 47 (0, 0)) :: ((b1, Obj.cells ((encRole a0).toArray : Array Value) 47 (0, 0)) :: [])) _ := hST.has.sub (Sub.refl _) (fun p hq => ((List.mem_cons.1 hq).elim (fun hq => by rw [hq]; exact (.head _)) (fun hq => ((List.mem_cons.1 hq).elim (fun hq => by rw [hq]; exact (.tail _ (.head _))) (fun hq => (absurd hq List.not_mem_nil))))))
  refine ⟨hS0, ?_⟩
  obtain ⟨r30, hr31, hm⟩ := bind_some hm
  refine PX_e 9 rfl (by kernel_rfl) (.inl rfl) rfl (by decide) (E_gives (args := [(.string a0.Word), (.string a1.Word)]) hST rfl Tryz.call95 (by exact args2 rfl rfl) ((w_strings_Compare a0.Word a1.Word _ _  hr31)) (fun W32 hST => ?_))
  have hS0 : Has (hp w) ((b3, Obj.cells ((encRole a1).toArray : Array Value) 47 (0, 0)) :: ((b1, Obj.cells ((encRole a0).toArray : Array Value) 47 (0, 0)) :: [])) _ := hST.has.sub (Sub.refl _) (fun p hq => ((List.mem_cons.1 hq).elim (fun hq => by rw [hq]; exact (.head _)) (fun hq => ((List.mem_cons.1 hq).elim (fun hq => by rw [hq]; exact (.tail _ (.head _))) (fun hq => (absurd hq List.not_mem_nil))))))
  refine ⟨hS0, ?_⟩
  refine PX_e 10 rfl (by kernel_rfl) (.inl rfl) rfl (by decide) (E_buildSlice (qs := #[(0, (.int .i64 r27)), (1, (.int .i64 r30))]) (cs := #[(.int .i64 r27), (.int .i64 r30)]) hST (parts2 rfl rfl) (run_lit [(.int .i64 r27), (.int .i64 r30)] Tryz.underlying173 Tryz.sizeOf3 Tryz.zeroValue3 (by decide) rfl (by intro v hv; simp only [List.mem_cons, List.not_mem_nil, or_false] at hv; rcases hv with rfl | rfl <;> rfl) rfl rfl) (fun W34 b33 hST => ?_))
  have hS0 : Has (hp w) ((b3, Obj.cells ((encRole a1).toArray : Array Value) 47 (0, 0)) :: ((b1, Obj.cells ((encRole a0).toArray : Array Value) 47 (0, 0)) :: [])) _ := hST.has.sub (Sub.refl _) (fun p hq => ((List.mem_cons.1 hq).elim (fun hq => by rw [hq]; exact (.tail _ (.head _))) (fun hq => ((List.mem_cons.1 hq).elim (fun hq => by rw [hq]; exact (.tail _ (.tail _ (.head _)))) (fun hq => (absurd hq List.not_mem_nil))))))
  refine ⟨hS0, ?_⟩
  obtain ⟨r35, hr36, hm⟩ := bind_some hm
  refine PX_e 11 rfl (by kernel_rfl) (.inl rfl) rfl (by decide) (E_gives (args := [(.slice (some ⟨b33, 0, none⟩) 2 2)]) hST rfl Tryz.call93 (by exact args1 rfl) ((w_cmp_Or_int (.slice (some ⟨b33, 0, none⟩) 2 2) ([r27, r30]) _ _ (Sl.lit (enc := (encIk .i64)) (l := [r27, r30]) (fun _ => rfl) rfl (Nat.le_of_ble_eq_true rfl) rfl (hST.at_ (.head _))) hr36)) (fun W37 hST => ?_))
  have hS0 : Has (hp w) ((b3, Obj.cells ((encRole a1).toArray : Array Value) 47 (0, 0)) :: ((b1, Obj.cells ((encRole a0).toArray : Array Value) 47 (0, 0)) :: [])) _ := hST.has.sub (Sub.refl _) (fun p hq => ((List.mem_cons.1 hq).elim (fun hq => by rw [hq]; exact (.tail _ (.head _))) (fun hq => ((List.mem_cons.1 hq).elim (fun hq => by rw [hq]; exact (.tail _ (.tail _ (.head _)))) (fun hq => (absurd hq List.not_mem_nil))))))
  refine ⟨hS0, ?_⟩
  refine PV 12 rfl hS0 (R_assign (v := (.int .i64 r35)) rfl) ?_
  refine PX_done (by kernel_rfl) ?_
  refine sq_n ?_
  replace hST : ST true NoF w _ _ [] := hST.sublist (List.Sublist.cons _ (List.Sublist.cons _ (List.Sublist.cons _ (List.Sublist.refl _))))
  refine CW_ret ?_
  replace hm := Option.some.inj hm; subst hm
  refine retQ_1 (v := (.int .i64 r35)) rfl rfl ?_
  exact ⟨rfl, hST.ex⟩
theorem w_cred_Right (a0 : Cred) (r : Bool) (w : World)  (hm : m_cred_Right a0 = some r) :
    Gives true Tryz.prog 98 [(.agg (encCred a0).toArray)] w (.bool r) := by
  have hST := ST.start (dd := true) w
  unfold m_cred_Right at hm
  refine calls_of_CW (n := 98) Tryz.func98 rfl rfl (Nat.le_of_ble_eq_true rfl) ?_
  refine CW_seq ?_
  refine CW_region ?_
  refine LE (E_box (v := (.agg (encCred a0).toArray)) hST rfl (fun W2 b1 hST => ?_))
  refine LV (R_assign (v := (.bool false)) rfl) ?_
  refine LW_nil ?_
  refine sq_n ?_
  refine CW_seq ?_
  refine CW_region ?_
  refine LV (R_field fa83_0 rfl) ?_
  refine LV (R_load (v := (.int .i64 a0.Kind)) rfl (load_box1 hST.has (.head _) rfl Tryz.isAgg3)) ?_
  refine LV (R_field fa83_1 rfl) ?_
  refine LV (R_load (v := (.agg (encRole a0.Head).toArray)) rfl (load_boxA hST.has (.head _) (encRole a0.Head) rfl Tryz.isAgg47 Tryz.sizeOf47)) ?_
  refine LV (R_build (qs := #[(0, (.int .i64 a0.Kind)), (1, (.agg (encRole a0.Head).toArray))]) (v := (.agg (encCred ((⟨a0.Kind, a0.Head, zS, (⟨zS, zS⟩ : Role), (⟨zS, zS⟩ : Role), zS⟩ : Cred))).toArray)) (parts2 rfl rfl) (run_build Tryz.zeroValue83 Tryz.underlying83 (pl83 _ Tryz.underlying83) (by kernel_rfl))) ?_
  refine LE (E_alloc hST Tryz.zeroValue83 (fun W4 b3 hST => ?_))
  refine LW_e0 (.inl rfl) rfl (E_store [] (.agg (encCred ((⟨a0.Kind, a0.Head, zS, (⟨zS, zS⟩ : Role), (⟨zS, zS⟩ : Role), zS⟩ : Cred))).toArray) ((encCred ((⟨a0.Kind, a0.Head, zS, (⟨zS, zS⟩ : Role), (⟨zS, zS⟩ : Role), zS⟩ : Cred))).toArray) hST rfl rfl Tryz.sizeOf83 (oneCred ((⟨a0.Kind, a0.Head, zS, (⟨zS, zS⟩ : Role), (⟨zS, zS⟩ : Role), zS⟩ : Cred))) (Nat.le_of_ble_eq_true rfl) rfl (fun W5 hST => ?_))
  refine LW_nil ?_
  refine sq_n ?_
  refine CW_seq ?_
  refine CW_region ?_
  refine LV (R_field fa83_1 rfl) ?_
  refine LV (R_load (v := (.agg (encRole a0.Head).toArray)) rfl (load_boxA hST.has (.tail _ (.head _)) (encRole a0.Head) rfl Tryz.isAgg47 Tryz.sizeOf47)) ?_
  replace hST : ST true NoF w _ _ ((b3, Obj.cells ((encCred ((⟨a0.Kind, a0.Head, zS, (⟨zS, zS⟩ : Role), (⟨zS, zS⟩ : Role), zS⟩ : Cred))).toArray : Array Value) 83 (0, 0)) :: ((b1, Obj.cells ((encCred a0).toArray : Array Value) 83 (0, 0)) :: [])) := hST
  obtain ⟨r6, hr7, hm⟩ := bind_some hm
  refine LE (E_gives (args := [(.agg (encRole a0.Head).toArray)]) hST rfl Tryz.call131 (by exact args1 rfl) ((w_role_Right a0.Head _ _  hr7)) (fun W8 hST => ?_))
  refine LV (R_assign (v := (.bool r6)) rfl) ?_
  refine LW_nil ?_
  refine sq_n ?_
  refine CW_seq ?_
  obtain ⟨s267, hm268, hm269⟩ := bind_some hm
  refine CW_cut (fun E W => ∃ (x251 : Bool) (x252 : Cred) (L253 : List (Nat × Obj)), ST true NoF w W (hp w) ((b3, Obj.cells ((encCred x252).toArray : Array Value) 83 (0, 0)) :: ((b1, Obj.cells ((encCred a0).toArray : Array Value) 83 (0, 0)) :: L253)) ∧ E 1 = (.pointer (some ⟨b1, 0, none⟩)) ∧ E 3 = (.pointer (some ⟨b3, 0, none⟩)) ∧ E 4 = (.bool x251) ∧ (((if x251 then some ((beqCred x252 a0)) else some false) : Option Bool).bind fun x259 => some x259) = some r) ?_ ?_
  · refine CW_seq ?_
    refine CW_region ?_
    refine LV (R_field fa83_0 rfl) ?_
    refine LV (R_load (v := (.int .i64 a0.Kind)) rfl (load_box1 hST.has (.tail _ (.head _)) rfl Tryz.isAgg3)) ?_
    refine LW_nil ?_
    refine sq_n ?_
    refine CW_block ?_
    refine CW_seq ?_
    refine CW_region ?_
    refine LV (R_int (k := .i64) (a := a0.Kind) (b := 1) (v := (.bool ((a0.Kind == 1)))) rfl rfl rfl) ?_
    refine LV (R_assign (v := (.bool ((a0.Kind == 1)))) rfl) ?_
    refine LW_nil ?_
    refine sq_n ?_
    refine CW_if (b := (a0.Kind == 1)) rfl (fun hb270 => ?_) (fun hb270 => ?_)
    · replace hm268 := if_t hb270 hm268
      refine PX_start (fun l W => Has (hp w) ((b1, Obj.cells ((encCred a0).toArray : Array Value) 83 (0, 0)) :: []) W) Tryz_mixed ?_
      replace hST := hST.drew
      have hS0 : Has (hp w) ((b1, Obj.cells ((encCred a0).toArray : Array Value) 83 (0, 0)) :: []) _ := hST.has.sub (Sub.refl _) (fun p hq => ((List.mem_cons.1 hq).elim (fun hq => by rw [hq]; exact (.tail _ (.head _))) (fun hq => (absurd hq List.not_mem_nil))))
      refine PV 0 rfl hS0 (R_field fa83_2 rfl) ?_
      refine PX_v 1 rfl (by kernel_rfl) (.inl rfl) rfl (by decide) (fun _ _ h => h) hS0 (fun l W hpd hs => have hS := hs; R_load (v := (.string a0.Who)) rfl (load_box1 hS (.head _) rfl Tryz.isAgg9)) ?_
      refine PV 2 rfl hS0 (R_move (v := (.bool r6)) rfl) ?_
      refine PV 3 rfl hS0 (R_move (v := (.bool r6)) rfl) ?_
      refine PV 8 rfl hS0 (R_field fa83_2 rfl) ?_
      obtain ⟨s326, hm327, hm328⟩ := bind_some hm268
      refine PX_join (J := fun E W => ∃ (x316 : Bool) (L317 : List (Nat × Obj)), ST true NoF w W (hp w) ((b3, Obj.cells ((encCred ((⟨a0.Kind, a0.Head, zS, (⟨zS, zS⟩ : Role), (⟨zS, zS⟩ : Role), zS⟩ : Cred))).toArray : Array Value) 83 (0, 0)) :: ((b1, Obj.cells ((encCred a0).toArray : Array Value) 83 (0, 0)) :: L317)) ∧ E 1 = (.pointer (some ⟨b1, 0, none⟩)) ∧ E 3 = (.pointer (some ⟨b3, 0, none⟩)) ∧ E 4 = (.bool r6) ∧ E 18 = (.string a0.Who) ∧ E 24 = (.bool x316) ∧ E 25 = (.pointer (some ⟨b3, 3, none⟩)) ∧ some (Sum.inr (x316, ((⟨a0.Kind, a0.Head, a0.Who, (⟨zS, zS⟩ : Role), (⟨zS, zS⟩ : Role), zS⟩ : Cred)))) = some s267) #[true, true, true, true, true, true, true, true, true, false, false] 2 ?_ (fun key329 => ?_)
      · rintro E W ⟨x316, L317, hST, e319, e320, e321, e322, e323, e324, hm318⟩
        have hS0 : Has (hp w) ((b1, Obj.cells ((encCred a0).toArray : Array Value) 83 (0, 0)) :: []) _ := hST.has.sub (Sub.refl _) (fun p hq => ((List.mem_cons.1 hq).elim (fun hq => by rw [hq]; exact (.tail _ (.head _))) (fun hq => (absurd hq List.not_mem_nil))))
        refine PX_e0 9 rfl (by kernel_rfl) (.inl rfl) rfl (E_store [] (.string a0.Who) ((encCred ((⟨a0.Kind, a0.Head, a0.Who, (⟨zS, zS⟩ : Role), (⟨zS, zS⟩ : Role), zS⟩ : Cred))).toArray) hST e324 e322 Tryz.sizeOf9 (oneS a0.Who) (Nat.le_of_ble_eq_true rfl) rfl (fun W325 hST => ?_))
        replace hST : ST true NoF w _ _ ((b3, Obj.cells ((encCred ((⟨a0.Kind, a0.Head, a0.Who, (⟨zS, zS⟩ : Role), (⟨zS, zS⟩ : Role), zS⟩ : Cred))).toArray : Array Value) 83 (0, 0)) :: ((b1, Obj.cells ((encCred a0).toArray : Array Value) 83 (0, 0)) :: L317)) := hST
        have hS0 : Has (hp w) ((b1, Obj.cells ((encCred a0).toArray : Array Value) 83 (0, 0)) :: []) _ := hST.has.sub (Sub.refl _) (fun p hq => ((List.mem_cons.1 hq).elim (fun hq => by rw [hq]; exact (.tail _ (.head _))) (fun hq => (absurd hq List.not_mem_nil))))
        refine ⟨hS0, ?_⟩
        refine PV 10 rfl hS0 (R_assign (v := (.bool x316)) e323) ?_
        refine PX_done (by kernel_rfl) ?_
        refine bq_n ?_
        refine sq_n ?_
        replace hm318 := Option.some.inj hm318; subst hm318
        exact ⟨x316, ((⟨a0.Kind, a0.Head, a0.Who, (⟨zS, zS⟩ : Role), (⟨zS, zS⟩ : Role), zS⟩ : Cred)), _, (hST.sublist (List.Sublist.refl _)), e319, e320, rfl, hm269⟩
      · rcases bool_cases r6 with hb312 | hb312
        · replace hm327 := if_t hb312 hm327
          refine PX_v 4 rfl (by kernel_rfl) (.inr ⟨3, true, 20, rfl, rfl, by decide, (congrArg Value.bool hb312)⟩) rfl (by decide) (fun _ _ h => h) hS0 (fun _ _ _ _ => R_field fa83_2 rfl) ?_
          refine PX_v 5 rfl (by kernel_rfl) (.inr ⟨3, true, 20, rfl, rfl, by decide, (congrArg Value.bool hb312)⟩) rfl (by decide) (fun _ _ h => h) hS0 (fun l W hpd hs => have hS := hs; R_load (v := (.string a0.Who)) rfl (load_box1 hS (.head _) rfl Tryz.isAgg9)) ?_
          obtain ⟨r330, hr331, hm327⟩ := bind_some hm327
          refine PX_e 6 rfl (by kernel_rfl) (.inr ⟨3, true, 20, rfl, rfl, by decide, (congrArg Value.bool hb312)⟩) rfl (by decide) (E_gives (args := [(.string a0.Who)]) hST rfl Tryz.call134 (by exact args1 rfl) ((w_name_Right a0.Who _ _  hr331)) (fun W332 hST => ?_))
          have hS0 : Has (hp w) ((b1, Obj.cells ((encCred a0).toArray : Array Value) 83 (0, 0)) :: []) _ := hST.has.sub (Sub.refl _) (fun p hq => ((List.mem_cons.1 hq).elim (fun hq => by rw [hq]; exact (.tail _ (.head _))) (fun hq => (absurd hq List.not_mem_nil))))
          refine ⟨hS0, ?_⟩
          refine PV 7 rfl hS0 (R_pickT (v := (.bool r330)) (congrArg Value.bool hb312) rfl) ?_
          replace hm327 := Option.some.inj hm327; subst hm327
          refine PX_at (by kernel_rfl) (key329 _ _ ⟨r330, _, (hST.sublist (List.Sublist.refl _)), rfl, rfl, rfl, rfl, rfl, rfl, hm328⟩)
        · replace hm327 := if_f hb312 hm327
          refine PX_no 4 rfl (by kernel_rfl) rfl rfl (by decide) (congrArg Value.bool hb312) rfl (by decide) (fun _ _ h => h) hS0 ?_
          refine PX_no 5 rfl (by kernel_rfl) rfl rfl (by decide) (congrArg Value.bool hb312) rfl (by decide) (fun _ _ h => h) hS0 ?_
          refine PX_no 6 rfl (by kernel_rfl) rfl rfl (by decide) (congrArg Value.bool hb312) rfl (by decide) (fun _ _ h => h) hS0 ?_
          refine PV 7 rfl hS0 (R_pickF (v := (.bool false)) (congrArg Value.bool hb312) rfl) ?_
          replace hm327 := Option.some.inj hm327; subst hm327
          refine PX_at (by kernel_rfl) (key329 _ _ ⟨false, _, (hST.sublist (List.Sublist.refl _)), rfl, rfl, rfl, rfl, rfl, rfl, hm328⟩)
    · replace hm268 := if_f hb270 hm268
      refine CW_seq ?_
      refine CW_region ?_
      refine LV (R_int (k := .i64) (a := a0.Kind) (b := 2) (v := (.bool ((a0.Kind == 2)))) rfl rfl rfl) ?_
      refine LV (R_assign (v := (.bool ((a0.Kind == 2)))) rfl) ?_
      refine LW_nil ?_
      refine sq_n ?_
      refine CW_if (b := (a0.Kind == 2)) rfl (fun hb333 => ?_) (fun hb333 => ?_)
      · replace hm268 := if_t hb333 hm268
        refine PX_start (fun l W => Has (hp w) ((b1, Obj.cells ((encCred a0).toArray : Array Value) 83 (0, 0)) :: []) W) Tryz_mixed ?_
        replace hST := hST.drew
        have hS0 : Has (hp w) ((b1, Obj.cells ((encCred a0).toArray : Array Value) 83 (0, 0)) :: []) _ := hST.has.sub (Sub.refl _) (fun p hq => ((List.mem_cons.1 hq).elim (fun hq => by rw [hq]; exact (.tail _ (.head _))) (fun hq => (absurd hq List.not_mem_nil))))
        refine PV 0 rfl hS0 (R_field fa83_3 rfl) ?_
        refine PX_v 1 rfl (by kernel_rfl) (.inl rfl) rfl (by decide) (fun _ _ h => h) hS0 (fun l W hpd hs => have hS := hs; R_load (v := (.agg (encRole a0.B).toArray)) rfl (load_boxA hS (.head _) (encRole a0.B) rfl Tryz.isAgg47 Tryz.sizeOf47)) ?_
        refine PV 2 rfl hS0 (R_move (v := (.bool r6)) rfl) ?_
        refine PV 3 rfl hS0 (R_move (v := (.bool r6)) rfl) ?_
        refine PV 8 rfl hS0 (R_field fa83_3 rfl) ?_
        obtain ⟨s389, hm390, hm391⟩ := bind_some hm268
        refine PX_join (J := fun E W => ∃ (x379 : Bool) (L380 : List (Nat × Obj)), ST true NoF w W (hp w) ((b3, Obj.cells ((encCred ((⟨a0.Kind, a0.Head, zS, (⟨zS, zS⟩ : Role), (⟨zS, zS⟩ : Role), zS⟩ : Cred))).toArray : Array Value) 83 (0, 0)) :: ((b1, Obj.cells ((encCred a0).toArray : Array Value) 83 (0, 0)) :: L380)) ∧ E 1 = (.pointer (some ⟨b1, 0, none⟩)) ∧ E 3 = (.pointer (some ⟨b3, 0, none⟩)) ∧ E 4 = (.bool r6) ∧ E 29 = (.agg (encRole a0.B).toArray) ∧ E 35 = (.bool x379) ∧ E 36 = (.pointer (some ⟨b3, 4, none⟩)) ∧ some (Sum.inr (x379, ((⟨a0.Kind, a0.Head, zS, a0.B, (⟨zS, zS⟩ : Role), zS⟩ : Cred)))) = some s267) #[true, true, true, true, true, true, true, true, true, false, false] 2 ?_ (fun key392 => ?_)
        · rintro E W ⟨x379, L380, hST, e382, e383, e384, e385, e386, e387, hm381⟩
          have hS0 : Has (hp w) ((b1, Obj.cells ((encCred a0).toArray : Array Value) 83 (0, 0)) :: []) _ := hST.has.sub (Sub.refl _) (fun p hq => ((List.mem_cons.1 hq).elim (fun hq => by rw [hq]; exact (.tail _ (.head _))) (fun hq => (absurd hq List.not_mem_nil))))
          refine PX_e0 9 rfl (by kernel_rfl) (.inl rfl) rfl (E_store [] (.agg (encRole a0.B).toArray) ((encCred ((⟨a0.Kind, a0.Head, zS, a0.B, (⟨zS, zS⟩ : Role), zS⟩ : Cred))).toArray) hST e387 e385 Tryz.sizeOf47 (oneRole a0.B) (Nat.le_of_ble_eq_true rfl) rfl (fun W388 hST => ?_))
          replace hST : ST true NoF w _ _ ((b3, Obj.cells ((encCred ((⟨a0.Kind, a0.Head, zS, a0.B, (⟨zS, zS⟩ : Role), zS⟩ : Cred))).toArray : Array Value) 83 (0, 0)) :: ((b1, Obj.cells ((encCred a0).toArray : Array Value) 83 (0, 0)) :: L380)) := hST
          have hS0 : Has (hp w) ((b1, Obj.cells ((encCred a0).toArray : Array Value) 83 (0, 0)) :: []) _ := hST.has.sub (Sub.refl _) (fun p hq => ((List.mem_cons.1 hq).elim (fun hq => by rw [hq]; exact (.tail _ (.head _))) (fun hq => (absurd hq List.not_mem_nil))))
          refine ⟨hS0, ?_⟩
          refine PV 10 rfl hS0 (R_assign (v := (.bool x379)) e386) ?_
          refine PX_done (by kernel_rfl) ?_
          refine bq_n ?_
          refine sq_n ?_
          replace hm381 := Option.some.inj hm381; subst hm381
          exact ⟨x379, ((⟨a0.Kind, a0.Head, zS, a0.B, (⟨zS, zS⟩ : Role), zS⟩ : Cred)), _, (hST.sublist (List.Sublist.refl _)), e382, e383, rfl, hm269⟩
        · rcases bool_cases r6 with hb375 | hb375
          · replace hm390 := if_t hb375 hm390
            refine PX_v 4 rfl (by kernel_rfl) (.inr ⟨3, true, 31, rfl, rfl, by decide, (congrArg Value.bool hb375)⟩) rfl (by decide) (fun _ _ h => h) hS0 (fun _ _ _ _ => R_field fa83_3 rfl) ?_
            refine PX_v 5 rfl (by kernel_rfl) (.inr ⟨3, true, 31, rfl, rfl, by decide, (congrArg Value.bool hb375)⟩) rfl (by decide) (fun _ _ h => h) hS0 (fun l W hpd hs => have hS := hs; R_load (v := (.agg (encRole a0.B).toArray)) rfl (load_boxA hS (.head _) (encRole a0.B) rfl Tryz.isAgg47 Tryz.sizeOf47)) ?_
            obtain ⟨r393, hr394, hm390⟩ := bind_some hm390
            refine PX_e 6 rfl (by kernel_rfl) (.inr ⟨3, true, 31, rfl, rfl, by decide, (congrArg Value.bool hb375)⟩) rfl (by decide) (E_gives (args := [(.agg (encRole a0.B).toArray)]) hST rfl Tryz.call131 (by exact args1 rfl) ((w_role_Right a0.B _ _  hr394)) (fun W395 hST => ?_))
            have hS0 : Has (hp w) ((b1, Obj.cells ((encCred a0).toArray : Array Value) 83 (0, 0)) :: []) _ := hST.has.sub (Sub.refl _) (fun p hq => ((List.mem_cons.1 hq).elim (fun hq => by rw [hq]; exact (.tail _ (.head _))) (fun hq => (absurd hq List.not_mem_nil))))
            refine ⟨hS0, ?_⟩
            refine PV 7 rfl hS0 (R_pickT (v := (.bool r393)) (congrArg Value.bool hb375) rfl) ?_
            replace hm390 := Option.some.inj hm390; subst hm390
            refine PX_at (by kernel_rfl) (key392 _ _ ⟨r393, _, (hST.sublist (List.Sublist.refl _)), rfl, rfl, rfl, rfl, rfl, rfl, hm391⟩)
          · replace hm390 := if_f hb375 hm390
            refine PX_no 4 rfl (by kernel_rfl) rfl rfl (by decide) (congrArg Value.bool hb375) rfl (by decide) (fun _ _ h => h) hS0 ?_
            refine PX_no 5 rfl (by kernel_rfl) rfl rfl (by decide) (congrArg Value.bool hb375) rfl (by decide) (fun _ _ h => h) hS0 ?_
            refine PX_no 6 rfl (by kernel_rfl) rfl rfl (by decide) (congrArg Value.bool hb375) rfl (by decide) (fun _ _ h => h) hS0 ?_
            refine PV 7 rfl hS0 (R_pickF (v := (.bool false)) (congrArg Value.bool hb375) rfl) ?_
            replace hm390 := Option.some.inj hm390; subst hm390
            refine PX_at (by kernel_rfl) (key392 _ _ ⟨false, _, (hST.sublist (List.Sublist.refl _)), rfl, rfl, rfl, rfl, rfl, rfl, hm391⟩)
      · replace hm268 := if_f hb333 hm268
        refine CW_seq ?_
        refine CW_region ?_
        refine LV (R_int (k := .i64) (a := a0.Kind) (b := 3) (v := (.bool ((a0.Kind == 3)))) rfl rfl rfl) ?_
        refine LV (R_assign (v := (.bool ((a0.Kind == 3)))) rfl) ?_
        refine LW_nil ?_
        refine sq_n ?_
        refine CW_if (b := (a0.Kind == 3)) rfl (fun hb396 => ?_) (fun hb396 => ?_)
        · replace hm268 := if_t hb396 hm268
          refine CW_seq ?_
          refine PX_start (fun l W => Has (hp w) ((b1, Obj.cells ((encCred a0).toArray : Array Value) 83 (0, 0)) :: []) W) Tryz_mixed ?_
          replace hST := hST.drew
          have hS0 : Has (hp w) ((b1, Obj.cells ((encCred a0).toArray : Array Value) 83 (0, 0)) :: []) _ := hST.has.sub (Sub.refl _) (fun p hq => ((List.mem_cons.1 hq).elim (fun hq => by rw [hq]; exact (.tail _ (.head _))) (fun hq => (absurd hq List.not_mem_nil))))
          refine PV 0 rfl hS0 (R_field fa83_3 rfl) ?_
          refine PX_v 1 rfl (by kernel_rfl) (.inl rfl) rfl (by decide) (fun _ _ h => h) hS0 (fun l W hpd hs => have hS := hs; R_load (v := (.agg (encRole a0.B).toArray)) rfl (load_boxA hS (.head _) (encRole a0.B) rfl Tryz.isAgg47 Tryz.sizeOf47)) ?_
          refine PV 2 rfl hS0 (R_field fa83_5 rfl) ?_
          refine PX_v 3 rfl (by kernel_rfl) (.inl rfl) rfl (by decide) (fun _ _ h => h) hS0 (fun l W hpd hs => have hS := hs; R_load (v := (.string a0.Word2)) rfl (load_box1 hS (.head _) rfl Tryz.isAgg9)) ?_
          refine PV 4 rfl hS0 (R_field fa83_3 rfl) ?_
          refine PX_e0 5 rfl (by kernel_rfl) (.inl rfl) rfl (E_store [] (.agg (encRole a0.B).toArray) ((encCred ((⟨a0.Kind, a0.Head, zS, a0.B, (⟨zS, zS⟩ : Role), zS⟩ : Cred))).toArray) hST rfl rfl Tryz.sizeOf47 (oneRole a0.B) (Nat.le_of_ble_eq_true rfl) rfl (fun W401 hST => ?_))
          replace hST : ST true NoF w _ _ ((b3, Obj.cells ((encCred ((⟨a0.Kind, a0.Head, zS, a0.B, (⟨zS, zS⟩ : Role), zS⟩ : Cred))).toArray : Array Value) 83 (0, 0)) :: ((b1, Obj.cells ((encCred a0).toArray : Array Value) 83 (0, 0)) :: [])) := hST
          have hS0 : Has (hp w) ((b1, Obj.cells ((encCred a0).toArray : Array Value) 83 (0, 0)) :: []) _ := hST.has.sub (Sub.refl _) (fun p hq => ((List.mem_cons.1 hq).elim (fun hq => by rw [hq]; exact (.tail _ (.head _))) (fun hq => (absurd hq List.not_mem_nil))))
          refine ⟨hS0, ?_⟩
          refine PV 6 rfl hS0 (R_field fa83_5 rfl) ?_
          refine PX_e0 7 rfl (by kernel_rfl) (.inl rfl) rfl (E_store [] (.string a0.Word2) ((encCred ((⟨a0.Kind, a0.Head, zS, a0.B, (⟨zS, zS⟩ : Role), a0.Word2⟩ : Cred))).toArray) hST rfl rfl Tryz.sizeOf9 (oneS a0.Word2) (Nat.le_of_ble_eq_true rfl) rfl (fun W402 hST => ?_))
          replace hST : ST true NoF w _ _ ((b3, Obj.cells ((encCred ((⟨a0.Kind, a0.Head, zS, a0.B, (⟨zS, zS⟩ : Role), a0.Word2⟩ : Cred))).toArray : Array Value) 83 (0, 0)) :: ((b1, Obj.cells ((encCred a0).toArray : Array Value) 83 (0, 0)) :: [])) := hST
          have hS0 : Has (hp w) ((b1, Obj.cells ((encCred a0).toArray : Array Value) 83 (0, 0)) :: []) _ := hST.has.sub (Sub.refl _) (fun p hq => ((List.mem_cons.1 hq).elim (fun hq => by rw [hq]; exact (.tail _ (.head _))) (fun hq => (absurd hq List.not_mem_nil))))
          refine ⟨hS0, ?_⟩
          refine PX_done (by kernel_rfl) ?_
          refine sq_n ?_
          refine CW_region ?_
          refine LV (R_move (v := (.bool r6)) rfl) ?_
          refine LV (R_move (v := (.bool r6)) rfl) ?_
          obtain ⟨s444, hm445, hm446⟩ := bind_some hm268
          refine LW_join (J := fun E W => ∃ (x407 : Bool) (L408 : List (Nat × Obj)), ST true NoF w W (hp w) ((b3, Obj.cells ((encCred ((⟨a0.Kind, a0.Head, zS, a0.B, (⟨zS, zS⟩ : Role), a0.Word2⟩ : Cred))).toArray : Array Value) 83 (0, 0)) :: ((b1, Obj.cells ((encCred a0).toArray : Array Value) 83 (0, 0)) :: L408)) ∧ E 1 = (.pointer (some ⟨b1, 0, none⟩)) ∧ E 3 = (.pointer (some ⟨b3, 0, none⟩)) ∧ E 4 = (.bool r6) ∧ E 50 = (.bool x407) ∧ (((if x407 then some ((beqS a0.B.Owner a0.Head.Owner)) else some false) : Option Bool).bind fun x415 => (((if x415 then (((m_name_Right a0.Word2)).bind fun r437 => some r437) else some false) : Option Bool).bind fun x426 => some (Sum.inr (x426, ((⟨a0.Kind, a0.Head, zS, a0.B, (⟨zS, zS⟩ : Role), a0.Word2⟩ : Cred)))))) = some s267) 4 ?_ (fun key447 => ?_)
          · rintro E W ⟨x407, L408, hST, e410, e411, e412, e413, hm409⟩
            refine LV (R_move (v := (.bool x407)) e413) ?_
            obtain ⟨s440, hm441, hm442⟩ := bind_some hm409
            refine LW_join (J := fun E W => ∃ (x415 : Bool) (L416 : List (Nat × Obj)), ST true NoF w W (hp w) ((b3, Obj.cells ((encCred ((⟨a0.Kind, a0.Head, zS, a0.B, (⟨zS, zS⟩ : Role), a0.Word2⟩ : Cred))).toArray : Array Value) 83 (0, 0)) :: ((b1, Obj.cells ((encCred a0).toArray : Array Value) 83 (0, 0)) :: L416)) ∧ E 1 = (.pointer (some ⟨b1, 0, none⟩)) ∧ E 3 = (.pointer (some ⟨b3, 0, none⟩)) ∧ E 4 = (.bool r6) ∧ E 59 = (.bool x415) ∧ (((if x415 then (((m_name_Right a0.Word2)).bind fun r437 => some r437) else some false) : Option Bool).bind fun x426 => some (Sum.inr (x426, ((⟨a0.Kind, a0.Head, zS, a0.B, (⟨zS, zS⟩ : Role), a0.Word2⟩ : Cred))))) = some s267) 8 ?_ (fun key443 => ?_)
            · rintro E W ⟨x415, L416, hST, e418, e419, e420, e421, hm417⟩
              refine LV (R_move (v := (.bool x415)) e421) ?_
              obtain ⟨s433, hm434, hm435⟩ := bind_some hm417
              refine LW_join (J := fun E W => ∃ (x426 : Bool) (L427 : List (Nat × Obj)), ST true NoF w W (hp w) ((b3, Obj.cells ((encCred ((⟨a0.Kind, a0.Head, zS, a0.B, (⟨zS, zS⟩ : Role), a0.Word2⟩ : Cred))).toArray : Array Value) 83 (0, 0)) :: ((b1, Obj.cells ((encCred a0).toArray : Array Value) 83 (0, 0)) :: L427)) ∧ E 1 = (.pointer (some ⟨b1, 0, none⟩)) ∧ E 3 = (.pointer (some ⟨b3, 0, none⟩)) ∧ E 4 = (.bool r6) ∧ E 64 = (.bool x426) ∧ some (Sum.inr (x426, ((⟨a0.Kind, a0.Head, zS, a0.B, (⟨zS, zS⟩ : Role), a0.Word2⟩ : Cred)))) = some s267) 4 ?_ (fun key436 => ?_)
              · rintro E W ⟨x426, L427, hST, e429, e430, e431, e432, hm428⟩
                refine LV (R_assign (v := (.bool x426)) e432) ?_
                refine LW_nil ?_
                refine bq_n ?_
                refine sq_n ?_
                replace hm428 := Option.some.inj hm428; subst hm428
                exact ⟨x426, ((⟨a0.Kind, a0.Head, zS, a0.B, (⟨zS, zS⟩ : Role), a0.Word2⟩ : Cred)), _, (hST.sublist (List.Sublist.refl _)), e429, e430, rfl, hm269⟩
              · rcases bool_cases x415 with hb422 | hb422
                · replace hm434 := if_t hb422 hm434
                  refine LW_v (.inr ⟨15, true, 60, rfl, rfl, by decide, (congrArg Value.bool hb422)⟩) rfl (by decide) (R_field fa83_5 e418) ?_
                  refine LW_v (.inr ⟨15, true, 60, rfl, rfl, by decide, (congrArg Value.bool hb422)⟩) rfl (by decide) (R_load (v := (.string a0.Word2)) rfl (load_box1 hST.has (.tail _ (.head _)) rfl Tryz.isAgg9)) ?_
                  obtain ⟨r437, hr438, hm434⟩ := bind_some hm434
                  refine LW_e (.inr ⟨15, true, 60, rfl, rfl, by decide, (congrArg Value.bool hb422)⟩) rfl (by decide) (E_gives (args := [(.string a0.Word2)]) hST rfl Tryz.call134 (by exact args1 rfl) ((w_name_Right a0.Word2 _ _  hr438)) (fun W439 hST => ?_))
                  refine LV (R_pickT (v := (.bool r437)) (congrArg Value.bool hb422) rfl) ?_
                  replace hm434 := Option.some.inj hm434; subst hm434
                  exact key436 _ _ ⟨r437, _, (hST.sublist (List.Sublist.refl _)), e418, e419, e420, rfl, hm435⟩
                · replace hm434 := if_f hb422 hm434
                  refine LW_no rfl (by decide) rfl rfl (by decide) (congrArg Value.bool hb422) ?_
                  refine LW_no rfl (by decide) rfl rfl (by decide) (congrArg Value.bool hb422) ?_
                  refine LW_no rfl (by decide) rfl rfl (by decide) (congrArg Value.bool hb422) ?_
                  refine LV (R_pickF (v := (.bool false)) (congrArg Value.bool hb422) rfl) ?_
                  replace hm434 := Option.some.inj hm434; subst hm434
                  exact key436 _ _ ⟨false, _, (hST.sublist (List.Sublist.refl _)), e418, e419, e420, rfl, hm435⟩
            · rcases bool_cases x407 with hb414 | hb414
              · replace hm441 := if_t hb414 hm441
                refine LW_v (.inr ⟨6, true, 51, rfl, rfl, by decide, (congrArg Value.bool hb414)⟩) rfl (by decide) (R_field fa83_3 e410) ?_
                refine LW_v (.inr ⟨6, true, 51, rfl, rfl, by decide, (congrArg Value.bool hb414)⟩) rfl (by decide) (R_field fa47_0 rfl) ?_
                refine LW_v (.inr ⟨6, true, 51, rfl, rfl, by decide, (congrArg Value.bool hb414)⟩) rfl (by decide) (R_load (v := (.string a0.B.Owner)) rfl (load_box1 hST.has (.tail _ (.head _)) rfl Tryz.isAgg9)) ?_
                refine LW_v (.inr ⟨6, true, 51, rfl, rfl, by decide, (congrArg Value.bool hb414)⟩) rfl (by decide) (R_field fa83_1 e410) ?_
                refine LW_v (.inr ⟨6, true, 51, rfl, rfl, by decide, (congrArg Value.bool hb414)⟩) rfl (by decide) (R_field fa47_0 rfl) ?_
                refine LW_v (.inr ⟨6, true, 51, rfl, rfl, by decide, (congrArg Value.bool hb414)⟩) rfl (by decide) (R_load (v := (.string a0.Head.Owner)) rfl (load_box1 hST.has (.tail _ (.head _)) rfl Tryz.isAgg9)) ?_
                refine LW_v (.inr ⟨6, true, 51, rfl, rfl, by decide, (congrArg Value.bool hb414)⟩) rfl (by decide) (R_str (a := a0.B.Owner) (b := a0.Head.Owner) (v := (.bool ((beqS a0.B.Owner a0.Head.Owner)))) rfl rfl rfl) ?_
                refine LV (R_pickT (v := (.bool ((beqS a0.B.Owner a0.Head.Owner)))) (congrArg Value.bool hb414) rfl) ?_
                replace hm441 := Option.some.inj hm441; subst hm441
                exact key443 _ _ ⟨((beqS a0.B.Owner a0.Head.Owner)), _, (hST.sublist (List.Sublist.refl _)), e410, e411, e412, rfl, hm442⟩
              · replace hm441 := if_f hb414 hm441
                refine LW_no rfl (by decide) rfl rfl (by decide) (congrArg Value.bool hb414) ?_
                refine LW_no rfl (by decide) rfl rfl (by decide) (congrArg Value.bool hb414) ?_
                refine LW_no rfl (by decide) rfl rfl (by decide) (congrArg Value.bool hb414) ?_
                refine LW_no rfl (by decide) rfl rfl (by decide) (congrArg Value.bool hb414) ?_
                refine LW_no rfl (by decide) rfl rfl (by decide) (congrArg Value.bool hb414) ?_
                refine LW_no rfl (by decide) rfl rfl (by decide) (congrArg Value.bool hb414) ?_
                refine LW_no rfl (by decide) rfl rfl (by decide) (congrArg Value.bool hb414) ?_
                refine LV (R_pickF (v := (.bool false)) (congrArg Value.bool hb414) rfl) ?_
                replace hm441 := Option.some.inj hm441; subst hm441
                exact key443 _ _ ⟨false, _, (hST.sublist (List.Sublist.refl _)), e410, e411, e412, rfl, hm442⟩
          · rcases bool_cases r6 with hb403 | hb403
            · replace hm445 := if_t hb403 hm445
              refine LW_v (.inr ⟨1, true, 46, rfl, rfl, by decide, (congrArg Value.bool hb403)⟩) rfl (by decide) (R_field fa83_3 rfl) ?_
              refine LW_v (.inr ⟨1, true, 46, rfl, rfl, by decide, (congrArg Value.bool hb403)⟩) rfl (by decide) (R_load (v := (.agg (encRole a0.B).toArray)) rfl (load_boxA hST.has (.tail _ (.head _)) (encRole a0.B) rfl Tryz.isAgg47 Tryz.sizeOf47)) ?_
              obtain ⟨r448, hr449, hm445⟩ := bind_some hm445
              refine LW_e (.inr ⟨1, true, 46, rfl, rfl, by decide, (congrArg Value.bool hb403)⟩) rfl (by decide) (E_gives (args := [(.agg (encRole a0.B).toArray)]) hST rfl Tryz.call131 (by exact args1 rfl) ((w_role_Right a0.B _ _  hr449)) (fun W450 hST => ?_))
              refine LV (R_pickT (v := (.bool r448)) (congrArg Value.bool hb403) rfl) ?_
              replace hm445 := Option.some.inj hm445; subst hm445
              exact key447 _ _ ⟨r448, _, (hST.sublist (List.Sublist.refl _)), rfl, rfl, rfl, rfl, hm446⟩
            · replace hm445 := if_f hb403 hm445
              refine LW_no rfl (by decide) rfl rfl (by decide) (congrArg Value.bool hb403) ?_
              refine LW_no rfl (by decide) rfl rfl (by decide) (congrArg Value.bool hb403) ?_
              refine LW_no rfl (by decide) rfl rfl (by decide) (congrArg Value.bool hb403) ?_
              refine LV (R_pickF (v := (.bool false)) (congrArg Value.bool hb403) rfl) ?_
              replace hm445 := Option.some.inj hm445; subst hm445
              exact key447 _ _ ⟨false, _, (hST.sublist (List.Sublist.refl _)), rfl, rfl, rfl, rfl, hm446⟩
        · replace hm268 := if_f hb396 hm268
          refine CW_seq ?_
          refine CW_region ?_
          refine LV (R_int (k := .i64) (a := a0.Kind) (b := 4) (v := (.bool ((a0.Kind == 4)))) rfl rfl rfl) ?_
          refine LV (R_assign (v := (.bool ((a0.Kind == 4)))) rfl) ?_
          refine LW_nil ?_
          refine sq_n ?_
          refine CW_if (b := (a0.Kind == 4)) rfl (fun hb451 => ?_) (fun hb451 => ?_)
          · replace hm268 := if_t hb451 hm268
            refine CW_seq ?_
            refine PX_start (fun l W => Has (hp w) ((b1, Obj.cells ((encCred a0).toArray : Array Value) 83 (0, 0)) :: []) W) Tryz_mixed ?_
            replace hST := hST.drew
            have hS0 : Has (hp w) ((b1, Obj.cells ((encCred a0).toArray : Array Value) 83 (0, 0)) :: []) _ := hST.has.sub (Sub.refl _) (fun p hq => ((List.mem_cons.1 hq).elim (fun hq => by rw [hq]; exact (.tail _ (.head _))) (fun hq => (absurd hq List.not_mem_nil))))
            refine PV 0 rfl hS0 (R_field fa83_3 rfl) ?_
            refine PX_v 1 rfl (by kernel_rfl) (.inl rfl) rfl (by decide) (fun _ _ h => h) hS0 (fun l W hpd hs => have hS := hs; R_load (v := (.agg (encRole a0.B).toArray)) rfl (load_boxA hS (.head _) (encRole a0.B) rfl Tryz.isAgg47 Tryz.sizeOf47)) ?_
            refine PV 2 rfl hS0 (R_field fa83_4 rfl) ?_
            refine PX_v 3 rfl (by kernel_rfl) (.inl rfl) rfl (by decide) (fun _ _ h => h) hS0 (fun l W hpd hs => have hS := hs; R_load (v := (.agg (encRole a0.C).toArray)) rfl (load_boxA hS (.head _) (encRole a0.C) rfl Tryz.isAgg47 Tryz.sizeOf47)) ?_
            refine PV 4 rfl hS0 (R_field fa83_3 rfl) ?_
            refine PX_e0 5 rfl (by kernel_rfl) (.inl rfl) rfl (E_store [] (.agg (encRole a0.B).toArray) ((encCred ((⟨a0.Kind, a0.Head, zS, a0.B, (⟨zS, zS⟩ : Role), zS⟩ : Cred))).toArray) hST rfl rfl Tryz.sizeOf47 (oneRole a0.B) (Nat.le_of_ble_eq_true rfl) rfl (fun W456 hST => ?_))
            replace hST : ST true NoF w _ _ ((b3, Obj.cells ((encCred ((⟨a0.Kind, a0.Head, zS, a0.B, (⟨zS, zS⟩ : Role), zS⟩ : Cred))).toArray : Array Value) 83 (0, 0)) :: ((b1, Obj.cells ((encCred a0).toArray : Array Value) 83 (0, 0)) :: [])) := hST
            have hS0 : Has (hp w) ((b1, Obj.cells ((encCred a0).toArray : Array Value) 83 (0, 0)) :: []) _ := hST.has.sub (Sub.refl _) (fun p hq => ((List.mem_cons.1 hq).elim (fun hq => by rw [hq]; exact (.tail _ (.head _))) (fun hq => (absurd hq List.not_mem_nil))))
            refine ⟨hS0, ?_⟩
            refine PV 6 rfl hS0 (R_field fa83_4 rfl) ?_
            refine PX_e0 7 rfl (by kernel_rfl) (.inl rfl) rfl (E_store [] (.agg (encRole a0.C).toArray) ((encCred ((⟨a0.Kind, a0.Head, zS, a0.B, a0.C, zS⟩ : Cred))).toArray) hST rfl rfl Tryz.sizeOf47 (oneRole a0.C) (Nat.le_of_ble_eq_true rfl) rfl (fun W457 hST => ?_))
            replace hST : ST true NoF w _ _ ((b3, Obj.cells ((encCred ((⟨a0.Kind, a0.Head, zS, a0.B, a0.C, zS⟩ : Cred))).toArray : Array Value) 83 (0, 0)) :: ((b1, Obj.cells ((encCred a0).toArray : Array Value) 83 (0, 0)) :: [])) := hST
            have hS0 : Has (hp w) ((b1, Obj.cells ((encCred a0).toArray : Array Value) 83 (0, 0)) :: []) _ := hST.has.sub (Sub.refl _) (fun p hq => ((List.mem_cons.1 hq).elim (fun hq => by rw [hq]; exact (.tail _ (.head _))) (fun hq => (absurd hq List.not_mem_nil))))
            refine ⟨hS0, ?_⟩
            refine PX_done (by kernel_rfl) ?_
            refine sq_n ?_
            refine CW_region ?_
            refine LV (R_move (v := (.bool r6)) rfl) ?_
            refine LV (R_move (v := (.bool r6)) rfl) ?_
            obtain ⟨s505, hm506, hm507⟩ := bind_some hm268
            refine LW_join (J := fun E W => ∃ (x462 : Bool) (L463 : List (Nat × Obj)), ST true NoF w W (hp w) ((b3, Obj.cells ((encCred ((⟨a0.Kind, a0.Head, zS, a0.B, a0.C, zS⟩ : Cred))).toArray : Array Value) 83 (0, 0)) :: ((b1, Obj.cells ((encCred a0).toArray : Array Value) 83 (0, 0)) :: L463)) ∧ E 1 = (.pointer (some ⟨b1, 0, none⟩)) ∧ E 3 = (.pointer (some ⟨b3, 0, none⟩)) ∧ E 4 = (.bool r6) ∧ E 78 = (.bool x462) ∧ (((if x462 then (((m_role_Right a0.C)).bind fun r502 => some r502) else some false) : Option Bool).bind fun x473 => (((if x473 then (((m_role_Compare a0.B a0.C)).bind fun r495 => some ((decide (r495 < 0)))) else some false) : Option Bool).bind fun x484 => some (Sum.inr (x484, ((⟨a0.Kind, a0.Head, zS, a0.B, a0.C, zS⟩ : Cred)))))) = some s267) 4 ?_ (fun key508 => ?_)
            · rintro E W ⟨x462, L463, hST, e465, e466, e467, e468, hm464⟩
              refine LV (R_move (v := (.bool x462)) e468) ?_
              obtain ⟨s498, hm499, hm500⟩ := bind_some hm464
              refine LW_join (J := fun E W => ∃ (x473 : Bool) (L474 : List (Nat × Obj)), ST true NoF w W (hp w) ((b3, Obj.cells ((encCred ((⟨a0.Kind, a0.Head, zS, a0.B, a0.C, zS⟩ : Cred))).toArray : Array Value) 83 (0, 0)) :: ((b1, Obj.cells ((encCred a0).toArray : Array Value) 83 (0, 0)) :: L474)) ∧ E 1 = (.pointer (some ⟨b1, 0, none⟩)) ∧ E 3 = (.pointer (some ⟨b3, 0, none⟩)) ∧ E 4 = (.bool r6) ∧ E 83 = (.bool x473) ∧ (((if x473 then (((m_role_Compare a0.B a0.C)).bind fun r495 => some ((decide (r495 < 0)))) else some false) : Option Bool).bind fun x484 => some (Sum.inr (x484, ((⟨a0.Kind, a0.Head, zS, a0.B, a0.C, zS⟩ : Cred))))) = some s267) 4 ?_ (fun key501 => ?_)
              · rintro E W ⟨x473, L474, hST, e476, e477, e478, e479, hm475⟩
                refine LV (R_move (v := (.bool x473)) e479) ?_
                obtain ⟨s491, hm492, hm493⟩ := bind_some hm475
                refine LW_join (J := fun E W => ∃ (x484 : Bool) (L485 : List (Nat × Obj)), ST true NoF w W (hp w) ((b3, Obj.cells ((encCred ((⟨a0.Kind, a0.Head, zS, a0.B, a0.C, zS⟩ : Cred))).toArray : Array Value) 83 (0, 0)) :: ((b1, Obj.cells ((encCred a0).toArray : Array Value) 83 (0, 0)) :: L485)) ∧ E 1 = (.pointer (some ⟨b1, 0, none⟩)) ∧ E 3 = (.pointer (some ⟨b3, 0, none⟩)) ∧ E 4 = (.bool r6) ∧ E 91 = (.bool x484) ∧ some (Sum.inr (x484, ((⟨a0.Kind, a0.Head, zS, a0.B, a0.C, zS⟩ : Cred)))) = some s267) 7 ?_ (fun key494 => ?_)
                · rintro E W ⟨x484, L485, hST, e487, e488, e489, e490, hm486⟩
                  refine LV (R_assign (v := (.bool x484)) e490) ?_
                  refine LW_nil ?_
                  refine bq_n ?_
                  refine sq_n ?_
                  replace hm486 := Option.some.inj hm486; subst hm486
                  exact ⟨x484, ((⟨a0.Kind, a0.Head, zS, a0.B, a0.C, zS⟩ : Cred)), _, (hST.sublist (List.Sublist.refl _)), e487, e488, rfl, hm269⟩
                · rcases bool_cases x473 with hb480 | hb480
                  · replace hm492 := if_t hb480 hm492
                    refine LW_v (.inr ⟨11, true, 84, rfl, rfl, by decide, (congrArg Value.bool hb480)⟩) rfl (by decide) (R_field fa83_3 e476) ?_
                    refine LW_v (.inr ⟨11, true, 84, rfl, rfl, by decide, (congrArg Value.bool hb480)⟩) rfl (by decide) (R_load (v := (.agg (encRole a0.B).toArray)) rfl (load_boxA hST.has (.tail _ (.head _)) (encRole a0.B) rfl Tryz.isAgg47 Tryz.sizeOf47)) ?_
                    refine LW_v (.inr ⟨11, true, 84, rfl, rfl, by decide, (congrArg Value.bool hb480)⟩) rfl (by decide) (R_field fa83_4 e476) ?_
                    refine LW_v (.inr ⟨11, true, 84, rfl, rfl, by decide, (congrArg Value.bool hb480)⟩) rfl (by decide) (R_load (v := (.agg (encRole a0.C).toArray)) rfl (load_boxA hST.has (.tail _ (.head _)) (encRole a0.C) rfl Tryz.isAgg47 Tryz.sizeOf47)) ?_
                    obtain ⟨r495, hr496, hm492⟩ := bind_some hm492
                    refine LW_e (.inr ⟨11, true, 84, rfl, rfl, by decide, (congrArg Value.bool hb480)⟩) rfl (by decide) (E_gives (args := [(.agg (encRole a0.B).toArray), (.agg (encRole a0.C).toArray)]) hST rfl Tryz.call94 (by exact args2 rfl rfl) ((w_role_Compare a0.B a0.C _ _  hr496)) (fun W497 hST => ?_))
                    refine LW_v (.inr ⟨11, true, 84, rfl, rfl, by decide, (congrArg Value.bool hb480)⟩) rfl (by decide) (R_int (k := .i64) (a := r495) (b := 0) (v := (.bool ((decide (r495 < 0))))) rfl rfl rfl) ?_
                    refine LV (R_pickT (v := (.bool ((decide (r495 < 0))))) (congrArg Value.bool hb480) rfl) ?_
                    replace hm492 := Option.some.inj hm492; subst hm492
                    exact key494 _ _ ⟨((decide (r495 < 0))), _, (hST.sublist (List.Sublist.refl _)), e476, e477, e478, rfl, hm493⟩
                  · replace hm492 := if_f hb480 hm492
                    refine LW_no rfl (by decide) rfl rfl (by decide) (congrArg Value.bool hb480) ?_
                    refine LW_no rfl (by decide) rfl rfl (by decide) (congrArg Value.bool hb480) ?_
                    refine LW_no rfl (by decide) rfl rfl (by decide) (congrArg Value.bool hb480) ?_
                    refine LW_no rfl (by decide) rfl rfl (by decide) (congrArg Value.bool hb480) ?_
                    refine LW_no rfl (by decide) rfl rfl (by decide) (congrArg Value.bool hb480) ?_
                    refine LW_no rfl (by decide) rfl rfl (by decide) (congrArg Value.bool hb480) ?_
                    refine LV (R_pickF (v := (.bool false)) (congrArg Value.bool hb480) rfl) ?_
                    replace hm492 := Option.some.inj hm492; subst hm492
                    exact key494 _ _ ⟨false, _, (hST.sublist (List.Sublist.refl _)), e476, e477, e478, rfl, hm493⟩
              · rcases bool_cases x462 with hb469 | hb469
                · replace hm499 := if_t hb469 hm499
                  refine LW_v (.inr ⟨6, true, 79, rfl, rfl, by decide, (congrArg Value.bool hb469)⟩) rfl (by decide) (R_field fa83_4 e465) ?_
                  refine LW_v (.inr ⟨6, true, 79, rfl, rfl, by decide, (congrArg Value.bool hb469)⟩) rfl (by decide) (R_load (v := (.agg (encRole a0.C).toArray)) rfl (load_boxA hST.has (.tail _ (.head _)) (encRole a0.C) rfl Tryz.isAgg47 Tryz.sizeOf47)) ?_
                  obtain ⟨r502, hr503, hm499⟩ := bind_some hm499
                  refine LW_e (.inr ⟨6, true, 79, rfl, rfl, by decide, (congrArg Value.bool hb469)⟩) rfl (by decide) (E_gives (args := [(.agg (encRole a0.C).toArray)]) hST rfl Tryz.call131 (by exact args1 rfl) ((w_role_Right a0.C _ _  hr503)) (fun W504 hST => ?_))
                  refine LV (R_pickT (v := (.bool r502)) (congrArg Value.bool hb469) rfl) ?_
                  replace hm499 := Option.some.inj hm499; subst hm499
                  exact key501 _ _ ⟨r502, _, (hST.sublist (List.Sublist.refl _)), e465, e466, e467, rfl, hm500⟩
                · replace hm499 := if_f hb469 hm499
                  refine LW_no rfl (by decide) rfl rfl (by decide) (congrArg Value.bool hb469) ?_
                  refine LW_no rfl (by decide) rfl rfl (by decide) (congrArg Value.bool hb469) ?_
                  refine LW_no rfl (by decide) rfl rfl (by decide) (congrArg Value.bool hb469) ?_
                  refine LV (R_pickF (v := (.bool false)) (congrArg Value.bool hb469) rfl) ?_
                  replace hm499 := Option.some.inj hm499; subst hm499
                  exact key501 _ _ ⟨false, _, (hST.sublist (List.Sublist.refl _)), e465, e466, e467, rfl, hm500⟩
            · rcases bool_cases r6 with hb458 | hb458
              · replace hm506 := if_t hb458 hm506
                refine LW_v (.inr ⟨1, true, 74, rfl, rfl, by decide, (congrArg Value.bool hb458)⟩) rfl (by decide) (R_field fa83_3 rfl) ?_
                refine LW_v (.inr ⟨1, true, 74, rfl, rfl, by decide, (congrArg Value.bool hb458)⟩) rfl (by decide) (R_load (v := (.agg (encRole a0.B).toArray)) rfl (load_boxA hST.has (.tail _ (.head _)) (encRole a0.B) rfl Tryz.isAgg47 Tryz.sizeOf47)) ?_
                obtain ⟨r509, hr510, hm506⟩ := bind_some hm506
                refine LW_e (.inr ⟨1, true, 74, rfl, rfl, by decide, (congrArg Value.bool hb458)⟩) rfl (by decide) (E_gives (args := [(.agg (encRole a0.B).toArray)]) hST rfl Tryz.call131 (by exact args1 rfl) ((w_role_Right a0.B _ _  hr510)) (fun W511 hST => ?_))
                refine LV (R_pickT (v := (.bool r509)) (congrArg Value.bool hb458) rfl) ?_
                replace hm506 := Option.some.inj hm506; subst hm506
                exact key508 _ _ ⟨r509, _, (hST.sublist (List.Sublist.refl _)), rfl, rfl, rfl, rfl, hm507⟩
              · replace hm506 := if_f hb458 hm506
                refine LW_no rfl (by decide) rfl rfl (by decide) (congrArg Value.bool hb458) ?_
                refine LW_no rfl (by decide) rfl rfl (by decide) (congrArg Value.bool hb458) ?_
                refine LW_no rfl (by decide) rfl rfl (by decide) (congrArg Value.bool hb458) ?_
                refine LV (R_pickF (v := (.bool false)) (congrArg Value.bool hb458) rfl) ?_
                replace hm506 := Option.some.inj hm506; subst hm506
                exact key508 _ _ ⟨false, _, (hST.sublist (List.Sublist.refl _)), rfl, rfl, rfl, rfl, hm507⟩
          · replace hm268 := if_f hb451 hm268
            refine CW_seq ?_
            refine CW_region ?_
            refine LV (R_assign (v := (.bool false)) rfl) ?_
            refine LW_nil ?_
            refine sq_n ?_
            replace hST : ST true NoF w _ _ [] := hST.sublist (List.Sublist.cons _ (List.Sublist.cons _ (List.Sublist.refl _)))
            refine CW_ret ?_
            refine bq_r (sq_r ?_)
            replace hm268 := Option.some.inj hm268; subst hm268
            replace hm269 : some false = some r := hm269
            replace hm269 := Option.some.inj hm269; subst hm269
            refine retQ_1 (v := (.bool false)) rfl rfl ?_
            exact ⟨rfl, hST.ex⟩
  · rintro E W ⟨x251, x252, L253, hST, e255, e256, e257, hm254⟩
    refine CW_seq ?_
    refine CW_region ?_
    refine LV (R_move (v := (.bool x251)) e257) ?_
    refine LV (R_move (v := (.bool x251)) rfl) ?_
    obtain ⟨s263, hm264, hm265⟩ := bind_some hm254
    refine LW_join (J := fun E W => ∃ (x259 : Bool) (L260 : List (Nat × Obj)), ST true NoF w W (hp w) L260 ∧ E 97 = (.bool x259) ∧ some x259 = some r) 4 ?_ (fun key266 => ?_)
    · rintro E W ⟨x259, L260, hST, e262, hm261⟩
      refine LV (R_assign (v := (.bool x259)) e262) ?_
      refine LW_nil ?_
      refine sq_n ?_
      refine CW_ret ?_
      replace hm261 := Option.some.inj hm261; subst hm261
      refine retQ_1 (v := (.bool x259)) rfl rfl ?_
      exact ⟨rfl, hST.ex⟩
    · rcases bool_cases x251 with hb258 | hb258
      · replace hm264 := if_t hb258 hm264
        refine LW_v (.inr ⟨1, true, 93, rfl, rfl, by decide, (congrArg Value.bool hb258)⟩) rfl (by decide) (R_load (v := (.agg (encCred x252).toArray)) e256 (load_boxA hST.has (.head _) (encCred x252) rfl Tryz.isAgg83 Tryz.sizeOf83)) ?_
        refine LW_v (.inr ⟨1, true, 93, rfl, rfl, by decide, (congrArg Value.bool hb258)⟩) rfl (by decide) (R_load (v := (.agg (encCred a0).toArray)) e255 (load_boxA hST.has (.tail _ (.head _)) (encCred a0) rfl Tryz.isAgg83 Tryz.sizeOf83)) ?_
        refine LW_v (.inr ⟨1, true, 93, rfl, rfl, by decide, (congrArg Value.bool hb258)⟩) rfl (by decide) (R_eql (a := (encCred x252).toArray) (b := (encCred a0).toArray) rfl rfl (guard_agg Tryz.eqGuardType83) (bin_eql (eqInCred _ x252 a0))) ?_
        refine LV (R_pickT (v := (.bool ((beqCred x252 a0)))) (congrArg Value.bool hb258) rfl) ?_
        replace hm264 := Option.some.inj hm264; subst hm264
        exact key266 _ _ ⟨((beqCred x252 a0)), _, (hST.sublist (List.Sublist.cons _ (List.Sublist.cons _ (List.Sublist.refl _)))), rfl, hm265⟩
      · replace hm264 := if_f hb258 hm264
        refine LW_no rfl (by decide) rfl rfl (by decide) (congrArg Value.bool hb258) ?_
        refine LW_no rfl (by decide) rfl rfl (by decide) (congrArg Value.bool hb258) ?_
        refine LW_no rfl (by decide) rfl rfl (by decide) (congrArg Value.bool hb258) ?_
        refine LV (R_pickF (v := (.bool false)) (congrArg Value.bool hb258) rfl) ?_
        replace hm264 := Option.some.inj hm264; subst hm264
        exact key266 _ _ ⟨false, _, (hST.sublist (List.Sublist.cons _ (List.Sublist.cons _ (List.Sublist.refl _)))), rfl, hm265⟩
theorem w_cred_Set_c1 (a0 : Cred) (r : Bool) (w : World)  (hm : m_cred_Set_c1 a0 = some r) :
    Gives true Tryz.prog 124 [(.agg (encCred a0).toArray)] w (.bool r) := by
  have hST := ST.start (dd := true) w
  unfold m_cred_Set_c1 at hm
  refine calls_of_CW (n := 6) Tryz.func124 rfl rfl (Nat.le_of_ble_eq_true rfl) ?_
  refine CW_seq ?_
  refine CW_region ?_
  refine LE (E_box (v := (.agg (encCred a0).toArray)) hST rfl (fun W2 b1 hST => ?_))
  refine LV (R_assign (v := (.bool false)) rfl) ?_
  refine LW_nil ?_
  refine sq_n ?_
  refine CW_seq ?_
  refine CW_region ?_
  refine LV (R_load (v := (.agg (encCred a0).toArray)) rfl (load_boxA hST.has (.head _) (encCred a0) rfl Tryz.isAgg83 Tryz.sizeOf83)) ?_
  obtain ⟨r3, hr4, hm⟩ := bind_some hm
  refine LE (E_gives (args := [(.agg (encCred a0).toArray)]) hST rfl Tryz.call98 (by exact args1 rfl) ((w_cred_Right a0 _ _  hr4)) (fun W5 hST => ?_))
  refine LV (R_not (b := r3) rfl) ?_
  refine LV (R_assign (v := (.bool ((!r3)))) rfl) ?_
  refine LW_nil ?_
  refine sq_n ?_
  replace hST : ST true NoF w _ _ [] := hST.sublist (List.Sublist.cons _ (List.Sublist.refl _))
  refine CW_ret ?_
  replace hm := Option.some.inj hm; subst hm
  refine retQ_1 (v := (.bool ((!r3)))) rfl rfl ?_
  exact ⟨rfl, hST.ex⟩
theorem w_sortF125 (v_a0 : Value) (a0 : List Cred) (R_a0 : List (Nat × Obj)) (v_a1 : Value) (f1 : ((Cred × Cred)) → Option Int) (r : List Cred) (w : World) {μ0 : Mem} (hH : Held (R_a0 ++ []) w) (hN : (((R_a0 ++ []) : List (Nat × Obj)).map (·.1)).Nodup) (hS0 : Sub μ0 (hpx w (R_a0 ++ []))) (h_a0 : Row 83 encCred 9 v_a0 a0 R_a0) (h_a1 : CbO Tryz.prog v_a1 μ0 (fun (x : (Cred × Cred)) => [(.agg (encCred x.1).toArray), (.agg (encCred x.2).toArray)]) (fun (r : Int) => (.int .i64 r)) f1) (hm : sortF f1 a0 = some r) :
    GivesM true Tryz.prog 125 [v_a0, v_a1] w (R_a0 ++ []) (fun v L1 W' => ∃ (S : List (Nat × Obj)), v = (.tuple #[]) ∧ L1 = (S ++ []) ∧ Row 83 encCred 9 v_a0 r S) := sortF_gives (P := Tryz.prog) (ρ := ren125) lay125 9 Tryz.isAgg83 Tryz.sizeOf83 encCred lenCred oneCred hH hS0 h_a0 h_a1 hm
theorem w_tape_Pen_Number_w (b_a0 : Nat) (v_a0_b : Value) (a0_b : List Int) (R_a0_b : List (Nat × Obj)) (a1 : Int) (r : (Bool × (List Int))) (w : World) {μ0 : Mem} (hH : Held ((b_a0, Obj.cells (#[v_a0_b] : Array Value) 221 (0, 0)) :: (R_a0_b ++ [])) w) (hN : ((((b_a0, Obj.cells (#[v_a0_b] : Array Value) 221 (0, 0)) :: (R_a0_b ++ [])) : List (Nat × Obj)).map (·.1)).Nodup) (hS0 : Sub μ0 (hpx w ((b_a0, Obj.cells (#[v_a0_b] : Array Value) 221 (0, 0)) :: (R_a0_b ++ [])))) (h_a0_b : Row 5 (encIk .u8) 1 v_a0_b a0_b R_a0_b) (hm : m_tape_Pen_Number_w a0_b a1 = some r) :
    GivesM true Tryz.prog 203 [(.pointer (some ⟨b_a0, 0, none⟩)), (.int .i64 a1)] w ((b_a0, Obj.cells (#[v_a0_b] : Array Value) 221 (0, 0)) :: (R_a0_b ++ [])) (fun v L1 W' => ∃ (y1 : Value) (S2 : List (Nat × Obj)), v = (.bool (r.1)) ∧ L1 = ((b_a0, Obj.cells (#[y1] : Array Value) 221 (0, 0)) :: (S2 ++ [])) ∧ Row 5 (encIk .u8) 1 y1 r.2 S2) := by
  have hST := (ST.startM (dd := true) hH hN).weak hS0
  unfold m_tape_Pen_Number_w at hm
  refine calls_of_CW (n := 38) Tryz.func203 rfl rfl (Nat.le_of_ble_eq_true rfl) ?_
  refine CW_seq ?_
  refine CW_region ?_
  refine LV (R_assign (v := (.bool false)) rfl) ?_
  refine LW_nil ?_
  refine sq_n ?_
  refine CW_seq ?_
  refine CW_seq ?_
  refine CW_region ?_
  refine LV (R_move (v := (.pointer (some ⟨b_a0, 0, none⟩))) rfl) ?_
  refine LV (R_ptrEqNil Tryz.underlying219 rfl rfl) ?_
  refine LV (R_move (v := (.bool false)) rfl) ?_
  refine LW_v (.inr ⟨2, false, 7, rfl, rfl, by decide, rfl⟩) rfl (by decide) (R_move (v := (.int .i64 a1)) rfl) ?_
  refine LW_v (.inr ⟨2, false, 7, rfl, rfl, by decide, rfl⟩) rfl (by decide) (R_int (k := .i64) (a := a1) (b := 0) (v := (.bool ((decide (a1 < 0))))) rfl rfl rfl) ?_
  refine LV (R_pickF (v := (.bool ((decide (a1 < 0))))) rfl rfl) ?_
  refine LW_nil ?_
  refine sq_n ?_
  refine CW_if (b := (decide (a1 < 0))) rfl (fun hb1 => ?_) (fun hb1 => ?_)
  · replace hm := if_t hb1 hm
    refine CW_seq ?_
    refine CW_region ?_
    refine LV (R_assign (v := (.bool false)) rfl) ?_
    refine LW_nil ?_
    refine sq_n ?_
    refine CW_ret ?_
    refine sq_r ?_
    replace hm := Option.some.inj hm; subst hm
    refine retQ_1 (v := (.bool false)) rfl rfl ?_
    replace hST : ST true (keys ((b_a0, Obj.cells (#[v_a0_b] : Array Value) 221 (0, 0)) :: (R_a0_b ++ []))) w _ _ ((b_a0, Obj.cells (#[v_a0_b] : Array Value) 221 (0, 0)) :: (R_a0_b ++ [])) := hST
    exact ⟨_, ((b_a0, Obj.cells (#[v_a0_b] : Array Value) 221 (0, 0)) :: (R_a0_b ++ [])), rfl, (ST.backM (L1 := ((b_a0, Obj.cells (#[v_a0_b] : Array Value) 221 (0, 0)) :: (R_a0_b ++ []))) (by have hh : ST true (keys ((b_a0, Obj.cells (#[v_a0_b] : Array Value) 221 (0, 0)) :: (R_a0_b ++ []))) w _ _ ((b_a0, Obj.cells (#[v_a0_b] : Array Value) 221 (0, 0)) :: (R_a0_b ++ [])) := hST.perm (List.Perm.refl _); simpa only [List.append_assoc, List.cons_append, List.nil_append] using hh)), v_a0_b, R_a0_b, rfl, rfl, h_a0_b⟩
  · replace hm := if_f hb1 hm
    refine CW_skip ?_
    refine sq_n ?_
    refine CW_seq ?_
    refine CW_block (CW_loop (fun m E W => ∃ (x67 : Int) (v68 : Value) (l69 : List Int) (R71 : List (Nat × Obj)) (L91 : List (Nat × Obj)), ST true (keys ((b_a0, Obj.cells (#[v_a0_b] : Array Value) 221 (0, 0)) :: (R_a0_b ++ []))) w W μ0 ((b_a0, Obj.cells (#[v68] : Array Value) 221 (0, 0)) :: (R71 ++ L91)) ∧ E 0 = (.pointer (some ⟨b_a0, 0, none⟩)) ∧ E 1 = (.int .i64 x67) ∧ Row 5 (encIk .u8) 1 v68 l69 R71 ∧ m_tape_Pen_Number_w_L1 m x67 l69 = some r) FUEL ⟨a1, v_a0_b, a0_b, R_a0_b, _, (hST.sublist (List.Sublist.refl _)), rfl, rfl, h_a0_b, hm⟩ ?_)
    rintro m E W ⟨x67, v68, l69, R71, L91, hST, e94, e95, hs70, hm92⟩
    cases m with
    | zero => rw [m_tape_Pen_Number_w_L1] at hm92; cases hm92
    | succ n93 =>
      rw [m_tape_Pen_Number_w_L1] at hm92
      refine CW_seq ?_
      refine CW_seq ?_
      refine CW_region ?_
      refine LV (R_move (v := (.int .i64 x67)) e95) ?_
      refine LV (R_int (k := .i64) (a := x67) (b := 128) (v := (.bool ((decide (x67 ≥ 128))))) rfl rfl rfl) ?_
      refine LW_nil ?_
      refine sq_n ?_
      refine CW_if (b := (decide (x67 ≥ 128))) rfl (fun hb96 => ?_) (fun hb96 => ?_)
      · replace hm92 := if_t hb96 hm92
        refine CW_skip ?_
        refine sq_n ?_
        refine CW_seq ?_
        refine CW_block ?_
        refine CW_region ?_
        refine LV (R_move (v := (.pointer (some ⟨b_a0, 0, none⟩))) e94) ?_
        refine LV (R_move (v := (.pointer (some ⟨b_a0, 0, none⟩))) e94) ?_
        refine LV (R_nilCheck rfl) ?_
        refine LV (R_field fa221_0 rfl) ?_
        refine LV (R_load (v := v68) rfl (load_box1 hST.has (.head _) rfl Tryz.isAgg189)) ?_
        refine LV (R_move (v := (.int .i64 x67)) e95) ?_
        refine LV (R_convInt (k' := .i64) (a := x67) Tryz.underlying3 Tryz.underlying5 rfl) ?_
        refine LV (R_div (k := .u8) (a := ((IntKind.u8.wrap x67))) (b := 128) (v := (.int .u8 ((IntKind.u8.wrap (BitVec.ofInt (IntKind.bits .u8) ((IntKind.u8.wrap x67)) ||| BitVec.ofInt (IntKind.bits .u8) 128).toNat)))) rfl rfl (by decide) rfl) ?_
        refine LE (E_buildSlice (qs := #[(0, (.int .u8 ((IntKind.u8.wrap (BitVec.ofInt (IntKind.bits .u8) ((IntKind.u8.wrap x67)) ||| BitVec.ofInt (IntKind.bits .u8) 128).toNat))))]) (cs := [(.int .u8 ((IntKind.u8.wrap (BitVec.ofInt (IntKind.bits .u8) ((IntKind.u8.wrap x67)) ||| BitVec.ofInt (IntKind.bits .u8) 128).toNat)))].toArray) hST (parts1 rfl) (run_lit [(.int .u8 ((IntKind.u8.wrap (BitVec.ofInt (IntKind.bits .u8) ((IntKind.u8.wrap x67)) ||| BitVec.ofInt (IntKind.bits .u8) 128).toNat)))] Tryz.underlying189 Tryz.sizeOf5 Tryz.zeroValue5 (by decide) rfl (by intro v hv; simp only [List.mem_cons, List.not_mem_nil, or_false] at hv; rcases hv with rfl <;> rfl) rfl rfl) (fun W98 b97 hST => ?_))
        obtain ⟨l99, hb100, hm92⟩ := bind_some hm92
        refine LE (E_append (enc := (encIk .u8)) (v := v68) (vs := (.slice (some ⟨b97, 0, none⟩) 1 1)) (R := R71) [_, _] hST (fun _ => rfl) (by decide) (oneI _) Tryz.underlying189 info5.1 info5.2.1 rfl info5.2.2.1 info5.2.2.2 rfl rfl hs70 (Sl.lit (enc := (encIk .u8)) (l := [(IntKind.u8.wrap (BitVec.ofInt (IntKind.bits .u8) ((IntKind.u8.wrap x67)) ||| BitVec.ofInt (IntKind.bits .u8) 128).toNat)]) (fun _ => rfl) rfl (Nat.le_of_ble_eq_true rfl) rfl (hST.at_ (.head _))) hb100 (fun W101 v104 R102 hST hR103 => ?_))
        refine LV (R_nilCheck rfl) ?_
        refine LV (R_field fa221_0 rfl) ?_
        obtain ⟨A105, c106, rfl⟩ := hR103.form
        refine LW_e0 (.inl rfl) rfl (E_store [_] (.slice A105 l99.length c106) (#[(.slice A105 l99.length c106)]) hST rfl rfl Tryz.sizeOf189 (by simp [Value.cells, Value.oneCell']) (Nat.le_of_ble_eq_true rfl) rfl (fun W107 hST => ?_))
        refine LW_nil ?_
        refine bq_n ?_
        refine sq_n ?_
        replace hST : ST true (keys ((b_a0, Obj.cells (#[v_a0_b] : Array Value) 221 (0, 0)) :: (R_a0_b ++ []))) w _ _ ((b97, Obj.cells ([(.int .u8 ((IntKind.u8.wrap (BitVec.ofInt (IntKind.bits .u8) ((IntKind.u8.wrap x67)) ||| BitVec.ofInt (IntKind.bits .u8) 128).toNat)))].toArray : Array Value) 5 (0, 0)) :: ((b_a0, Obj.cells (#[(.slice A105 l99.length c106)] : Array Value) 221 (0, 0)) :: (R102 ++ L91))) := hST
        replace hST : ST true (keys ((b_a0, Obj.cells (#[v_a0_b] : Array Value) 221 (0, 0)) :: (R_a0_b ++ []))) w _ _ ((b_a0, Obj.cells (#[(.slice A105 l99.length c106)] : Array Value) 221 (0, 0)) :: (R102 ++ L91)) := hST.sublist (List.Sublist.cons _ (List.Sublist.refl _))
        refine CW_region ?_
        refine LV (R_move (v := (.int .i64 x67)) e95) ?_
        refine LV (R_shr (a := x67) (b := 7) rfl rfl (by decide)) ?_
        refine LV (R_assign (v := (.int .i64 ((Int.fdiv x67 (2 ^ min (Int.toNat 7) (IntKind.bits .i64)))))) rfl) ?_
        refine LW_nil ?_
        refine sq_n ?_
        exact ⟨n93, Nat.lt_succ_self _, ((Int.fdiv x67 (2 ^ min (Int.toNat 7) (IntKind.bits .i64)))), (.slice A105 l99.length c106), l99, R102, _, (hST.sublist (List.Sublist.refl _)), e94, rfl, hR103, hm92⟩
      · replace hm92 := if_f hb96 hm92
        refine CW_exit ?_
        refine sq_e (sq_e (bq_e ?_))
        refine sq_n ?_
        refine CW_seq ?_
        refine CW_region ?_
        refine LV (R_move (v := (.pointer (some ⟨b_a0, 0, none⟩))) e94) ?_
        refine LV (R_move (v := (.pointer (some ⟨b_a0, 0, none⟩))) e94) ?_
        refine LV (R_nilCheck rfl) ?_
        refine LV (R_field fa221_0 rfl) ?_
        refine LV (R_load (v := v68) rfl (load_box1 hST.has (.head _) rfl Tryz.isAgg189)) ?_
        refine LV (R_move (v := (.int .i64 x67)) e95) ?_
        refine LV (R_convInt (k' := .i64) (a := x67) Tryz.underlying3 Tryz.underlying5 rfl) ?_
        refine LE (E_buildSlice (qs := #[(0, (.int .u8 ((IntKind.u8.wrap x67))))]) (cs := [(.int .u8 ((IntKind.u8.wrap x67)))].toArray) hST (parts1 rfl) (run_lit [(.int .u8 ((IntKind.u8.wrap x67)))] Tryz.underlying189 Tryz.sizeOf5 Tryz.zeroValue5 (by decide) rfl (by intro v hv; simp only [List.mem_cons, List.not_mem_nil, or_false] at hv; rcases hv with rfl <;> rfl) rfl rfl) (fun W109 b108 hST => ?_))
        obtain ⟨l110, hb111, hm92⟩ := bind_some hm92
        refine LE (E_append (enc := (encIk .u8)) (v := v68) (vs := (.slice (some ⟨b108, 0, none⟩) 1 1)) (R := R71) [_, _] hST (fun _ => rfl) (by decide) (oneI _) Tryz.underlying189 info5.1 info5.2.1 rfl info5.2.2.1 info5.2.2.2 rfl rfl hs70 (Sl.lit (enc := (encIk .u8)) (l := [(IntKind.u8.wrap x67)]) (fun _ => rfl) rfl (Nat.le_of_ble_eq_true rfl) rfl (hST.at_ (.head _))) hb111 (fun W112 v115 R113 hST hR114 => ?_))
        refine LV (R_nilCheck rfl) ?_
        refine LV (R_field fa221_0 rfl) ?_
        obtain ⟨A116, c117, rfl⟩ := hR114.form
        refine LW_e0 (.inl rfl) rfl (E_store [_] (.slice A116 l110.length c117) (#[(.slice A116 l110.length c117)]) hST rfl rfl Tryz.sizeOf189 (by simp [Value.cells, Value.oneCell']) (Nat.le_of_ble_eq_true rfl) rfl (fun W118 hST => ?_))
        refine LW_nil ?_
        refine sq_n ?_
        replace hST : ST true (keys ((b_a0, Obj.cells (#[v_a0_b] : Array Value) 221 (0, 0)) :: (R_a0_b ++ []))) w _ _ ((b108, Obj.cells ([(.int .u8 ((IntKind.u8.wrap x67)))].toArray : Array Value) 5 (0, 0)) :: ((b_a0, Obj.cells (#[(.slice A116 l110.length c117)] : Array Value) 221 (0, 0)) :: (R113 ++ L91))) := hST
        replace hST : ST true (keys ((b_a0, Obj.cells (#[v_a0_b] : Array Value) 221 (0, 0)) :: (R_a0_b ++ []))) w _ _ ((b_a0, Obj.cells (#[(.slice A116 l110.length c117)] : Array Value) 221 (0, 0)) :: (R113 ++ L91)) := hST.sublist (List.Sublist.cons _ (List.Sublist.refl _))
        refine CW_seq ?_
        refine CW_region ?_
        refine LV (R_assign (v := (.bool true)) rfl) ?_
        refine LW_nil ?_
        refine sq_n ?_
        refine CW_ret ?_
        replace hm92 := Option.some.inj hm92; subst hm92
        refine retQ_1 (v := (.bool true)) rfl rfl ?_
        replace hST : ST true (keys ((b_a0, Obj.cells (#[v_a0_b] : Array Value) 221 (0, 0)) :: (R_a0_b ++ []))) w _ _ ((b_a0, Obj.cells (#[(.slice A116 l110.length c117)] : Array Value) 221 (0, 0)) :: (R113 ++ L91)) := hST
        exact ⟨_, ((b_a0, Obj.cells (#[(.slice A116 l110.length c117)] : Array Value) 221 (0, 0)) :: (R113 ++ [])), rfl, (ST.backM (L1 := ((b_a0, Obj.cells (#[(.slice A116 l110.length c117)] : Array Value) 221 (0, 0)) :: (R113 ++ []))) (by have hh : ST true (keys ((b_a0, Obj.cells (#[v_a0_b] : Array Value) 221 (0, 0)) :: (R_a0_b ++ []))) w _ _ ((b_a0, Obj.cells (#[(.slice A116 l110.length c117)] : Array Value) 221 (0, 0)) :: (R113 ++ L91)) := hST.perm (List.Perm.refl _); simpa only [List.append_assoc, List.cons_append, List.nil_append] using hh)), (.slice A116 l110.length c117), R113, rfl, rfl, hR114⟩
theorem w_tape_Pen_Text_w (b_a0 : Nat) (v_a0_b : Value) (a0_b : List Int) (R_a0_b : List (Nat × Obj)) (v_a1 : Value) (a1 : List Int) (r : (Bool × (List Int))) (w : World) {μ0 : Mem} (hH : Held ((b_a0, Obj.cells (#[v_a0_b] : Array Value) 221 (0, 0)) :: (R_a0_b ++ [])) w) (hN : ((((b_a0, Obj.cells (#[v_a0_b] : Array Value) 221 (0, 0)) :: (R_a0_b ++ [])) : List (Nat × Obj)).map (·.1)).Nodup) (hS0 : Sub μ0 (hpx w ((b_a0, Obj.cells (#[v_a0_b] : Array Value) 221 (0, 0)) :: (R_a0_b ++ [])))) (h_a0_b : Row 5 (encIk .u8) 1 v_a0_b a0_b R_a0_b) (h_a1 : Sl (Pl (encIk .u8)) 1 μ0 v_a1 a1) (hm : m_tape_Pen_Text_w a0_b a1 = some r) :
    GivesM true Tryz.prog 239 [(.pointer (some ⟨b_a0, 0, none⟩)), v_a1] w ((b_a0, Obj.cells (#[v_a0_b] : Array Value) 221 (0, 0)) :: (R_a0_b ++ [])) (fun v L1 W' => ∃ (y1 : Value) (S2 : List (Nat × Obj)), v = (.bool (r.1)) ∧ L1 = ((b_a0, Obj.cells (#[y1] : Array Value) 221 (0, 0)) :: (S2 ++ [])) ∧ Row 5 (encIk .u8) 1 y1 r.2 S2) := by
  have hST := (ST.startM (dd := true) hH hN).weak hS0
  unfold m_tape_Pen_Text_w at hm
  refine calls_of_CW (n := 25) Tryz.func239 rfl rfl (Nat.le_of_ble_eq_true rfl) ?_
  refine CW_seq ?_
  refine CW_region ?_
  refine LV (R_assign (v := (.bool false)) rfl) ?_
  refine LW_nil ?_
  refine sq_n ?_
  refine CW_seq ?_
  refine CW_seq ?_
  refine CW_region ?_
  refine LV (R_move (v := (.pointer (some ⟨b_a0, 0, none⟩))) rfl) ?_
  refine LV (R_ptrEqNil Tryz.underlying219 rfl rfl) ?_
  refine LV (R_move (v := (.bool false)) rfl) ?_
  refine LW_v (.inr ⟨2, false, 7, rfl, rfl, by decide, rfl⟩) rfl (by decide) (R_move (v := v_a1) rfl) ?_
  refine LW_v (.inr ⟨2, false, 7, rfl, rfl, by decide, rfl⟩) rfl (by decide) (R_len Tryz.underlying189 rfl h_a1) ?_
  refine LW_v (.inr ⟨2, false, 7, rfl, rfl, by decide, rfl⟩) rfl (by decide) (R_int (k := .i64) (a := ((a1.length : Int))) (b := 2048) (v := (.bool ((decide (((a1.length : Int)) > 2048))))) rfl rfl rfl) ?_
  refine LV (R_pickF (v := (.bool ((decide (((a1.length : Int)) > 2048))))) rfl rfl) ?_
  refine LW_nil ?_
  refine sq_n ?_
  refine CW_if (b := (decide (((a1.length : Int)) > 2048))) rfl (fun hb1 => ?_) (fun hb1 => ?_)
  · replace hm := if_t hb1 hm
    refine CW_seq ?_
    refine CW_region ?_
    refine LV (R_assign (v := (.bool false)) rfl) ?_
    refine LW_nil ?_
    refine sq_n ?_
    refine CW_ret ?_
    refine sq_r ?_
    replace hm := Option.some.inj hm; subst hm
    refine retQ_1 (v := (.bool false)) rfl rfl ?_
    replace hST : ST true (keys ((b_a0, Obj.cells (#[v_a0_b] : Array Value) 221 (0, 0)) :: (R_a0_b ++ []))) w _ _ ((b_a0, Obj.cells (#[v_a0_b] : Array Value) 221 (0, 0)) :: (R_a0_b ++ [])) := hST
    exact ⟨_, ((b_a0, Obj.cells (#[v_a0_b] : Array Value) 221 (0, 0)) :: (R_a0_b ++ [])), rfl, (ST.backM (L1 := ((b_a0, Obj.cells (#[v_a0_b] : Array Value) 221 (0, 0)) :: (R_a0_b ++ []))) (by have hh : ST true (keys ((b_a0, Obj.cells (#[v_a0_b] : Array Value) 221 (0, 0)) :: (R_a0_b ++ []))) w _ _ ((b_a0, Obj.cells (#[v_a0_b] : Array Value) 221 (0, 0)) :: (R_a0_b ++ [])) := hST.perm (List.Perm.refl _); simpa only [List.append_assoc, List.cons_append, List.nil_append] using hh)), v_a0_b, R_a0_b, rfl, rfl, h_a0_b⟩
  · replace hm := if_f hb1 hm
    refine CW_skip ?_
    refine sq_n ?_
    refine CW_seq ?_
    refine CW_region ?_
    refine LV (R_move (v := (.pointer (some ⟨b_a0, 0, none⟩))) rfl) ?_
    refine LV (R_move (v := v_a1) rfl) ?_
    refine LV (R_len Tryz.underlying189 rfl h_a1) ?_
    obtain ⟨r2, hr3, hm⟩ := bind_some hm
    replace hST : ST true (keys ((b_a0, Obj.cells (#[v_a0_b] : Array Value) 221 (0, 0)) :: (R_a0_b ++ []))) w _ _ ((b_a0, Obj.cells (#[v_a0_b] : Array Value) 221 (0, 0)) :: (R_a0_b ++ [])) := hST.perm (List.Perm.refl _)
    have hsz := hST.size
    refine LE (E_callM (args := [(.pointer (some ⟨b_a0, 0, none⟩)), (.int .i64 ((a1.length : Int)))]) (caps := #[]) (((b_a0, Obj.cells (#[v_a0_b] : Array Value) 221 (0, 0)) :: (R_a0_b ++ []))) ([]) hST (by simp only [List.append_assoc, List.cons_append, List.nil_append]; exact List.Perm.refl _) rfl Tryz.call203 (by exact args2 rfl rfl) (fun hH hN hsb hmm => (w_tape_Pen_Number_w b_a0 v_a0_b a0_b R_a0_b ((a1.length : Int)) _ _ hH hN (Sub.refl _) h_a0_b hr3)) (fun W4 v7 μ5 L9 hST hle6 hlift hK8 => ?_))
    obtain ⟨y10, S11, hv13, rfl, hy12⟩ := hK8
    replace hv13 := hv13.symm; subst hv13
    simp only [List.append_assoc, List.cons_append, List.nil_append] at hST
    refine LW_nil ?_
    refine sq_n ?_
    refine CW_seq ?_
    refine CW_region ?_
    refine LV (R_move (v := (.pointer (some ⟨b_a0, 0, none⟩))) rfl) ?_
    refine LV (R_move (v := (.pointer (some ⟨b_a0, 0, none⟩))) rfl) ?_
    refine LV (R_nilCheck rfl) ?_
    refine LV (R_field fa221_0 rfl) ?_
    refine LV (R_load (v := y10) rfl (load_box1 hST.has (.head _) rfl Tryz.isAgg189)) ?_
    refine LV (R_move (v := v_a1) rfl) ?_
    replace hST : ST true (keys ((b_a0, Obj.cells (#[v_a0_b] : Array Value) 221 (0, 0)) :: (R_a0_b ++ []))) w _ _ ((b_a0, Obj.cells (#[y10] : Array Value) 221 (0, 0)) :: (S11 ++ [])) := hST
    obtain ⟨l14, hb15, hm⟩ := bind_some hm
    refine LE (E_append (enc := (encIk .u8)) (v := y10) (vs := v_a1) (R := S11) [_] hST (fun _ => rfl) (by decide) (oneI _) Tryz.underlying189 info5.1 info5.2.1 rfl info5.2.2.1 info5.2.2.2 rfl rfl hy12 (h_a1.mono (Pl.mono _) (hle6.trans hST.sub_hp)) hb15 (fun W16 v19 R17 hST hR18 => ?_))
    refine LV (R_nilCheck rfl) ?_
    refine LV (R_field fa221_0 rfl) ?_
    obtain ⟨A20, c21, rfl⟩ := hR18.form
    refine LW_e0 (.inl rfl) rfl (E_store [] (.slice A20 l14.length c21) (#[(.slice A20 l14.length c21)]) hST rfl rfl Tryz.sizeOf189 (by simp [Value.cells, Value.oneCell']) (Nat.le_of_ble_eq_true rfl) rfl (fun W22 hST => ?_))
    refine LW_nil ?_
    refine sq_n ?_
    refine CW_seq ?_
    refine CW_region ?_
    refine LV (R_assign (v := (.bool true)) rfl) ?_
    refine LW_nil ?_
    refine sq_n ?_
    refine CW_ret ?_
    replace hm := Option.some.inj hm; subst hm
    refine retQ_1 (v := (.bool true)) rfl rfl ?_
    replace hST : ST true (keys ((b_a0, Obj.cells (#[v_a0_b] : Array Value) 221 (0, 0)) :: (R_a0_b ++ []))) w _ _ ((b_a0, Obj.cells (#[(.slice A20 l14.length c21)] : Array Value) 221 (0, 0)) :: (R17 ++ [])) := hST
    exact ⟨_, ((b_a0, Obj.cells (#[(.slice A20 l14.length c21)] : Array Value) 221 (0, 0)) :: (R17 ++ [])), rfl, (ST.backM (L1 := ((b_a0, Obj.cells (#[(.slice A20 l14.length c21)] : Array Value) 221 (0, 0)) :: (R17 ++ []))) (by have hh : ST true (keys ((b_a0, Obj.cells (#[v_a0_b] : Array Value) 221 (0, 0)) :: (R_a0_b ++ []))) w _ _ ((b_a0, Obj.cells (#[(.slice A20 l14.length c21)] : Array Value) 221 (0, 0)) :: (R17 ++ [])) := hST.perm (List.Perm.refl _); simpa only [List.append_assoc, List.cons_append, List.nil_append] using hh)), (.slice A20 l14.length c21), R17, rfl, rfl, hR18⟩
theorem w_name_Put_w (b_a0 : Nat) (v_a0_b : Value) (a0_b : List Int) (R_a0_b : List (Nat × Obj)) (a1 : ByteArray) (r : (Bool × (List Int))) (w : World) {μ0 : Mem} (hH : Held ((b_a0, Obj.cells (#[v_a0_b] : Array Value) 221 (0, 0)) :: (R_a0_b ++ [])) w) (hN : ((((b_a0, Obj.cells (#[v_a0_b] : Array Value) 221 (0, 0)) :: (R_a0_b ++ [])) : List (Nat × Obj)).map (·.1)).Nodup) (hS0 : Sub μ0 (hpx w ((b_a0, Obj.cells (#[v_a0_b] : Array Value) 221 (0, 0)) :: (R_a0_b ++ [])))) (h_a0_b : Row 5 (encIk .u8) 1 v_a0_b a0_b R_a0_b) (hm : m_name_Put_w a0_b a1 = some r) :
    GivesM true Tryz.prog 205 [(.pointer (some ⟨b_a0, 0, none⟩)), (.string a1)] w ((b_a0, Obj.cells (#[v_a0_b] : Array Value) 221 (0, 0)) :: (R_a0_b ++ [])) (fun v L1 W' => ∃ (y1 : Value) (S2 : List (Nat × Obj)), v = (.bool (r.1)) ∧ L1 = ((b_a0, Obj.cells (#[y1] : Array Value) 221 (0, 0)) :: (S2 ++ [])) ∧ Row 5 (encIk .u8) 1 y1 r.2 S2) := by
  have hST := (ST.startM (dd := true) hH hN).weak hS0
  unfold m_name_Put_w at hm
  refine calls_of_CW (n := 17) Tryz.func205 rfl rfl (Nat.le_of_ble_eq_true rfl) ?_
  refine CW_seq ?_
  refine CW_region ?_
  refine LV (R_assign (v := (.bool false)) rfl) ?_
  refine LW_nil ?_
  refine sq_n ?_
  refine CW_seq ?_
  refine CW_region ?_
  refine LV (R_move (v := (.pointer (some ⟨b_a0, 0, none⟩))) rfl) ?_
  refine LV (R_ptrNeNil Tryz.underlying219 rfl rfl) ?_
  refine LV (R_move (v := (.bool true)) rfl) ?_
  refine LW_v (.inr ⟨2, true, 7, rfl, rfl, by decide, rfl⟩) rfl (by decide) (R_move (v := (.string a1)) rfl) ?_
  obtain ⟨r1, hr2, hm⟩ := bind_some hm
  refine LW_e (.inr ⟨2, true, 7, rfl, rfl, by decide, rfl⟩) rfl (by decide) (E_gives (args := [(.string a1)]) hST rfl Tryz.call134 (by exact args1 rfl) ((w_name_Right a1 _ _  hr2)) (fun W3 hST => ?_))
  refine LV (R_pickT (v := (.bool r1)) rfl rfl) ?_
  refine LV (R_move (v := (.bool r1)) rfl) ?_
  obtain ⟨s36, hm37, hm38⟩ := bind_some hm
  refine LW_join (J := fun E W => ∃ (x26 : Bool) (v27 : Value) (l28 : List Int) (R30 : List (Nat × Obj)) (μ25 : Mem) (L31 : List (Nat × Obj)), Sub μ0 μ25 ∧ ST true (keys ((b_a0, Obj.cells (#[v_a0_b] : Array Value) 221 (0, 0)) :: (R_a0_b ++ []))) w W μ25 ((b_a0, Obj.cells (#[v27] : Array Value) 221 (0, 0)) :: (R30 ++ L31)) ∧ E 4 = (.bool false) ∧ E 16 = (.bool x26) ∧ Row 5 (encIk .u8) 1 v27 l28 R30 ∧ some (x26, l28) = some r) 5 ?_ (fun key39 => ?_)
  · rintro E W ⟨x26, v27, l28, R30, μ25, L31, hle33, hST, e34, e35, hs29, hm32⟩
    refine LV (R_assign (v := (.bool x26)) e35) ?_
    refine LW_nil ?_
    refine sq_n ?_
    refine CW_ret ?_
    replace hm32 := Option.some.inj hm32; subst hm32
    refine retQ_1 (v := (.bool x26)) rfl rfl ?_
    replace hST : ST true (keys ((b_a0, Obj.cells (#[v_a0_b] : Array Value) 221 (0, 0)) :: (R_a0_b ++ []))) w _ _ ((b_a0, Obj.cells (#[v27] : Array Value) 221 (0, 0)) :: (R30 ++ L31)) := hST
    exact ⟨_, ((b_a0, Obj.cells (#[v27] : Array Value) 221 (0, 0)) :: (R30 ++ [])), rfl, (ST.backM (L1 := ((b_a0, Obj.cells (#[v27] : Array Value) 221 (0, 0)) :: (R30 ++ []))) (by have hh : ST true (keys ((b_a0, Obj.cells (#[v_a0_b] : Array Value) 221 (0, 0)) :: (R_a0_b ++ []))) w _ _ ((b_a0, Obj.cells (#[v27] : Array Value) 221 (0, 0)) :: (R30 ++ L31)) := hST.perm (List.Perm.refl _); simpa only [List.append_assoc, List.cons_append, List.nil_append] using hh)), v27, R30, rfl, rfl, hs29⟩
  · rcases bool_cases r1 with hb4 | hb4
    · replace hm37 := if_t hb4 hm37
      refine LW_v (.inr ⟨6, true, 11, rfl, rfl, by decide, (congrArg Value.bool hb4)⟩) rfl (by decide) (R_move (v := (.pointer (some ⟨b_a0, 0, none⟩))) rfl) ?_
      refine LW_v (.inr ⟨6, true, 11, rfl, rfl, by decide, (congrArg Value.bool hb4)⟩) rfl (by decide) (R_move (v := (.string a1)) rfl) ?_
      obtain ⟨l40, hr41, hm37⟩ := bind_some hm37
      refine LW_e (.inr ⟨6, true, 11, rfl, rfl, by decide, (congrArg Value.bool hb4)⟩) rfl (by decide) (E_bytesOf hST Tryz.underlying9 Tryz.underlying189 Tryz.underlying5 rfl hr41 (fun W42 v43 μ44 hST hle45 hs46 hf47 => ?_))
      obtain ⟨r48, hr49, hm37⟩ := bind_some hm37
      replace hST : ST true (keys ((b_a0, Obj.cells (#[v_a0_b] : Array Value) 221 (0, 0)) :: (R_a0_b ++ []))) w _ _ ((b_a0, Obj.cells (#[v_a0_b] : Array Value) 221 (0, 0)) :: (R_a0_b ++ [])) := hST.perm (List.Perm.refl _)
      have hsz := hST.size
      refine LW_e (.inr ⟨6, true, 11, rfl, rfl, by decide, (congrArg Value.bool hb4)⟩) rfl (by decide) (E_callM (args := [(.pointer (some ⟨b_a0, 0, none⟩)), v43]) (caps := #[]) (((b_a0, Obj.cells (#[v_a0_b] : Array Value) 221 (0, 0)) :: (R_a0_b ++ []))) ([]) hST (by simp only [List.append_assoc, List.cons_append, List.nil_append]; exact List.Perm.refl _) rfl Tryz.call239 (by exact args2 rfl rfl) (fun hH hN hsb hmm => (w_tape_Pen_Text_w b_a0 v_a0_b a0_b R_a0_b v43 l40 _ _ hH hN (Sub.refl _) h_a0_b (hs46.mono (Pl.mono _) hsb) hr49)) (fun W50 v53 μ51 L55 hST hle52 hlift hK54 => ?_))
      obtain ⟨y56, S57, hv59, rfl, hy58⟩ := hK54
      replace hv59 := hv59.symm; subst hv59
      simp only [List.append_assoc, List.cons_append, List.nil_append] at hST
      refine LV (R_pickT (v := (.bool r48.1)) (congrArg Value.bool hb4) rfl) ?_
      replace hm37 := Option.some.inj hm37; subst hm37
      replace hST : ST true (keys ((b_a0, Obj.cells (#[v_a0_b] : Array Value) 221 (0, 0)) :: (R_a0_b ++ []))) w _ _ ((b_a0, Obj.cells (#[y56] : Array Value) 221 (0, 0)) :: (S57 ++ [])) := hST
      exact key39 _ _ ⟨r48.1, y56, r48.2, S57, μ51, _, (hle45.trans hle52), (hST.sublist (List.Sublist.refl _)), rfl, rfl, hy58, hm38⟩
    · replace hm37 := if_f hb4 hm37
      refine LW_no rfl (by decide) rfl rfl (by decide) (congrArg Value.bool hb4) ?_
      refine LW_no rfl (by decide) rfl rfl (by decide) (congrArg Value.bool hb4) ?_
      refine LW_no rfl (by decide) rfl rfl (by decide) (congrArg Value.bool hb4) ?_
      refine LW_no rfl (by decide) rfl rfl (by decide) (congrArg Value.bool hb4) ?_
      refine LV (R_pickF (v := (.bool false)) (congrArg Value.bool hb4) rfl) ?_
      replace hm37 := Option.some.inj hm37; subst hm37
      exact key39 _ _ ⟨false, v_a0_b, a0_b, R_a0_b, μ0, _, (Sub.refl _), (hST.sublist (List.Sublist.refl _)), rfl, rfl, h_a0_b, hm38⟩
theorem w_role_Put_w (b_a0 : Nat) (v_a0_b : Value) (a0_b : List Int) (R_a0_b : List (Nat × Obj)) (a1 : Role) (r : (Bool × (List Int))) (w : World) {μ0 : Mem} (hH : Held ((b_a0, Obj.cells (#[v_a0_b] : Array Value) 221 (0, 0)) :: (R_a0_b ++ [])) w) (hN : ((((b_a0, Obj.cells (#[v_a0_b] : Array Value) 221 (0, 0)) :: (R_a0_b ++ [])) : List (Nat × Obj)).map (·.1)).Nodup) (hS0 : Sub μ0 (hpx w ((b_a0, Obj.cells (#[v_a0_b] : Array Value) 221 (0, 0)) :: (R_a0_b ++ [])))) (h_a0_b : Row 5 (encIk .u8) 1 v_a0_b a0_b R_a0_b) (hm : m_role_Put_w a0_b a1 = some r) :
    GivesM true Tryz.prog 204 [(.pointer (some ⟨b_a0, 0, none⟩)), (.agg (encRole a1).toArray)] w ((b_a0, Obj.cells (#[v_a0_b] : Array Value) 221 (0, 0)) :: (R_a0_b ++ [])) (fun v L1 W' => ∃ (y1 : Value) (S2 : List (Nat × Obj)), v = (.bool (r.1)) ∧ L1 = ((b_a0, Obj.cells (#[y1] : Array Value) 221 (0, 0)) :: (S2 ++ [])) ∧ Row 5 (encIk .u8) 1 y1 r.2 S2) := by
  have hST := (ST.startM (dd := true) hH hN).weak hS0
  unfold m_role_Put_w at hm
  refine calls_of_CW (n := 23) Tryz.func204 rfl rfl (Nat.le_of_ble_eq_true rfl) ?_
  refine CW_seq ?_
  refine CW_region ?_
  refine LE (E_box (v := (.agg (encRole a1).toArray)) hST rfl (fun W2 b1 hST => ?_))
  refine LV (R_assign (v := (.bool false)) rfl) ?_
  refine LW_nil ?_
  refine sq_n ?_
  refine CW_seq ?_
  refine CW_region ?_
  refine LV (R_move (v := (.pointer (some ⟨b_a0, 0, none⟩))) rfl) ?_
  refine LV (R_ptrNeNil Tryz.underlying219 rfl rfl) ?_
  refine LV (R_move (v := (.bool true)) rfl) ?_
  refine LW_v (.inr ⟨2, true, 7, rfl, rfl, by decide, rfl⟩) rfl (by decide) (R_load (v := (.agg (encRole a1).toArray)) rfl (load_boxA hST.has (.head _) (encRole a1) rfl Tryz.isAgg47 Tryz.sizeOf47)) ?_
  obtain ⟨r3, hr4, hm⟩ := bind_some hm
  refine LW_e (.inr ⟨2, true, 7, rfl, rfl, by decide, rfl⟩) rfl (by decide) (E_gives (args := [(.agg (encRole a1).toArray)]) hST rfl Tryz.call131 (by exact args1 rfl) ((w_role_Right a1 _ _  hr4)) (fun W5 hST => ?_))
  refine LV (R_pickT (v := (.bool r3)) rfl rfl) ?_
  refine LV (R_move (v := (.bool r3)) rfl) ?_
  obtain ⟨s72, hm73, hm74⟩ := bind_some hm
  refine LW_join (J := fun E W => ∃ (x20 : Bool) (v21 : Value) (l22 : List Int) (R24 : List (Nat × Obj)) (μ19 : Mem) (L25 : List (Nat × Obj)), Sub μ0 μ19 ∧ ST true (keys ((b_a0, Obj.cells (#[v_a0_b] : Array Value) 221 (0, 0)) :: (R_a0_b ++ []))) w W μ19 ((b1, Obj.cells ((encRole a1).toArray : Array Value) 47 (0, 0)) :: ((b_a0, Obj.cells (#[v21] : Array Value) 221 (0, 0)) :: (R24 ++ L25))) ∧ E 0 = (.pointer (some ⟨b_a0, 0, none⟩)) ∧ E 3 = (.pointer (some ⟨b1, 0, none⟩)) ∧ E 4 = (.bool false) ∧ E 16 = (.bool x20) ∧ Row 5 (encIk .u8) 1 v21 l22 R24 ∧ (((if x20 then (((m_name_Put_w l22 a1.Word)).bind fun r60 => some (r60.1, r60.2)) else some (false, l22)) : Option ((Bool × (List Int)))).bind fun (x46, l48) => some (x46, l48)) = some r) 5 ?_ (fun key75 => ?_)
  · rintro E W ⟨x20, v21, l22, R24, μ19, L25, hle27, hST, e28, e29, e30, e31, hs23, hm26⟩
    refine LV (R_move (v := (.bool x20)) e31) ?_
    obtain ⟨s56, hm57, hm58⟩ := bind_some hm26
    refine LW_join (J := fun E W => ∃ (x46 : Bool) (v47 : Value) (l48 : List Int) (R50 : List (Nat × Obj)) (μ45 : Mem) (L51 : List (Nat × Obj)), Sub μ19 μ45 ∧ ST true (keys ((b_a0, Obj.cells (#[v_a0_b] : Array Value) 221 (0, 0)) :: (R_a0_b ++ []))) w W μ45 ((b_a0, Obj.cells (#[v47] : Array Value) 221 (0, 0)) :: (R50 ++ L51)) ∧ E 4 = (.bool false) ∧ E 22 = (.bool x46) ∧ Row 5 (encIk .u8) 1 v47 l48 R50 ∧ some (x46, l48) = some r) 5 ?_ (fun key59 => ?_)
    · rintro E W ⟨x46, v47, l48, R50, μ45, L51, hle53, hST, e54, e55, hs49, hm52⟩
      refine LV (R_assign (v := (.bool x46)) e55) ?_
      refine LW_nil ?_
      refine sq_n ?_
      refine CW_ret ?_
      replace hm52 := Option.some.inj hm52; subst hm52
      refine retQ_1 (v := (.bool x46)) rfl rfl ?_
      replace hST : ST true (keys ((b_a0, Obj.cells (#[v_a0_b] : Array Value) 221 (0, 0)) :: (R_a0_b ++ []))) w _ _ ((b_a0, Obj.cells (#[v47] : Array Value) 221 (0, 0)) :: (R50 ++ L51)) := hST
      exact ⟨_, ((b_a0, Obj.cells (#[v47] : Array Value) 221 (0, 0)) :: (R50 ++ [])), rfl, (ST.backM (L1 := ((b_a0, Obj.cells (#[v47] : Array Value) 221 (0, 0)) :: (R50 ++ []))) (by have hh : ST true (keys ((b_a0, Obj.cells (#[v_a0_b] : Array Value) 221 (0, 0)) :: (R_a0_b ++ []))) w _ _ ((b_a0, Obj.cells (#[v47] : Array Value) 221 (0, 0)) :: (R50 ++ L51)) := hST.perm (List.Perm.refl _); simpa only [List.append_assoc, List.cons_append, List.nil_append] using hh)), v47, R50, rfl, rfl, hs49⟩
    · rcases bool_cases x20 with hb32 | hb32
      · replace hm57 := if_t hb32 hm57
        refine LW_v (.inr ⟨12, true, 17, rfl, rfl, by decide, (congrArg Value.bool hb32)⟩) rfl (by decide) (R_move (v := (.pointer (some ⟨b_a0, 0, none⟩))) e28) ?_
        refine LW_v (.inr ⟨12, true, 17, rfl, rfl, by decide, (congrArg Value.bool hb32)⟩) rfl (by decide) (R_field fa47_1 e29) ?_
        refine LW_v (.inr ⟨12, true, 17, rfl, rfl, by decide, (congrArg Value.bool hb32)⟩) rfl (by decide) (R_load (v := (.string a1.Word)) rfl (load_box1 hST.has (.head _) rfl Tryz.isAgg9)) ?_
        obtain ⟨r60, hr61, hm57⟩ := bind_some hm57
        replace hST : ST true (keys ((b_a0, Obj.cells (#[v_a0_b] : Array Value) 221 (0, 0)) :: (R_a0_b ++ []))) w _ _ ((b_a0, Obj.cells (#[v21] : Array Value) 221 (0, 0)) :: (R24 ++ ((b1, Obj.cells ((encRole a1).toArray : Array Value) 47 (0, 0)) :: L25))) := hST.perm (permD [[(b1, Obj.cells ((encRole a1).toArray : Array Value) 47 (0, 0))], [(b_a0, Obj.cells (#[v21] : Array Value) 221 (0, 0))], R24] [0, 1, 2] [1, 2, 0] L25 (by decide) rfl rfl)
        have hsz := hST.size
        refine LW_e (.inr ⟨12, true, 17, rfl, rfl, by decide, (congrArg Value.bool hb32)⟩) rfl (by decide) (E_callM (args := [(.pointer (some ⟨b_a0, 0, none⟩)), (.string a1.Word)]) (caps := #[]) (((b_a0, Obj.cells (#[v21] : Array Value) 221 (0, 0)) :: (R24 ++ []))) (((b1, Obj.cells ((encRole a1).toArray : Array Value) 47 (0, 0)) :: L25)) hST (by simp only [List.append_assoc, List.cons_append, List.nil_append]; exact List.Perm.refl _) rfl Tryz.call205 (by exact args2 rfl rfl) (fun hH hN hsb hmm => (w_name_Put_w b_a0 v21 l22 R24 a1.Word _ _ hH hN (Sub.refl _) hs23 hr61)) (fun W62 v65 μ63 L67 hST hle64 hlift hK66 => ?_))
        obtain ⟨y68, S69, hv71, rfl, hy70⟩ := hK66
        replace hv71 := hv71.symm; subst hv71
        simp only [List.append_assoc, List.cons_append, List.nil_append] at hST
        replace hST : ST true (keys ((b_a0, Obj.cells (#[v_a0_b] : Array Value) 221 (0, 0)) :: (R_a0_b ++ []))) w _ _ ((b_a0, Obj.cells (#[y68] : Array Value) 221 (0, 0)) :: ((b1, Obj.cells ((encRole a1).toArray : Array Value) 47 (0, 0)) :: (S69 ++ L25))) := hST.perm (permD [[(b_a0, Obj.cells (#[y68] : Array Value) 221 (0, 0))], S69, [(b1, Obj.cells ((encRole a1).toArray : Array Value) 47 (0, 0))]] [0, 1, 2] [0, 2, 1] L25 (by decide) rfl rfl)
        refine LV (R_pickT (v := (.bool r60.1)) (congrArg Value.bool hb32) rfl) ?_
        replace hm57 := Option.some.inj hm57; subst hm57
        exact key59 _ _ ⟨r60.1, y68, r60.2, S69, μ63, _, hle64, (hST.sublist (List.Sublist.cons_cons _ (List.Sublist.cons _ (List.Sublist.refl _)))), e30, rfl, hy70, hm58⟩
      · replace hm57 := if_f hb32 hm57
        refine LW_no rfl (by decide) rfl rfl (by decide) (congrArg Value.bool hb32) ?_
        refine LW_no rfl (by decide) rfl rfl (by decide) (congrArg Value.bool hb32) ?_
        refine LW_no rfl (by decide) rfl rfl (by decide) (congrArg Value.bool hb32) ?_
        refine LW_no rfl (by decide) rfl rfl (by decide) (congrArg Value.bool hb32) ?_
        refine LV (R_pickF (v := (.bool false)) (congrArg Value.bool hb32) rfl) ?_
        replace hm57 := Option.some.inj hm57; subst hm57
        exact key59 _ _ ⟨false, v21, l22, R24, μ19, _, (Sub.refl _), (hST.sublist (List.Sublist.cons _ (List.Sublist.refl _))), e30, rfl, hs23, hm58⟩
  · rcases bool_cases r3 with hb6 | hb6
    · replace hm73 := if_t hb6 hm73
      refine LW_v (.inr ⟨6, true, 11, rfl, rfl, by decide, (congrArg Value.bool hb6)⟩) rfl (by decide) (R_move (v := (.pointer (some ⟨b_a0, 0, none⟩))) rfl) ?_
      refine LW_v (.inr ⟨6, true, 11, rfl, rfl, by decide, (congrArg Value.bool hb6)⟩) rfl (by decide) (R_field fa47_0 rfl) ?_
      refine LW_v (.inr ⟨6, true, 11, rfl, rfl, by decide, (congrArg Value.bool hb6)⟩) rfl (by decide) (R_load (v := (.string a1.Owner)) rfl (load_box1 hST.has (.head _) rfl Tryz.isAgg9)) ?_
      obtain ⟨r76, hr77, hm73⟩ := bind_some hm73
      replace hST : ST true (keys ((b_a0, Obj.cells (#[v_a0_b] : Array Value) 221 (0, 0)) :: (R_a0_b ++ []))) w _ _ ((b_a0, Obj.cells (#[v_a0_b] : Array Value) 221 (0, 0)) :: (R_a0_b ++ ((b1, Obj.cells ((encRole a1).toArray : Array Value) 47 (0, 0)) :: []))) := hST.perm (permD [[(b1, Obj.cells ((encRole a1).toArray : Array Value) 47 (0, 0))], [(b_a0, Obj.cells (#[v_a0_b] : Array Value) 221 (0, 0))], R_a0_b] [0, 1, 2] [1, 2, 0] ([]) (by decide) rfl rfl)
      have hsz := hST.size
      refine LW_e (.inr ⟨6, true, 11, rfl, rfl, by decide, (congrArg Value.bool hb6)⟩) rfl (by decide) (E_callM (args := [(.pointer (some ⟨b_a0, 0, none⟩)), (.string a1.Owner)]) (caps := #[]) (((b_a0, Obj.cells (#[v_a0_b] : Array Value) 221 (0, 0)) :: (R_a0_b ++ []))) (((b1, Obj.cells ((encRole a1).toArray : Array Value) 47 (0, 0)) :: [])) hST (by simp only [List.append_assoc, List.cons_append, List.nil_append]; exact List.Perm.refl _) rfl Tryz.call205 (by exact args2 rfl rfl) (fun hH hN hsb hmm => (w_name_Put_w b_a0 v_a0_b a0_b R_a0_b a1.Owner _ _ hH hN (Sub.refl _) h_a0_b hr77)) (fun W78 v81 μ79 L83 hST hle80 hlift hK82 => ?_))
      obtain ⟨y84, S85, hv87, rfl, hy86⟩ := hK82
      replace hv87 := hv87.symm; subst hv87
      simp only [List.append_assoc, List.cons_append, List.nil_append] at hST
      replace hST : ST true (keys ((b_a0, Obj.cells (#[v_a0_b] : Array Value) 221 (0, 0)) :: (R_a0_b ++ []))) w _ _ ((b_a0, Obj.cells (#[y84] : Array Value) 221 (0, 0)) :: ((b1, Obj.cells ((encRole a1).toArray : Array Value) 47 (0, 0)) :: (S85 ++ []))) := hST.perm (permD [[(b_a0, Obj.cells (#[y84] : Array Value) 221 (0, 0))], S85, [(b1, Obj.cells ((encRole a1).toArray : Array Value) 47 (0, 0))]] [0, 1, 2] [0, 2, 1] ([]) (by decide) rfl rfl)
      refine LV (R_pickT (v := (.bool r76.1)) (congrArg Value.bool hb6) rfl) ?_
      replace hm73 := Option.some.inj hm73; subst hm73
      replace hST : ST true (keys ((b_a0, Obj.cells (#[v_a0_b] : Array Value) 221 (0, 0)) :: (R_a0_b ++ []))) w _ _ ((b1, Obj.cells ((encRole a1).toArray : Array Value) 47 (0, 0)) :: ((b_a0, Obj.cells (#[y84] : Array Value) 221 (0, 0)) :: (S85 ++ []))) := hST.perm (permD [[(b_a0, Obj.cells (#[y84] : Array Value) 221 (0, 0))], [(b1, Obj.cells ((encRole a1).toArray : Array Value) 47 (0, 0))]] [0, 1] [1, 0] ((S85 ++ [])) (by decide) rfl rfl)
      exact key75 _ _ ⟨r76.1, y84, r76.2, S85, μ79, _, hle80, (hST.sublist (List.Sublist.refl _)), rfl, rfl, rfl, rfl, hy86, hm74⟩
    · replace hm73 := if_f hb6 hm73
      refine LW_no rfl (by decide) rfl rfl (by decide) (congrArg Value.bool hb6) ?_
      refine LW_no rfl (by decide) rfl rfl (by decide) (congrArg Value.bool hb6) ?_
      refine LW_no rfl (by decide) rfl rfl (by decide) (congrArg Value.bool hb6) ?_
      refine LW_no rfl (by decide) rfl rfl (by decide) (congrArg Value.bool hb6) ?_
      refine LV (R_pickF (v := (.bool false)) (congrArg Value.bool hb6) rfl) ?_
      replace hm73 := Option.some.inj hm73; subst hm73
      exact key75 _ _ ⟨false, v_a0_b, a0_b, R_a0_b, μ0, _, (Sub.refl _), (hST.sublist (List.Sublist.refl _)), rfl, rfl, rfl, rfl, h_a0_b, hm74⟩
theorem w_bytes_Clone (v_a0 : Value) (a0 : List Int) (r : List Int) (w : World) (h_a0 : Sl (Pl (encIk .u8)) 1 (hp w) v_a0 a0) (hm : m_bytes_Clone a0 = some r) :
    GivesRow true Tryz.prog 240 [v_a0] w 5 (encIk .u8) 1 r := by
  have hST := ST.start (dd := true) w
  unfold m_bytes_Clone at hm
  refine calls_of_CW (n := 8) Tryz.func240 rfl rfl (Nat.le_of_ble_eq_true rfl) ?_
  refine CW_seq ?_
  refine CW_region ?_
  refine LV (R_assign (v := (.slice none 0 0)) rfl) ?_
  refine LW_nil ?_
  refine sq_n ?_
  refine CW_seq ?_
  refine CW_seq ?_
  refine CW_region ?_
  refine LV (R_move (v := v_a0) rfl) ?_
  obtain ⟨A1, c2, rfl⟩ := h_a0.form
  refine LV (R_slEqNil Tryz.underlying189 rfl rfl) ?_
  refine LW_nil ?_
  refine sq_n ?_
  rcases A1 with _ | A5
  · have hn4 := h_a0.isNil
    replace hm : some [] = some r := by rw [hn4] at hm; simpa [appB, maxLen] using hm
    refine CW_if_true (rfl) ?_
    refine CW_seq ?_
    refine CW_region ?_
    refine LV (R_assign (v := (.slice none 0 0)) rfl) ?_
    refine LW_nil ?_
    refine sq_n ?_
    refine CW_ret ?_
    refine sq_r ?_
    replace hm := Option.some.inj hm; subst hm
    refine retQ_1 (v := (.slice none 0 0)) rfl rfl ?_
    exact ⟨_, [], rfl, hST.backRow (fun p hq => by cases hq) (by simp), Row.nil _ _ _⟩
  · refine CW_if_false (rfl) ?_
    refine CW_skip ?_
    refine sq_n ?_
    refine CW_seq ?_
    refine CW_region ?_
    refine LE (E_buildSlice (qs := #[]) (cs := #[]) hST parts0 (run_lit [] Tryz.underlying189 Tryz.sizeOf5 Tryz.zeroValue5 (by decide) rfl (by simp) rfl rfl) (fun W7 b6 hST => ?_))
    refine LV (R_move (v := (.slice (some A5) a0.length c2)) rfl) ?_
    obtain ⟨l8, hb9, hm⟩ := bind_some hm
    replace hST := hST.perm (List.Perm.append_left [] (List.perm_middle (l₁ := [])).symm)
    refine LE (E_append (enc := (encIk .u8)) (v := (.slice (some ⟨b6, 0, none⟩) 0 0)) (vs := (.slice (some A5) a0.length c2)) (R := [(b6, Obj.cells (#[] : Array Value) 5 (0, 0))]) [] hST (fun _ => rfl) (by decide) (oneI _) Tryz.underlying189 info5.1 info5.2.1 rfl info5.2.2.1 info5.2.2.2 rfl rfl (Row.lit (l := []) (enc := (encIk .u8)) rfl (by decide) rfl rfl) (h_a0.mono (Pl.mono _) hST.sub_hp) hb9 (fun W10 v13 R11 hST hR12 => ?_))
    refine LV (R_assign (v := v13) rfl) ?_
    refine LW_nil ?_
    refine sq_n ?_
    refine CW_ret ?_
    replace hm := Option.some.inj hm; subst hm
    refine retQ_1 (v := v13) rfl rfl ?_
    exact ⟨_, R11, rfl, hST.backRow (fun p hq => by simp [hq]) hR12.nd, hR12⟩
theorem w_tape_Pen_Bytes (b_a0 : Nat) (v_a0_b : Value) (a0_b : List Int) (r : List Int) (w : World) (h_a0_b : Sl (Pl (encIk .u8)) 1 (hp w) v_a0_b a0_b) (hA_a0 : At (hp w) (.pointer (some ⟨b_a0, 0, none⟩)) [v_a0_b]) (hm : m_tape_Pen_Bytes a0_b = some r) :
    GivesRow true Tryz.prog 206 [(.pointer (some ⟨b_a0, 0, none⟩))] w 5 (encIk .u8) 1 r := by
  have hST := ST.start (dd := true) w
  unfold m_tape_Pen_Bytes at hm
  refine calls_of_CW (n := 10) Tryz.func206 rfl rfl (Nat.le_of_ble_eq_true rfl) ?_
  refine CW_seq ?_
  refine CW_region ?_
  refine LV (R_assign (v := (.slice none 0 0)) rfl) ?_
  refine LW_nil ?_
  refine sq_n ?_
  refine CW_seq ?_
  refine CW_seq ?_
  refine CW_region ?_
  refine LV (R_move (v := (.pointer (some ⟨b_a0, 0, none⟩))) rfl) ?_
  refine LV (R_ptrEqNil Tryz.underlying219 rfl rfl) ?_
  refine LW_nil ?_
  refine sq_n ?_
  refine CW_if_false rfl ?_
  refine CW_skip ?_
  refine sq_n ?_
  refine CW_seq ?_
  refine CW_region ?_
  refine LV (R_move (v := (.pointer (some ⟨b_a0, 0, none⟩))) rfl) ?_
  refine LV (R_nilCheck rfl) ?_
  refine LQ (R_fieldAt [v_a0_b] fa221_0 rfl hA_a0 rfl) (fun p1 hp2 => ?_)
  refine LV (R_load rfl (load_at1 hST.has (y := v_a0_b) hp2 Tryz.isAgg189)) ?_
  obtain ⟨r4, hr5, hm⟩ := bind_some hm
  refine LE (E_givesRow (args := [v_a0_b]) [] _ hST rfl Tryz.call240 (by exact args1 rfl) ((w_bytes_Clone v_a0_b a0_b _ _ (h_a0_b.mono (Pl.mono _) hST.sub_hp) hr5)) (fun W6 v9 μ7 R10 hST hle8 hR11 => ?_))
  refine LV (R_assign (v := v9) rfl) ?_
  refine LW_nil ?_
  refine sq_n ?_
  refine CW_ret ?_
  replace hm := Option.some.inj hm; subst hm
  refine retQ_1 (v := v9) rfl rfl ?_
  exact ⟨_, R10, rfl, hST.backRow (fun p hq => by simp [hq]) hR11.nd, hR11⟩
theorem w_cred_Bytes (a0 : Cred) (r : List Int) (w : World)  (hm : m_cred_Bytes a0 = some r) :
    GivesRow true Tryz.prog 166 [(.agg (encCred a0).toArray)] w 5 (encIk .u8) 1 r := by
  have hST := ST.start (dd := true) w
  unfold m_cred_Bytes at hm
  refine calls_of_CW (n := 53) Tryz.func166 rfl rfl (Nat.le_of_ble_eq_true rfl) ?_
  refine CW_seq ?_
  refine CW_region ?_
  refine LE (E_box (v := (.agg (encCred a0).toArray)) hST rfl (fun W2 b1 hST => ?_))
  refine LV (R_assign (v := (.slice none 0 0)) rfl) ?_
  refine LW_nil ?_
  refine sq_n ?_
  refine CW_seq ?_
  refine CW_seq ?_
  refine CW_region ?_
  refine LV (R_load (v := (.agg (encCred a0).toArray)) rfl (load_boxA hST.has (.head _) (encCred a0) rfl Tryz.isAgg83 Tryz.sizeOf83)) ?_
  obtain ⟨r3, hr4, hm⟩ := bind_some hm
  refine LE (E_gives (args := [(.agg (encCred a0).toArray)]) hST rfl Tryz.call98 (by exact args1 rfl) ((w_cred_Right a0 _ _  hr4)) (fun W5 hST => ?_))
  refine LV (R_not (b := r3) rfl) ?_
  refine LW_nil ?_
  refine sq_n ?_
  refine CW_if (b := (!r3)) rfl (fun hb6 => ?_) (fun hb6 => ?_)
  · replace hm := if_t hb6 hm
    refine CW_seq ?_
    refine CW_region ?_
    refine LV (R_assign (v := (.slice none 0 0)) rfl) ?_
    refine LW_nil ?_
    refine sq_n ?_
    replace hST : ST true NoF w _ _ [] := hST.sublist (List.Sublist.cons _ (List.Sublist.refl _))
    refine CW_ret ?_
    refine sq_r ?_
    replace hm := Option.some.inj hm; subst hm
    refine retQ_1 (v := (.slice none 0 0)) rfl rfl ?_
    exact ⟨_, [], rfl, hST.backRow (fun p hq => by cases hq) (by simp), Row.nil _ _ _⟩
  · replace hm := if_f hb6 hm
    refine CW_skip ?_
    refine sq_n ?_
    refine CW_seq ?_
    refine CW_region ?_
    refine LV (R_build (qs := #[]) (v := (.agg #[(.slice none 0 0)])) parts0 (run_build Tryz.zeroValue221 Tryz.underlying221 (pl221 _ Tryz.underlying221) (by kernel_rfl))) ?_
    refine LE (E_box (v := (.agg #[(.slice none 0 0)])) hST rfl (fun W8 b7 hST => ?_))
    refine LV (R_assign (v := (.pointer (some ⟨b7, 0, none⟩))) rfl) ?_
    refine LW_nil ?_
    refine sq_n ?_
    refine CW_seq ?_
    refine CW_region ?_
    refine LV (R_move (v := (.pointer (some ⟨b7, 0, none⟩))) rfl) ?_
    refine LV (R_field fa83_0 rfl) ?_
    refine LV (R_load (v := (.int .i64 a0.Kind)) rfl (load_box1 hST.has (.tail _ (.head _)) rfl Tryz.isAgg3)) ?_
    obtain ⟨r9, hr10, hm⟩ := bind_some hm
    replace hST : ST true NoF w _ _ ((b7, Obj.cells (#[(.slice none 0 0)] : Array Value) 221 (0, 0)) :: ((b1, Obj.cells ((encCred a0).toArray : Array Value) 83 (0, 0)) :: [])) := hST.perm (List.Perm.refl _)
    have hsz := hST.size
    refine LE (E_callM (args := [(.pointer (some ⟨b7, 0, none⟩)), (.int .i64 a0.Kind)]) (caps := #[]) (((b7, Obj.cells (#[(.slice none 0 0)] : Array Value) 221 (0, 0)) :: ([] ++ []))) (((b1, Obj.cells ((encCred a0).toArray : Array Value) 83 (0, 0)) :: [])) hST (by simp only [List.append_assoc, List.cons_append, List.nil_append]; exact List.Perm.refl _) rfl Tryz.call203 (by exact args2 rfl rfl) (fun hH hN hsb hmm => (w_tape_Pen_Number_w b7 (.slice none 0 0) ([]) [] a0.Kind _ _ hH hN (Sub.refl _) (Row.nil _ _ _) hr10)) (fun W11 v14 μ12 L16 hST hle13 hlift hK15 => ?_))
    obtain ⟨y17, S18, hv20, rfl, hy19⟩ := hK15
    replace hv20 := hv20.symm; subst hv20
    simp only [List.append_assoc, List.cons_append, List.nil_append] at hST
    replace hST : ST true NoF w _ _ ((b7, Obj.cells (#[y17] : Array Value) 221 (0, 0)) :: ((b1, Obj.cells ((encCred a0).toArray : Array Value) 83 (0, 0)) :: (S18 ++ []))) := hST.perm (permD [[(b7, Obj.cells (#[y17] : Array Value) 221 (0, 0))], S18, [(b1, Obj.cells ((encCred a0).toArray : Array Value) 83 (0, 0))]] [0, 1, 2] [0, 2, 1] ([]) (by decide) rfl rfl)
    refine LW_nil ?_
    refine sq_n ?_
    refine CW_seq ?_
    refine CW_region ?_
    refine LV (R_move (v := (.pointer (some ⟨b7, 0, none⟩))) rfl) ?_
    refine LV (R_field fa83_1 rfl) ?_
    refine LV (R_load (v := (.agg (encRole a0.Head).toArray)) rfl (load_boxA hST.has (.tail _ (.head _)) (encRole a0.Head) rfl Tryz.isAgg47 Tryz.sizeOf47)) ?_
    obtain ⟨r21, hr22, hm⟩ := bind_some hm
    replace hST : ST true NoF w _ _ ((b7, Obj.cells (#[y17] : Array Value) 221 (0, 0)) :: (S18 ++ ((b1, Obj.cells ((encCred a0).toArray : Array Value) 83 (0, 0)) :: []))) := hST.perm (permD [[(b7, Obj.cells (#[y17] : Array Value) 221 (0, 0))], [(b1, Obj.cells ((encCred a0).toArray : Array Value) 83 (0, 0))], S18] [0, 1, 2] [0, 2, 1] ([]) (by decide) rfl rfl)
    have hsz := hST.size
    refine LE (E_callM (args := [(.pointer (some ⟨b7, 0, none⟩)), (.agg (encRole a0.Head).toArray)]) (caps := #[]) (((b7, Obj.cells (#[y17] : Array Value) 221 (0, 0)) :: (S18 ++ []))) (((b1, Obj.cells ((encCred a0).toArray : Array Value) 83 (0, 0)) :: [])) hST (by simp only [List.append_assoc, List.cons_append, List.nil_append]; exact List.Perm.refl _) rfl Tryz.call204 (by exact args2 rfl rfl) (fun hH hN hsb hmm => (w_role_Put_w b7 y17 r9.2 S18 a0.Head _ _ hH hN (Sub.refl _) hy19 hr22)) (fun W23 v26 μ24 L28 hST hle25 hlift hK27 => ?_))
    obtain ⟨y29, S30, hv32, rfl, hy31⟩ := hK27
    replace hv32 := hv32.symm; subst hv32
    simp only [List.append_assoc, List.cons_append, List.nil_append] at hST
    replace hST : ST true NoF w _ _ ((b7, Obj.cells (#[y29] : Array Value) 221 (0, 0)) :: ((b1, Obj.cells ((encCred a0).toArray : Array Value) 83 (0, 0)) :: (S30 ++ []))) := hST.perm (permD [[(b7, Obj.cells (#[y29] : Array Value) 221 (0, 0))], S30, [(b1, Obj.cells ((encCred a0).toArray : Array Value) 83 (0, 0))]] [0, 1, 2] [0, 2, 1] ([]) (by decide) rfl rfl)
    refine LW_nil ?_
    refine sq_n ?_
    refine CW_seq ?_
    obtain ⟨s126, hm127, hm128⟩ := bind_some hm
    refine CW_cut (fun E W => ∃ (v110 : Value) (l111 : List Int) (R113 : List (Nat × Obj)) (μ109 : Mem) (L114 : List (Nat × Obj)), Sub μ24 μ109 ∧ ST true NoF w W μ109 ((b7, Obj.cells (#[v110] : Array Value) 221 (0, 0)) :: (R113 ++ L114)) ∧ E 3 = (.pointer (some ⟨b7, 0, none⟩)) ∧ Row 5 (encIk .u8) 1 v110 l111 R113 ∧ (((m_tape_Pen_Bytes l111)).bind fun r118 => some r118) = some r) ?_ ?_
    · refine CW_seq ?_
      refine CW_region ?_
      refine LV (R_field fa83_0 rfl) ?_
      refine LV (R_load (v := (.int .i64 a0.Kind)) rfl (load_box1 hST.has (.tail _ (.head _)) rfl Tryz.isAgg3)) ?_
      refine LW_nil ?_
      refine sq_n ?_
      refine CW_block ?_
      refine CW_seq ?_
      refine CW_region ?_
      refine LV (R_int (k := .i64) (a := a0.Kind) (b := 1) (v := (.bool ((a0.Kind == 1)))) rfl rfl rfl) ?_
      refine LV (R_assign (v := (.bool ((a0.Kind == 1)))) rfl) ?_
      refine LW_nil ?_
      refine sq_n ?_
      refine CW_if (b := (a0.Kind == 1)) rfl (fun hb129 => ?_) (fun hb129 => ?_)
      · replace hm127 := if_t hb129 hm127
        refine CW_region ?_
        refine LV (R_move (v := (.pointer (some ⟨b7, 0, none⟩))) rfl) ?_
        refine LV (R_field fa83_2 rfl) ?_
        refine LV (R_load (v := (.string a0.Who)) rfl (load_box1 hST.has (.tail _ (.head _)) rfl Tryz.isAgg9)) ?_
        obtain ⟨r130, hr131, hm127⟩ := bind_some hm127
        replace hST : ST true NoF w _ _ ((b7, Obj.cells (#[y29] : Array Value) 221 (0, 0)) :: (S30 ++ ((b1, Obj.cells ((encCred a0).toArray : Array Value) 83 (0, 0)) :: []))) := hST.perm (permD [[(b7, Obj.cells (#[y29] : Array Value) 221 (0, 0))], [(b1, Obj.cells ((encCred a0).toArray : Array Value) 83 (0, 0))], S30] [0, 1, 2] [0, 2, 1] ([]) (by decide) rfl rfl)
        have hsz := hST.size
        refine LE (E_callM (args := [(.pointer (some ⟨b7, 0, none⟩)), (.string a0.Who)]) (caps := #[]) (((b7, Obj.cells (#[y29] : Array Value) 221 (0, 0)) :: (S30 ++ []))) (((b1, Obj.cells ((encCred a0).toArray : Array Value) 83 (0, 0)) :: [])) hST (by simp only [List.append_assoc, List.cons_append, List.nil_append]; exact List.Perm.refl _) rfl Tryz.call205 (by exact args2 rfl rfl) (fun hH hN hsb hmm => (w_name_Put_w b7 y29 r21.2 S30 a0.Who _ _ hH hN (Sub.refl _) hy31 hr131)) (fun W132 v135 μ133 L137 hST hle134 hlift hK136 => ?_))
        obtain ⟨y138, S139, hv141, rfl, hy140⟩ := hK136
        replace hv141 := hv141.symm; subst hv141
        simp only [List.append_assoc, List.cons_append, List.nil_append] at hST
        replace hST : ST true NoF w _ _ ((b7, Obj.cells (#[y138] : Array Value) 221 (0, 0)) :: ((b1, Obj.cells ((encCred a0).toArray : Array Value) 83 (0, 0)) :: (S139 ++ []))) := hST.perm (permD [[(b7, Obj.cells (#[y138] : Array Value) 221 (0, 0))], S139, [(b1, Obj.cells ((encCred a0).toArray : Array Value) 83 (0, 0))]] [0, 1, 2] [0, 2, 1] ([]) (by decide) rfl rfl)
        refine LW_nil ?_
        refine bq_n ?_
        refine sq_n ?_
        replace hm127 := Option.some.inj hm127; subst hm127
        exact ⟨y138, r130.2, S139, μ133, _, hle134, (hST.sublist (List.Sublist.cons_cons _ (List.Sublist.cons _ (List.Sublist.refl _)))), rfl, hy140, hm128⟩
      · replace hm127 := if_f hb129 hm127
        refine CW_seq ?_
        refine CW_region ?_
        refine LV (R_int (k := .i64) (a := a0.Kind) (b := 2) (v := (.bool ((a0.Kind == 2)))) rfl rfl rfl) ?_
        refine LV (R_assign (v := (.bool ((a0.Kind == 2)))) rfl) ?_
        refine LW_nil ?_
        refine sq_n ?_
        refine CW_if (b := (a0.Kind == 2)) rfl (fun hb142 => ?_) (fun hb142 => ?_)
        · replace hm127 := if_t hb142 hm127
          refine CW_region ?_
          refine LV (R_move (v := (.pointer (some ⟨b7, 0, none⟩))) rfl) ?_
          refine LV (R_field fa83_3 rfl) ?_
          refine LV (R_load (v := (.agg (encRole a0.B).toArray)) rfl (load_boxA hST.has (.tail _ (.head _)) (encRole a0.B) rfl Tryz.isAgg47 Tryz.sizeOf47)) ?_
          obtain ⟨r143, hr144, hm127⟩ := bind_some hm127
          replace hST : ST true NoF w _ _ ((b7, Obj.cells (#[y29] : Array Value) 221 (0, 0)) :: (S30 ++ ((b1, Obj.cells ((encCred a0).toArray : Array Value) 83 (0, 0)) :: []))) := hST.perm (permD [[(b7, Obj.cells (#[y29] : Array Value) 221 (0, 0))], [(b1, Obj.cells ((encCred a0).toArray : Array Value) 83 (0, 0))], S30] [0, 1, 2] [0, 2, 1] ([]) (by decide) rfl rfl)
          have hsz := hST.size
          refine LE (E_callM (args := [(.pointer (some ⟨b7, 0, none⟩)), (.agg (encRole a0.B).toArray)]) (caps := #[]) (((b7, Obj.cells (#[y29] : Array Value) 221 (0, 0)) :: (S30 ++ []))) (((b1, Obj.cells ((encCred a0).toArray : Array Value) 83 (0, 0)) :: [])) hST (by simp only [List.append_assoc, List.cons_append, List.nil_append]; exact List.Perm.refl _) rfl Tryz.call204 (by exact args2 rfl rfl) (fun hH hN hsb hmm => (w_role_Put_w b7 y29 r21.2 S30 a0.B _ _ hH hN (Sub.refl _) hy31 hr144)) (fun W145 v148 μ146 L150 hST hle147 hlift hK149 => ?_))
          obtain ⟨y151, S152, hv154, rfl, hy153⟩ := hK149
          replace hv154 := hv154.symm; subst hv154
          simp only [List.append_assoc, List.cons_append, List.nil_append] at hST
          replace hST : ST true NoF w _ _ ((b7, Obj.cells (#[y151] : Array Value) 221 (0, 0)) :: ((b1, Obj.cells ((encCred a0).toArray : Array Value) 83 (0, 0)) :: (S152 ++ []))) := hST.perm (permD [[(b7, Obj.cells (#[y151] : Array Value) 221 (0, 0))], S152, [(b1, Obj.cells ((encCred a0).toArray : Array Value) 83 (0, 0))]] [0, 1, 2] [0, 2, 1] ([]) (by decide) rfl rfl)
          refine LW_nil ?_
          refine bq_n ?_
          refine sq_n ?_
          replace hm127 := Option.some.inj hm127; subst hm127
          exact ⟨y151, r143.2, S152, μ146, _, hle147, (hST.sublist (List.Sublist.cons_cons _ (List.Sublist.cons _ (List.Sublist.refl _)))), rfl, hy153, hm128⟩
        · replace hm127 := if_f hb142 hm127
          refine CW_seq ?_
          refine CW_region ?_
          refine LV (R_int (k := .i64) (a := a0.Kind) (b := 3) (v := (.bool ((a0.Kind == 3)))) rfl rfl rfl) ?_
          refine LV (R_assign (v := (.bool ((a0.Kind == 3)))) rfl) ?_
          refine LW_nil ?_
          refine sq_n ?_
          refine CW_if (b := (a0.Kind == 3)) rfl (fun hb155 => ?_) (fun hb155 => ?_)
          · replace hm127 := if_t hb155 hm127
            refine CW_seq ?_
            refine CW_region ?_
            refine LV (R_move (v := (.pointer (some ⟨b7, 0, none⟩))) rfl) ?_
            refine LV (R_field fa83_3 rfl) ?_
            refine LV (R_load (v := (.agg (encRole a0.B).toArray)) rfl (load_boxA hST.has (.tail _ (.head _)) (encRole a0.B) rfl Tryz.isAgg47 Tryz.sizeOf47)) ?_
            obtain ⟨r156, hr157, hm127⟩ := bind_some hm127
            replace hST : ST true NoF w _ _ ((b7, Obj.cells (#[y29] : Array Value) 221 (0, 0)) :: (S30 ++ ((b1, Obj.cells ((encCred a0).toArray : Array Value) 83 (0, 0)) :: []))) := hST.perm (permD [[(b7, Obj.cells (#[y29] : Array Value) 221 (0, 0))], [(b1, Obj.cells ((encCred a0).toArray : Array Value) 83 (0, 0))], S30] [0, 1, 2] [0, 2, 1] ([]) (by decide) rfl rfl)
            have hsz := hST.size
            refine LE (E_callM (args := [(.pointer (some ⟨b7, 0, none⟩)), (.agg (encRole a0.B).toArray)]) (caps := #[]) (((b7, Obj.cells (#[y29] : Array Value) 221 (0, 0)) :: (S30 ++ []))) (((b1, Obj.cells ((encCred a0).toArray : Array Value) 83 (0, 0)) :: [])) hST (by simp only [List.append_assoc, List.cons_append, List.nil_append]; exact List.Perm.refl _) rfl Tryz.call204 (by exact args2 rfl rfl) (fun hH hN hsb hmm => (w_role_Put_w b7 y29 r21.2 S30 a0.B _ _ hH hN (Sub.refl _) hy31 hr157)) (fun W158 v161 μ159 L163 hST hle160 hlift hK162 => ?_))
            obtain ⟨y164, S165, hv167, rfl, hy166⟩ := hK162
            replace hv167 := hv167.symm; subst hv167
            simp only [List.append_assoc, List.cons_append, List.nil_append] at hST
            replace hST : ST true NoF w _ _ ((b7, Obj.cells (#[y164] : Array Value) 221 (0, 0)) :: ((b1, Obj.cells ((encCred a0).toArray : Array Value) 83 (0, 0)) :: (S165 ++ []))) := hST.perm (permD [[(b7, Obj.cells (#[y164] : Array Value) 221 (0, 0))], S165, [(b1, Obj.cells ((encCred a0).toArray : Array Value) 83 (0, 0))]] [0, 1, 2] [0, 2, 1] ([]) (by decide) rfl rfl)
            refine LW_nil ?_
            refine sq_n ?_
            refine CW_region ?_
            refine LV (R_move (v := (.pointer (some ⟨b7, 0, none⟩))) rfl) ?_
            refine LV (R_field fa83_5 rfl) ?_
            refine LV (R_load (v := (.string a0.Word2)) rfl (load_box1 hST.has (.tail _ (.head _)) rfl Tryz.isAgg9)) ?_
            obtain ⟨r168, hr169, hm127⟩ := bind_some hm127
            replace hST : ST true NoF w _ _ ((b7, Obj.cells (#[y164] : Array Value) 221 (0, 0)) :: (S165 ++ ((b1, Obj.cells ((encCred a0).toArray : Array Value) 83 (0, 0)) :: []))) := hST.perm (permD [[(b7, Obj.cells (#[y164] : Array Value) 221 (0, 0))], [(b1, Obj.cells ((encCred a0).toArray : Array Value) 83 (0, 0))], S165] [0, 1, 2] [0, 2, 1] ([]) (by decide) rfl rfl)
            have hsz := hST.size
            refine LE (E_callM (args := [(.pointer (some ⟨b7, 0, none⟩)), (.string a0.Word2)]) (caps := #[]) (((b7, Obj.cells (#[y164] : Array Value) 221 (0, 0)) :: (S165 ++ []))) (((b1, Obj.cells ((encCred a0).toArray : Array Value) 83 (0, 0)) :: [])) hST (by simp only [List.append_assoc, List.cons_append, List.nil_append]; exact List.Perm.refl _) rfl Tryz.call205 (by exact args2 rfl rfl) (fun hH hN hsb hmm => (w_name_Put_w b7 y164 r156.2 S165 a0.Word2 _ _ hH hN (Sub.refl _) hy166 hr169)) (fun W170 v173 μ171 L175 hST hle172 hlift hK174 => ?_))
            obtain ⟨y176, S177, hv179, rfl, hy178⟩ := hK174
            replace hv179 := hv179.symm; subst hv179
            simp only [List.append_assoc, List.cons_append, List.nil_append] at hST
            replace hST : ST true NoF w _ _ ((b7, Obj.cells (#[y176] : Array Value) 221 (0, 0)) :: ((b1, Obj.cells ((encCred a0).toArray : Array Value) 83 (0, 0)) :: (S177 ++ []))) := hST.perm (permD [[(b7, Obj.cells (#[y176] : Array Value) 221 (0, 0))], S177, [(b1, Obj.cells ((encCred a0).toArray : Array Value) 83 (0, 0))]] [0, 1, 2] [0, 2, 1] ([]) (by decide) rfl rfl)
            refine LW_nil ?_
            refine bq_n ?_
            refine sq_n ?_
            replace hm127 := Option.some.inj hm127; subst hm127
            exact ⟨y176, r168.2, S177, μ171, _, (hle160.trans hle172), (hST.sublist (List.Sublist.cons_cons _ (List.Sublist.cons _ (List.Sublist.refl _)))), rfl, hy178, hm128⟩
          · replace hm127 := if_f hb155 hm127
            refine CW_seq ?_
            refine CW_region ?_
            refine LV (R_int (k := .i64) (a := a0.Kind) (b := 4) (v := (.bool ((a0.Kind == 4)))) rfl rfl rfl) ?_
            refine LV (R_assign (v := (.bool ((a0.Kind == 4)))) rfl) ?_
            refine LW_nil ?_
            refine sq_n ?_
            refine CW_if (b := (a0.Kind == 4)) rfl (fun hb180 => ?_) (fun hb180 => ?_)
            · replace hm127 := if_t hb180 hm127
              refine CW_seq ?_
              refine CW_region ?_
              refine LV (R_move (v := (.pointer (some ⟨b7, 0, none⟩))) rfl) ?_
              refine LV (R_field fa83_3 rfl) ?_
              refine LV (R_load (v := (.agg (encRole a0.B).toArray)) rfl (load_boxA hST.has (.tail _ (.head _)) (encRole a0.B) rfl Tryz.isAgg47 Tryz.sizeOf47)) ?_
              obtain ⟨r181, hr182, hm127⟩ := bind_some hm127
              replace hST : ST true NoF w _ _ ((b7, Obj.cells (#[y29] : Array Value) 221 (0, 0)) :: (S30 ++ ((b1, Obj.cells ((encCred a0).toArray : Array Value) 83 (0, 0)) :: []))) := hST.perm (permD [[(b7, Obj.cells (#[y29] : Array Value) 221 (0, 0))], [(b1, Obj.cells ((encCred a0).toArray : Array Value) 83 (0, 0))], S30] [0, 1, 2] [0, 2, 1] ([]) (by decide) rfl rfl)
              have hsz := hST.size
              refine LE (E_callM (args := [(.pointer (some ⟨b7, 0, none⟩)), (.agg (encRole a0.B).toArray)]) (caps := #[]) (((b7, Obj.cells (#[y29] : Array Value) 221 (0, 0)) :: (S30 ++ []))) (((b1, Obj.cells ((encCred a0).toArray : Array Value) 83 (0, 0)) :: [])) hST (by simp only [List.append_assoc, List.cons_append, List.nil_append]; exact List.Perm.refl _) rfl Tryz.call204 (by exact args2 rfl rfl) (fun hH hN hsb hmm => (w_role_Put_w b7 y29 r21.2 S30 a0.B _ _ hH hN (Sub.refl _) hy31 hr182)) (fun W183 v186 μ184 L188 hST hle185 hlift hK187 => ?_))
              obtain ⟨y189, S190, hv192, rfl, hy191⟩ := hK187
              replace hv192 := hv192.symm; subst hv192
              simp only [List.append_assoc, List.cons_append, List.nil_append] at hST
              replace hST : ST true NoF w _ _ ((b7, Obj.cells (#[y189] : Array Value) 221 (0, 0)) :: ((b1, Obj.cells ((encCred a0).toArray : Array Value) 83 (0, 0)) :: (S190 ++ []))) := hST.perm (permD [[(b7, Obj.cells (#[y189] : Array Value) 221 (0, 0))], S190, [(b1, Obj.cells ((encCred a0).toArray : Array Value) 83 (0, 0))]] [0, 1, 2] [0, 2, 1] ([]) (by decide) rfl rfl)
              refine LW_nil ?_
              refine sq_n ?_
              refine CW_region ?_
              refine LV (R_move (v := (.pointer (some ⟨b7, 0, none⟩))) rfl) ?_
              refine LV (R_field fa83_4 rfl) ?_
              refine LV (R_load (v := (.agg (encRole a0.C).toArray)) rfl (load_boxA hST.has (.tail _ (.head _)) (encRole a0.C) rfl Tryz.isAgg47 Tryz.sizeOf47)) ?_
              obtain ⟨r193, hr194, hm127⟩ := bind_some hm127
              replace hST : ST true NoF w _ _ ((b7, Obj.cells (#[y189] : Array Value) 221 (0, 0)) :: (S190 ++ ((b1, Obj.cells ((encCred a0).toArray : Array Value) 83 (0, 0)) :: []))) := hST.perm (permD [[(b7, Obj.cells (#[y189] : Array Value) 221 (0, 0))], [(b1, Obj.cells ((encCred a0).toArray : Array Value) 83 (0, 0))], S190] [0, 1, 2] [0, 2, 1] ([]) (by decide) rfl rfl)
              have hsz := hST.size
              refine LE (E_callM (args := [(.pointer (some ⟨b7, 0, none⟩)), (.agg (encRole a0.C).toArray)]) (caps := #[]) (((b7, Obj.cells (#[y189] : Array Value) 221 (0, 0)) :: (S190 ++ []))) (((b1, Obj.cells ((encCred a0).toArray : Array Value) 83 (0, 0)) :: [])) hST (by simp only [List.append_assoc, List.cons_append, List.nil_append]; exact List.Perm.refl _) rfl Tryz.call204 (by exact args2 rfl rfl) (fun hH hN hsb hmm => (w_role_Put_w b7 y189 r181.2 S190 a0.C _ _ hH hN (Sub.refl _) hy191 hr194)) (fun W195 v198 μ196 L200 hST hle197 hlift hK199 => ?_))
              obtain ⟨y201, S202, hv204, rfl, hy203⟩ := hK199
              replace hv204 := hv204.symm; subst hv204
              simp only [List.append_assoc, List.cons_append, List.nil_append] at hST
              replace hST : ST true NoF w _ _ ((b7, Obj.cells (#[y201] : Array Value) 221 (0, 0)) :: ((b1, Obj.cells ((encCred a0).toArray : Array Value) 83 (0, 0)) :: (S202 ++ []))) := hST.perm (permD [[(b7, Obj.cells (#[y201] : Array Value) 221 (0, 0))], S202, [(b1, Obj.cells ((encCred a0).toArray : Array Value) 83 (0, 0))]] [0, 1, 2] [0, 2, 1] ([]) (by decide) rfl rfl)
              refine LW_nil ?_
              refine bq_n ?_
              refine sq_n ?_
              replace hm127 := Option.some.inj hm127; subst hm127
              exact ⟨y201, r193.2, S202, μ196, _, (hle185.trans hle197), (hST.sublist (List.Sublist.cons_cons _ (List.Sublist.cons _ (List.Sublist.refl _)))), rfl, hy203, hm128⟩
            · replace hm127 := if_f hb180 hm127
              refine CW_skip ?_
              refine bq_n ?_
              refine sq_n ?_
              replace hm127 := Option.some.inj hm127; subst hm127
              exact ⟨y29, r21.2, S30, μ24, _, (Sub.refl _), (hST.sublist (List.Sublist.cons_cons _ (List.Sublist.cons _ (List.Sublist.refl _)))), rfl, hy31, hm128⟩
    · rintro E W ⟨v110, l111, R113, μ109, L114, hle116, hST, e117, hs112, hm115⟩
      refine CW_seq ?_
      refine CW_region ?_
      refine LV (R_move (v := (.pointer (some ⟨b7, 0, none⟩))) e117) ?_
      obtain ⟨r118, hr119, hm115⟩ := bind_some hm115
      refine LE (E_givesRow (args := [(.pointer (some ⟨b7, 0, none⟩))]) [_] _ hST rfl Tryz.call206 (by exact args1 rfl) ((w_tape_Pen_Bytes b7 v110 l111 _ _ (hs112.sl (fun _ => rfl) (fun b o hq => hST.at_ (.tail _ (List.mem_append_left _ hq)))) (At.of (hST.at_ (.head _)) _ rfl) hr119)) (fun W120 v123 μ121 R124 hST hle122 hR125 => ?_))
      refine LV (R_assign (v := v123) rfl) ?_
      refine LW_nil ?_
      refine sq_n ?_
      replace hST : ST true NoF w _ _ ((b7, Obj.cells (#[v110] : Array Value) 221 (0, 0)) :: (R124 ++ (R113 ++ L114))) := hST
      replace hST : ST true NoF w _ _ (R124 ++ L114) := hST.sublist (List.Sublist.cons _ (List.Sublist.append (List.Sublist.refl _) ((List.Sublist.refl _).trans (List.sublist_append_right _ _))))
      refine CW_ret ?_
      replace hm115 := Option.some.inj hm115; subst hm115
      refine retQ_1 (v := v123) rfl rfl ?_
      exact ⟨_, R124, rfl, hST.backRow (fun p hq => by simp [hq]) hR125.nd, hR125⟩
theorem ext202 (w : World) {va vb : Value} {a b : List Int} (h1 : Sl (Pl (encIk .u8)) 1 (hp w) va a) (h2 : Sl (Pl (encIk .u8)) 1 (hp w) vb b) : (callFunc 202 [va, vb].toArray).run Tryz.prog w = .ok (.value (.int .i64 (xCompareB a b))) w := run_cmpB Tryz.func202 (by kernel_rfl) (by kernel_rfl) (by kernel_rfl) (by kernel_rfl) h1 h2
theorem w_bytes_Compare (v_a0 : Value) (a0 : List Int) (v_a1 : Value) (a1 : List Int) (r : Int) (w : World) (h_a0 : Sl (Pl (encIk .u8)) 1 (hp w) v_a0 a0) (h_a1 : Sl (Pl (encIk .u8)) 1 (hp w) v_a1 a1) (hm : m_bytes_Compare a0 a1 = some r) :
    Gives true Tryz.prog 165 [v_a0, v_a1] w (.int .i64 r) := by
  have hST := ST.start (dd := true) w
  unfold m_bytes_Compare at hm
  refine calls_of_CW (n := 8) Tryz.func165 rfl rfl (Nat.le_of_ble_eq_true rfl) ?_
  refine CW_seq ?_
  refine CW_region ?_
  refine LV (R_assign (v := (.int .i64 0)) rfl) ?_
  refine LW_nil ?_
  refine sq_n ?_
  refine CW_seq ?_
  refine CW_region ?_
  refine LV (R_move (v := v_a0) rfl) ?_
  refine LV (R_move (v := v_a1) rfl) ?_
  refine LE (E_ext (args := [v_a0, v_a1]) (v := .int .i64 (xCompareB a0 a1)) rfl (by exact args2 rfl rfl) (ext202 _ (h_a0.mono (Pl.mono _) hST.sub_hp) (h_a1.mono (Pl.mono _) hST.sub_hp)) ?_)
  refine LV (R_assign (v := (.int .i64 ((xCompareB a0 a1)))) rfl) ?_
  refine LW_nil ?_
  refine sq_n ?_
  refine CW_ret ?_
  replace hm := Option.some.inj hm; subst hm
  refine retQ_1 (v := (.int .i64 ((xCompareB a0 a1)))) rfl rfl ?_
  exact ⟨rfl, hST.ex⟩
theorem w_cred_Compare (a0 : Cred) (a1 : Cred) (r : Int) (w : World)  (hm : m_cred_Compare a0 a1 = some r) :
    Gives true Tryz.prog 126 [(.agg (encCred a0).toArray), (.agg (encCred a1).toArray)] w (.int .i64 r) := by
  have hST := ST.start (dd := true) w
  unfold m_cred_Compare at hm
  refine calls_of_CW (n := 10) Tryz.func126 rfl rfl (Nat.le_of_ble_eq_true rfl) ?_
  refine CW_seq ?_
  refine CW_region ?_
  refine LE (E_box (v := (.agg (encCred a0).toArray)) hST rfl (fun W2 b1 hST => ?_))
  refine LE (E_box (v := (.agg (encCred a1).toArray)) hST rfl (fun W4 b3 hST => ?_))
  refine LV (R_assign (v := (.int .i64 0)) rfl) ?_
  refine LW_nil ?_
  refine sq_n ?_
  refine CW_seq ?_
  refine PX_start (fun l W => Has (hp w) ((b3, Obj.cells ((encCred a1).toArray : Array Value) 83 (0, 0)) :: ((b1, Obj.cells ((encCred a0).toArray : Array Value) 83 (0, 0)) :: [])) W) Tryz_mixed ?_
  replace hST := hST.drew
  have hS0 : Has (hp w) ((b3, Obj.cells ((encCred a1).toArray : Array Value) 83 (0, 0)) :: ((b1, Obj.cells ((encCred a0).toArray : Array Value) 83 (0, 0)) :: [])) _ := hST.has.sub (Sub.refl _) (fun p hq => ((List.mem_cons.1 hq).elim (fun hq => by rw [hq]; exact (.head _)) (fun hq => ((List.mem_cons.1 hq).elim (fun hq => by rw [hq]; exact (.tail _ (.head _))) (fun hq => (absurd hq List.not_mem_nil))))))
  refine PX_v 0 rfl (by kernel_rfl) (.inl rfl) rfl (by decide) (fun _ _ h => h) hS0 (fun l W hpd hs => have hS := hs; R_load (v := (.agg (encCred a0).toArray)) rfl (load_boxA hS (.tail _ (.head _)) (encCred a0) rfl Tryz.isAgg83 Tryz.sizeOf83)) ?_
  refine PX_v 2 rfl (by kernel_rfl) (.inl rfl) rfl (by decide) (fun _ _ h => h) hS0 (fun l W hpd hs => have hS := hs; R_load (v := (.agg (encCred a1).toArray)) rfl (load_boxA hS (.head _) (encCred a1) rfl Tryz.isAgg83 Tryz.sizeOf83)) ?_
  obtain ⟨r43, hr44, hm⟩ := bind_some hm
  refine PX_e 1 rfl (by kernel_rfl) (.inl rfl) rfl (by decide) (E_givesRow (args := [(.agg (encCred a0).toArray)]) [_, _] _ hST rfl Tryz.call166 (by exact args1 rfl) ((w_cred_Bytes a0 _ _  hr44)) (fun W45 v48 μ46 R49 hST hle47 hR50 => ?_))
  replace hST : ST true NoF w _ _ ((b3, Obj.cells ((encCred a1).toArray : Array Value) 83 (0, 0)) :: ((b1, Obj.cells ((encCred a0).toArray : Array Value) 83 (0, 0)) :: (R49 ++ []))) := hST
  have hS0 : Has (hp w) ((b3, Obj.cells ((encCred a1).toArray : Array Value) 83 (0, 0)) :: ((b1, Obj.cells ((encCred a0).toArray : Array Value) 83 (0, 0)) :: [])) _ := hST.has.sub hle47 (fun p hq => ((List.mem_cons.1 hq).elim (fun hq => by rw [hq]; exact (.head _)) (fun hq => ((List.mem_cons.1 hq).elim (fun hq => by rw [hq]; exact (.tail _ (.head _))) (fun hq => (absurd hq List.not_mem_nil))))))
  refine ⟨hS0, ?_⟩
  obtain ⟨r51, hr52, hm⟩ := bind_some hm
  refine PX_e 3 rfl (by kernel_rfl) (.inl rfl) rfl (by decide) (E_givesRow (args := [(.agg (encCred a1).toArray)]) [_, _] _ hST rfl Tryz.call166 (by exact args1 rfl) ((w_cred_Bytes a1 _ _  hr52)) (fun W53 v56 μ54 R57 hST hle55 hR58 => ?_))
  replace hST : ST true NoF w _ _ ((b3, Obj.cells ((encCred a1).toArray : Array Value) 83 (0, 0)) :: ((b1, Obj.cells ((encCred a0).toArray : Array Value) 83 (0, 0)) :: (R57 ++ (R49 ++ [])))) := hST
  have hS0 : Has (hp w) ((b3, Obj.cells ((encCred a1).toArray : Array Value) 83 (0, 0)) :: ((b1, Obj.cells ((encCred a0).toArray : Array Value) 83 (0, 0)) :: [])) _ := hST.has.sub (hle47.trans hle55) (fun p hq => ((List.mem_cons.1 hq).elim (fun hq => by rw [hq]; exact (.head _)) (fun hq => ((List.mem_cons.1 hq).elim (fun hq => by rw [hq]; exact (.tail _ (.head _))) (fun hq => (absurd hq List.not_mem_nil))))))
  refine ⟨hS0, ?_⟩
  obtain ⟨r59, hr60, hm⟩ := bind_some hm
  refine PX_e 4 rfl (by kernel_rfl) (.inl rfl) rfl (by decide) (E_gives (args := [v48, v56]) hST rfl Tryz.call165 (by exact args2 rfl rfl) ((w_bytes_Compare v48 r43 v56 r51 _ _ (hR50.sl (fun _ => rfl) (fun b o hq => hST.at_ (.tail _ (.tail _ (List.mem_append_right _ (List.mem_append_left _ hq)))))) (hR58.sl (fun _ => rfl) (fun b o hq => hST.at_ (.tail _ (.tail _ (List.mem_append_left _ hq))))) hr60)) (fun W61 hST => ?_))
  have hS0 : Has (hp w) ((b3, Obj.cells ((encCred a1).toArray : Array Value) 83 (0, 0)) :: ((b1, Obj.cells ((encCred a0).toArray : Array Value) 83 (0, 0)) :: [])) _ := hST.has.sub (hle47.trans hle55) (fun p hq => ((List.mem_cons.1 hq).elim (fun hq => by rw [hq]; exact (.head _)) (fun hq => ((List.mem_cons.1 hq).elim (fun hq => by rw [hq]; exact (.tail _ (.head _))) (fun hq => (absurd hq List.not_mem_nil))))))
  refine ⟨hS0, ?_⟩
  refine PV 5 rfl hS0 (R_assign (v := (.int .i64 r59)) rfl) ?_
  refine PX_done (by kernel_rfl) ?_
  refine sq_n ?_
  replace hST : ST true NoF w _ _ [] := hST.sublist (List.Sublist.cons _ (List.Sublist.cons _ (((List.Sublist.refl _).trans (List.sublist_append_right _ _)).trans (List.sublist_append_right _ _))))
  refine CW_ret ?_
  replace hm := Option.some.inj hm; subst hm
  refine retQ_1 (v := (.int .i64 r59)) rfl rfl ?_
  exact ⟨rfl, hST.ex⟩
theorem w_slices_Compact_Cred (v_a0 : Value) (a0 : List Cred) (R_a0 : List (Nat × Obj)) (r : List Cred) (w : World) {μ0 : Mem} (hH : Held (R_a0 ++ []) w) (hN : (((R_a0 ++ []) : List (Nat × Obj)).map (·.1)).Nodup) (hS0 : Sub μ0 (hpx w (R_a0 ++ []))) (h_a0 : Row 83 encCred 9 v_a0 a0 R_a0) (hm : m_slices_Compact_Cred a0 = some r) :
    GivesM true Tryz.prog 127 [v_a0] w (R_a0 ++ []) (fun v L1 W' => ∃ (y1 : Value) (S2 : List (Nat × Obj)), v = y1 ∧ L1 = (S2 ++ []) ∧ Row 83 encCred 9 y1 r S2) := by
  have hST := (ST.startM (dd := true) hH hN).weak hS0
  unfold m_slices_Compact_Cred at hm
  refine calls_of_CW (n := 61) Tryz.func127 rfl rfl (Nat.le_of_ble_eq_true rfl) ?_
  refine CW_seq ?_
  refine CW_region ?_
  refine LV (R_assign (v := (.slice none 0 0)) rfl) ?_
  refine LW_nil ?_
  refine sq_n ?_
  refine CW_seq ?_
  refine CW_seq ?_
  refine CW_region ?_
  refine LV (R_move (v := v_a0) rfl) ?_
  refine LV (R_lenRow Tryz.underlying22 rfl h_a0) ?_
  refine LV (R_int (k := .i64) (a := ((a0.length : Int))) (b := 2) (v := (.bool ((decide (((a0.length : Int)) < 2))))) rfl rfl rfl) ?_
  refine LW_nil ?_
  refine sq_n ?_
  refine CW_if (b := (decide (((a0.length : Int)) < 2))) rfl (fun hb1 => ?_) (fun hb1 => ?_)
  · replace hm := if_t hb1 hm
    refine CW_seq ?_
    refine CW_region ?_
    refine LV (R_move (v := v_a0) rfl) ?_
    refine LV (R_assign (v := v_a0) rfl) ?_
    refine LW_nil ?_
    refine sq_n ?_
    refine CW_ret ?_
    refine sq_r ?_
    replace hm := Option.some.inj hm; subst hm
    refine retQ_1 (v := v_a0) rfl rfl ?_
    replace hST : ST true (keys (R_a0 ++ [])) w _ _ (R_a0 ++ []) := hST
    exact ⟨_, (R_a0 ++ []), rfl, (ST.backM (L1 := (R_a0 ++ [])) (by have hh : ST true (keys (R_a0 ++ [])) w _ _ (R_a0 ++ []) := hST.perm (List.Perm.refl _); simpa only [List.append_assoc, List.cons_append, List.nil_append] using hh)), v_a0, R_a0, rfl, rfl, h_a0⟩
  · replace hm := if_f hb1 hm
    refine CW_skip ?_
    refine sq_n ?_
    refine CW_seq ?_
    refine CW_seq ?_
    refine CW_region ?_
    refine LV (R_assign (v := (.int .i64 1)) rfl) ?_
    refine LW_nil ?_
    refine sq_n ?_
    refine CW_block (CW_loop (fun m E W => ∃ (x2891 : Int) (L3615 : List (Nat × Obj)), ST true (keys (R_a0 ++ [])) w W μ0 (R_a0 ++ L3615) ∧ E 0 = v_a0 ∧ E 3 = (.int .i64 x2891) ∧ m_slices_Compact_Cred_L1 a0 m x2891 = some r) FUEL ⟨1, _, (hST.sublist (List.Sublist.refl _)), rfl, rfl, hm⟩ ?_)
    rintro m E W ⟨x2891, L3615, hST, e3618, e3619, hm3616⟩
    cases m with
    | zero => rw [m_slices_Compact_Cred_L1] at hm3616; cases hm3616
    | succ n3617 =>
      rw [m_slices_Compact_Cred_L1] at hm3616
      refine CW_seq ?_
      refine CW_seq ?_
      refine CW_region ?_
      refine LV (R_move (v := (.int .i64 x2891)) e3619) ?_
      refine LV (R_move (v := v_a0) e3618) ?_
      refine LV (R_lenRow Tryz.underlying22 rfl h_a0) ?_
      refine LV (R_int (k := .i64) (a := x2891) (b := ((a0.length : Int))) (v := (.bool ((decide (x2891 < ((a0.length : Int))))))) rfl rfl rfl) ?_
      refine LW_nil ?_
      refine sq_n ?_
      refine CW_if (b := (decide (x2891 < ((a0.length : Int))))) rfl (fun hb3620 => ?_) (fun hb3620 => ?_)
      · replace hm3616 := if_t hb3620 hm3616
        refine CW_skip ?_
        refine sq_n ?_
        refine CW_seq ?_
        refine CW_block ?_
        refine CW_seq ?_
        refine PX_start (fun l W => Has μ0 (R_a0 ++ []) W) Tryz_mixed ?_
        replace hST := hST.drew
        have hS0 : Has μ0 (R_a0 ++ []) _ := hST.has.sub (Sub.refl _) (fun p hq => ((List.mem_append.1 hq).elim (fun hq => (List.mem_append_left _ hq)) (fun hq => (absurd hq List.not_mem_nil))))
        refine PV 0 rfl hS0 (R_move (v := v_a0) e3618) ?_
        refine PV 1 rfl hS0 (R_move (v := (.int .i64 x2891)) e3619) ?_
        obtain ⟨x3644, hx3645, hm3616⟩ := bind_some hm3616
        refine PX_q 2 rfl (by kernel_rfl) (.inl rfl) rfl (by decide) (fun _ _ h => h) hS0 (R_indexRow (i := x2891) (x0 := x3644) Tryz.underlying22 Tryz.sizeOf83 rfl rfl h_a0 (idx_nonneg hx3645) (idx_get hx3645)) (fun p3641 hp3642 => ?_)
        refine PX_v 3 rfl (by kernel_rfl) (.inl rfl) rfl (by decide) (fun _ _ h => h) hS0 (fun l W hpd hs => have hS := hs; R_load (v := (.agg (encCred x3644).toArray)) rfl (load_ixA hS (fun p hq => by simp [hq]) h_a0 lenCred hp3642 (idx_get hx3645) Tryz.isAgg83 Tryz.sizeOf83)) ?_
        refine PV 4 rfl hS0 (R_move (v := v_a0) e3618) ?_
        refine PV 5 rfl hS0 (R_move (v := (.int .i64 x2891)) e3619) ?_
        refine PV 6 rfl hS0 (R_int (k := .i64) (a := x2891) (b := 1) (v := (.int .i64 ((IntKind.i64.wrap (x2891 - 1))))) rfl rfl rfl) ?_
        obtain ⟨x3649, hx3650, hm3616⟩ := bind_some hm3616
        refine PX_q 7 rfl (by kernel_rfl) (.inl rfl) rfl (by decide) (fun _ _ h => h) hS0 (R_indexRow (i := (IntKind.i64.wrap (x2891 - 1))) (x0 := x3649) Tryz.underlying22 Tryz.sizeOf83 rfl rfl h_a0 (idx_nonneg hx3650) (idx_get hx3650)) (fun p3646 hp3647 => ?_)
        refine PX_v 8 rfl (by kernel_rfl) (.inl rfl) rfl (by decide) (fun _ _ h => h) hS0 (fun l W hpd hs => have hS := hs; R_load (v := (.agg (encCred x3649).toArray)) rfl (load_ixA hS (fun p hq => by simp [hq]) h_a0 lenCred hp3647 (idx_get hx3650) Tryz.isAgg83 Tryz.sizeOf83)) ?_
        refine PV 9 rfl hS0 (R_eql (a := (encCred x3644).toArray) (b := (encCred x3649).toArray) rfl rfl (guard_agg Tryz.eqGuardType83) (bin_eql (eqInCred _ x3644 x3649))) ?_
        refine PX_done (by kernel_rfl) ?_
        refine sq_n ?_
        refine CW_if (b := (beqCred x3644 x3649)) rfl (fun hb3651 => ?_) (fun hb3651 => ?_)
        · replace hm3616 := if_t hb3651 hm3616
          refine CW_seq ?_
          refine CW_region ?_
          refine LV (R_move (v := v_a0) e3618) ?_
          refine LV (R_move (v := (.int .i64 x2891)) e3619) ?_
          obtain ⟨_, hg3654, hm3616⟩ := bind_some hm3616
          refine LQ (R_sliceTail (i := x2891) Tryz.underlying22 Tryz.sizeOf83 rfl rfl h_a0 (chk_1 hg3654) (chk_2 hg3654)) (fun v3652 hs3653 => ?_)
          refine LV (R_assign (v := v3652) rfl) ?_
          refine LW_nil ?_
          refine sq_n ?_
          refine CW_seq ?_
          refine CW_seq ?_
          refine CW_region ?_
          refine LV (R_assign (v := (.int .i64 1)) rfl) ?_
          refine LW_nil ?_
          refine sq_n ?_
          obtain ⟨s4005, hm4006, hm4007⟩ := bind_some hm3616
          refine CW_cut (fun E W => ∃ (l3988 : List Cred) (R3990 : List (Nat × Obj)) (x3991 : Int) (L3992 : List (Nat × Obj)), ST true (keys (R_a0 ++ [])) w W μ0 (R3990 ++ L3992) ∧ E 0 = v_a0 ∧ E 3 = (.int .i64 x3991) ∧ Row 83 encCred 9 v_a0 l3988 R3990 ∧ (((chk (decide (0 ≤ x3991) && decide (x3991 ≤ (l3988.length : Int))))).bind fun _ => (((chk (decide (0 ≤ x3991) && decide (x3991 ≤ (((clearT l3988 (Int.toNat x3991) (⟨0, (⟨zS, zS⟩ : Role), zS, (⟨zS, zS⟩ : Role), (⟨zS, zS⟩ : Role), zS⟩ : Cred))).length : Int))))).bind fun _ => some (((clearT l3988 (Int.toNat x3991) (⟨0, (⟨zS, zS⟩ : Role), zS, (⟨zS, zS⟩ : Role), (⟨zS, zS⟩ : Role), zS⟩ : Cred))).take (Int.toNat x3991)))) = some r) ?_ ?_
          · refine CW_block (CW_loop (fun m E W => ∃ (l4112 : List Cred) (R4114 : List (Nat × Obj)) (x4115 : Int) (x4116 : Int) (L4230 : List (Nat × Obj)), ST true (keys (R_a0 ++ [])) w W μ0 (R4114 ++ L4230) ∧ E 0 = v_a0 ∧ E 3 = (.int .i64 x4115) ∧ E 4 = v3652 ∧ E 5 = (.int .i64 x4116) ∧ Row 83 encCred 9 v_a0 l4112 R4114 ∧ m_slices_Compact_Cred_L2 x2891 m l4112 x4115 x4116 = some s4005) FUEL ⟨a0, R_a0, x2891, 1, _, (hST.sublist (List.Sublist.refl _)), e3618, e3619, rfl, rfl, h_a0, hm4006⟩ ?_)
            rintro m E W ⟨l4112, R4114, x4115, x4116, L4230, hST, e4233, e4234, e4235, e4236, hs4113, hm4231⟩
            cases m with
            | zero => rw [m_slices_Compact_Cred_L2] at hm4231; cases hm4231
            | succ n4232 =>
              rw [m_slices_Compact_Cred_L2] at hm4231
              refine CW_seq ?_
              refine CW_seq ?_
              refine CW_region ?_
              refine LV (R_move (v := (.int .i64 x4116)) e4236) ?_
              refine LV (R_move (v := v3652) e4235) ?_
              refine LV (R_lenTail Tryz.underlying22 rfl hs3653 hs4113) ?_
              refine LV (R_int (k := .i64) (a := x4116) (b := (((l4112.length - (Int.toNat x2891) : Nat) : Int))) (v := (.bool ((decide (x4116 < (((l4112.length - (Int.toNat x2891) : Nat) : Int))))))) rfl rfl rfl) ?_
              refine LW_nil ?_
              refine sq_n ?_
              refine CW_if (b := (decide (x4116 < (((l4112.length - (Int.toNat x2891) : Nat) : Int))))) rfl (fun hb4237 => ?_) (fun hb4237 => ?_)
              · replace hm4231 := if_t hb4237 hm4231
                refine CW_skip ?_
                refine sq_n ?_
                refine CW_seq ?_
                obtain ⟨s4293, hm4294, hm4295⟩ := bind_some hm4231
                refine CW_cut (fun E W => ∃ (l4283 : List Cred) (R4285 : List (Nat × Obj)) (x4286 : Int) (L4287 : List (Nat × Obj)), ST true (keys (R_a0 ++ [])) w W μ0 (R4285 ++ L4287) ∧ E 0 = v_a0 ∧ E 3 = (.int .i64 x4286) ∧ E 4 = v3652 ∧ E 5 = (.int .i64 x4116) ∧ Row 83 encCred 9 v_a0 l4283 R4285 ∧ (m_slices_Compact_Cred_L2 x2891 n4232 l4283 x4286 ((IntKind.i64.wrap (x4116 + 1)))) = some s4005) ?_ ?_
                · refine CW_block ?_
                  refine CW_seq ?_
                  refine PX_start (fun l W => Has μ0 (R4114 ++ []) W) Tryz_mixed ?_
                  replace hST := hST.drew
                  have hS0 : Has μ0 (R4114 ++ []) _ := hST.has.sub (Sub.refl _) (fun p hq => ((List.mem_append.1 hq).elim (fun hq => (List.mem_append_left _ hq)) (fun hq => (absurd hq List.not_mem_nil))))
                  refine PV 0 rfl hS0 (R_move (v := v3652) e4235) ?_
                  refine PV 1 rfl hS0 (R_move (v := (.int .i64 x4116)) e4236) ?_
                  obtain ⟨x4319, hx4320, hm4294⟩ := bind_some hm4294
                  refine PX_q 2 rfl (by kernel_rfl) (.inl rfl) rfl (by decide) (fun _ _ h => h) hS0 (R_indexTail (i := x4116) (x0 := x4319) Tryz.underlying22 Tryz.sizeOf83 rfl rfl hs4113 hs3653 (idx_nonneg hx4320) (idx_get hx4320)) (fun p4316 hp4317 => ?_)
                  refine PX_v 3 rfl (by kernel_rfl) (.inl rfl) rfl (by decide) (fun _ _ h => h) hS0 (fun l W hpd hs => have hS := hs; R_load (v := (.agg (encCred x4319).toArray)) rfl (load_ixA hS (fun p hq => by simp [hq]) hs4113 lenCred hp4317 (tail_get (idx_get hx4320)) Tryz.isAgg83 Tryz.sizeOf83)) ?_
                  refine PV 4 rfl hS0 (R_move (v := v3652) e4235) ?_
                  refine PV 5 rfl hS0 (R_move (v := (.int .i64 x4116)) e4236) ?_
                  refine PV 6 rfl hS0 (R_int (k := .i64) (a := x4116) (b := 1) (v := (.int .i64 ((IntKind.i64.wrap (x4116 - 1))))) rfl rfl rfl) ?_
                  obtain ⟨x4324, hx4325, hm4294⟩ := bind_some hm4294
                  refine PX_q 7 rfl (by kernel_rfl) (.inl rfl) rfl (by decide) (fun _ _ h => h) hS0 (R_indexTail (i := (IntKind.i64.wrap (x4116 - 1))) (x0 := x4324) Tryz.underlying22 Tryz.sizeOf83 rfl rfl hs4113 hs3653 (idx_nonneg hx4325) (idx_get hx4325)) (fun p4321 hp4322 => ?_)
                  refine PX_v 8 rfl (by kernel_rfl) (.inl rfl) rfl (by decide) (fun _ _ h => h) hS0 (fun l W hpd hs => have hS := hs; R_load (v := (.agg (encCred x4324).toArray)) rfl (load_ixA hS (fun p hq => by simp [hq]) hs4113 lenCred hp4322 (tail_get (idx_get hx4325)) Tryz.isAgg83 Tryz.sizeOf83)) ?_
                  refine PV 9 rfl hS0 (R_neq (a := (encCred x4319).toArray) (b := (encCred x4324).toArray) rfl rfl (guard_agg Tryz.eqGuardType83) (bin_neq (eqInCred _ x4319 x4324))) ?_
                  refine PX_done (by kernel_rfl) ?_
                  refine sq_n ?_
                  refine CW_if (b := (!(beqCred x4319 x4324))) rfl (fun hb4326 => ?_) (fun hb4326 => ?_)
                  · replace hm4294 := if_t hb4326 hm4294
                    refine CW_seq ?_
                    refine CW_region ?_
                    refine LV (R_move (v := v_a0) e4233) ?_
                    refine LV (R_move (v := (.int .i64 x4115)) e4234) ?_
                    refine LV (R_move (v := v3652) e4235) ?_
                    refine LV (R_move (v := (.int .i64 x4116)) e4236) ?_
                    obtain ⟨x4330, hx4331, hm4294⟩ := bind_some hm4294
                    refine LQ (R_indexTail (i := x4116) (x0 := x4330) Tryz.underlying22 Tryz.sizeOf83 rfl rfl hs4113 hs3653 (idx_nonneg hx4331) (idx_get hx4331)) (fun p4327 hp4328 => ?_)
                    refine LV (R_load (v := (.agg (encCred x4330).toArray)) rfl (load_ixA hST.has (fun p hq => by simp [hq]) hs4113 lenCred hp4328 (tail_get (idx_get hx4331)) Tryz.isAgg83 Tryz.sizeOf83)) ?_
                    obtain ⟨x4335, hx4336, hm4294⟩ := bind_some hm4294
                    refine LQ (R_indexRow (i := x4115) (x0 := x4335) Tryz.underlying22 Tryz.sizeOf83 rfl rfl hs4113 (idx_nonneg hx4336) (idx_get hx4336)) (fun p4332 hp4333 => ?_)
                    refine LW_e0 (.inl rfl) rfl (E_storeRow (u := (.agg (encCred x4330).toArray)) (x1 := x4330) [] hST hs4113 lenCred oneCred rfl rfl rfl hp4333 (idx_get hx4336) Tryz.sizeOf83 (fun W4337 R4338 hST hR4339 => ?_))
                    refine LW_nil ?_
                    refine sq_n ?_
                    refine CW_region ?_
                    refine LV (R_move (v := (.int .i64 x4115)) e4234) ?_
                    refine LV (R_int (k := .i64) (a := x4115) (b := 1) (v := (.int .i64 ((IntKind.i64.wrap (x4115 + 1))))) rfl rfl rfl) ?_
                    refine LV (R_assign (v := (.int .i64 ((IntKind.i64.wrap (x4115 + 1))))) rfl) ?_
                    refine LW_nil ?_
                    refine bq_n ?_
                    refine sq_n ?_
                    replace hm4294 := Option.some.inj hm4294; subst hm4294
                    replace hST : ST true (keys (R_a0 ++ [])) w _ _ (R4338 ++ L4230) := hST
                    exact ⟨((l4112.set (Int.toNat x4115) x4330)), R4338, ((IntKind.i64.wrap (x4115 + 1))), _, (hST.sublist (List.Sublist.refl _)), e4233, rfl, e4235, e4236, hR4339, hm4295⟩
                  · replace hm4294 := if_f hb4326 hm4294
                    refine CW_skip ?_
                    refine bq_n ?_
                    refine sq_n ?_
                    replace hm4294 := Option.some.inj hm4294; subst hm4294
                    exact ⟨l4112, R4114, x4115, _, (hST.sublist (List.Sublist.refl _)), e4233, e4234, e4235, e4236, hs4113, hm4295⟩
                · rintro E W ⟨l4283, R4285, x4286, L4287, hST, e4289, e4290, e4291, e4292, hs4284, hm4288⟩
                  refine CW_region ?_
                  refine LV (R_move (v := (.int .i64 x4116)) e4292) ?_
                  refine LV (R_int (k := .i64) (a := x4116) (b := 1) (v := (.int .i64 ((IntKind.i64.wrap (x4116 + 1))))) rfl rfl rfl) ?_
                  refine LV (R_assign (v := (.int .i64 ((IntKind.i64.wrap (x4116 + 1))))) rfl) ?_
                  refine LW_nil ?_
                  refine sq_n ?_
                  exact ⟨n4232, Nat.lt_succ_self _, l4283, R4285, x4286, ((IntKind.i64.wrap (x4116 + 1))), _, (hST.sublist (List.Sublist.refl _)), e4289, e4290, e4291, rfl, hs4284, hm4288⟩
              · replace hm4231 := if_f hb4237 hm4231
                refine CW_exit ?_
                refine sq_e (sq_e (bq_e ?_))
                refine sq_n ?_
                replace hm4231 := Option.some.inj hm4231; subst hm4231
                exact ⟨l4112, R4114, x4115, _, (hST.sublist (List.Sublist.refl _)), e4233, e4234, hs4113, hm4007⟩
          · rintro E W ⟨l3988, R3990, x3991, L3992, hST, e3994, e3995, hs3989, hm3993⟩
            refine CW_seq ?_
            refine CW_region ?_
            refine LV (R_move (v := v_a0) e3994) ?_
            refine LV (R_move (v := (.int .i64 x3991)) e3995) ?_
            obtain ⟨_, hg3998, hm3993⟩ := bind_some hm3993
            refine LQ (R_sliceTail (i := x3991) Tryz.underlying22 Tryz.sizeOf83 rfl rfl hs3989 (chk_1 hg3998) (chk_2 hg3998)) (fun v3996 hs3997 => ?_)
            refine LW_e0 (.inl rfl) rfl (E_clearTail (z := (⟨0, (⟨zS, zS⟩ : Role), zS, (⟨zS, zS⟩ : Role), (⟨zS, zS⟩ : Role), zS⟩ : Cred)) [] hST hs3989 lenCred oneCred Tryz.underlying22 Tryz.zeroValue83 hs3997 rfl rfl (fun W3999 R4000 hST hR4001 => ?_))
            refine LW_nil ?_
            refine sq_n ?_
            refine CW_seq ?_
            refine CW_region ?_
            refine LV (R_move (v := v_a0) e3994) ?_
            refine LV (R_move (v := (.int .i64 x3991)) e3995) ?_
            obtain ⟨_, hg4004, hm3993⟩ := bind_some hm3993
            refine LQ (R_sliceTo (i := x3991) Tryz.underlying22 Tryz.sizeOf83 rfl rfl hR4001 lenCred (chk_1 hg4004) (chk_2 hg4004)) (fun v4002 hs4003 => ?_)
            refine LV (R_assign (v := v4002) rfl) ?_
            refine LW_nil ?_
            refine sq_n ?_
            refine CW_ret ?_
            refine bq_r (sq_r (sq_r (bq_r (sq_r ?_))))
            replace hm3993 := Option.some.inj hm3993; subst hm3993
            refine retQ_1 (v := v4002) rfl rfl ?_
            replace hST : ST true (keys (R_a0 ++ [])) w _ _ (R4000 ++ L3992) := hST
            exact ⟨_, (R4000 ++ []), rfl, (ST.backM (L1 := (R4000 ++ [])) (by have hh : ST true (keys (R_a0 ++ [])) w _ _ (R4000 ++ L3992) := hST.perm (List.Perm.refl _); simpa only [List.append_assoc, List.cons_append, List.nil_append] using hh)), v4002, R4000, rfl, rfl, hs4003⟩
        · replace hm3616 := if_f hb3651 hm3616
          refine CW_skip ?_
          refine bq_n ?_
          refine sq_n ?_
          refine CW_region ?_
          refine LV (R_move (v := (.int .i64 x2891)) e3619) ?_
          refine LV (R_int (k := .i64) (a := x2891) (b := 1) (v := (.int .i64 ((IntKind.i64.wrap (x2891 + 1))))) rfl rfl rfl) ?_
          refine LV (R_assign (v := (.int .i64 ((IntKind.i64.wrap (x2891 + 1))))) rfl) ?_
          refine LW_nil ?_
          refine sq_n ?_
          exact ⟨n3617, Nat.lt_succ_self _, ((IntKind.i64.wrap (x2891 + 1))), _, (hST.sublist (List.Sublist.refl _)), e3618, rfl, hm3616⟩
      · replace hm3616 := if_f hb3620 hm3616
        refine CW_exit ?_
        refine sq_e (sq_e (bq_e ?_))
        refine sq_n ?_
        refine CW_seq ?_
        refine CW_region ?_
        refine LV (R_move (v := v_a0) e3618) ?_
        refine LV (R_assign (v := v_a0) rfl) ?_
        refine LW_nil ?_
        refine sq_n ?_
        refine CW_ret ?_
        replace hm3616 := Option.some.inj hm3616; subst hm3616
        refine retQ_1 (v := v_a0) rfl rfl ?_
        replace hST : ST true (keys (R_a0 ++ [])) w _ _ (R_a0 ++ L3615) := hST
        exact ⟨_, (R_a0 ++ []), rfl, (ST.backM (L1 := (R_a0 ++ [])) (by have hh : ST true (keys (R_a0 ++ [])) w _ _ (R_a0 ++ L3615) := hST.perm (List.Perm.refl _); simpa only [List.append_assoc, List.cons_append, List.nil_append] using hh)), v_a0, R_a0, rfl, rfl, h_a0⟩
theorem w_cred_Set (v_a0 : Value) (a0 : List Cred) (r : List Cred) (w : World) (h_a0 : Sl (Pl encCred) 9 (hp w) v_a0 a0) (hm : m_cred_Set a0 = some r) :
    GivesRow true Tryz.prog 77 [v_a0] w 83 encCred 9 r := by
  have hST := ST.start (dd := true) w
  unfold m_cred_Set at hm
  refine calls_of_CW (n := 11) Tryz.func77 rfl rfl (Nat.le_of_ble_eq_true rfl) ?_
  refine CW_seq ?_
  refine CW_region ?_
  refine LV (R_assign (v := (.slice none 0 0)) rfl) ?_
  refine LW_nil ?_
  refine sq_n ?_
  refine CW_seq ?_
  refine CW_region ?_
  refine LV (R_move (v := v_a0) rfl) ?_
  obtain ⟨r1, hr2, hm⟩ := bind_some hm
  refine LE (E_givesRow (args := [v_a0]) [] _ hST rfl Tryz.call81 (by exact args1 rfl) ((w_slices_Clone_Cred v_a0 a0 _ _ (h_a0.mono (Pl.mono _) hST.sub_hp) hr2)) (fun W3 v6 μ4 R7 hST hle5 hR8 => ?_))
  replace hST : ST true NoF w _ _ (R7 ++ []) := hST
  obtain ⟨r9, hr10, hm⟩ := bind_some hm
  replace hST : ST true NoF w _ _ (R7 ++ []) := hST.perm (List.Perm.refl _)
  have hsz := hST.size
  refine LE (E_callM (args := [v6, (.func (.func 124) #[] #[])]) (caps := #[]) ((R7 ++ [])) ([]) hST (by simp only [List.append_assoc, List.cons_append, List.nil_append]; exact List.Perm.refl _) rfl Tryz.call80 (by exact args2 rfl rfl) (fun hH hN hsb hmm => (w_slices_DeleteFunc_Cred v6 r1 R7 (.func (.func 124) #[] #[]) (fun (x : Cred) => m_cred_Set_c1 x) _ _ hH hN (Sub.refl _) hR8 ⟨124, #[], #[], rfl, Tryz.call124, fun W x r hs hm => w_cred_Set_c1 x r W  hm⟩ hr10)) (fun W11 v14 μ12 L16 hST hle13 hlift hK15 => ?_))
  obtain ⟨y17, S18, hv20, rfl, hy19⟩ := hK15
  replace hv20 := hv20.symm; subst hv20
  simp only [List.append_assoc, List.cons_append, List.nil_append] at hST
  refine LV (R_assign (v := y17) rfl) ?_
  refine LW_nil ?_
  refine sq_n ?_
  refine CW_seq ?_
  refine CW_region ?_
  refine LV (R_move (v := y17) rfl) ?_
  replace hST : ST true NoF w _ _ (S18 ++ []) := hST
  obtain ⟨r21, hr22, hm⟩ := bind_some hm
  replace hST : ST true NoF w _ _ (S18 ++ []) := hST.perm (List.Perm.refl _)
  have hsz := hST.size
  refine LE (E_callM (args := [y17, (.func (.func 126) #[] #[])]) (caps := #[]) ((S18 ++ [])) ([]) hST (by simp only [List.append_assoc, List.cons_append, List.nil_append]; exact List.Perm.refl _) rfl Tryz.call125 (by exact args2 rfl rfl) (fun hH hN hsb hmm => (w_sortF125 y17 r9 S18 (.func (.func 126) #[] #[]) (fun (x : (Cred × Cred)) => m_cred_Compare x.1 x.2) _ _ hH hN (Sub.refl _) hy19 ⟨126, #[], rfl, Tryz.call126, fun W x r hs hm => w_cred_Compare x.1 x.2 r W  hm⟩ hr22)) (fun W23 v26 μ24 L28 hST hle25 hlift hK27 => ?_))
  obtain ⟨S29, hv31, rfl, hy30⟩ := hK27
  replace hv31 := hv31.symm; subst hv31
  simp only [List.append_assoc, List.cons_append, List.nil_append] at hST
  refine LW_nil ?_
  refine sq_n ?_
  refine CW_seq ?_
  refine CW_region ?_
  refine LV (R_move (v := y17) rfl) ?_
  replace hST : ST true NoF w _ _ (S29 ++ []) := hST
  obtain ⟨r32, hr33, hm⟩ := bind_some hm
  replace hST : ST true NoF w _ _ (S29 ++ []) := hST.perm (List.Perm.refl _)
  have hsz := hST.size
  refine LE (E_callM (args := [y17]) (caps := #[]) ((S29 ++ [])) ([]) hST (by simp only [List.append_assoc, List.cons_append, List.nil_append]; exact List.Perm.refl _) rfl Tryz.call127 (by exact args1 rfl) (fun hH hN hsb hmm => (w_slices_Compact_Cred y17 r21 S29 _ _ hH hN (Sub.refl _) hy30 hr33)) (fun W34 v37 μ35 L39 hST hle36 hlift hK38 => ?_))
  obtain ⟨y40, S41, hv43, rfl, hy42⟩ := hK38
  replace hv43 := hv43.symm; subst hv43
  simp only [List.append_assoc, List.cons_append, List.nil_append] at hST
  refine LV (R_assign (v := y40) rfl) ?_
  refine LW_nil ?_
  refine sq_n ?_
  refine CW_ret ?_
  replace hm := Option.some.inj hm; subst hm
  refine retQ_1 (v := y40) rfl rfl ?_
  exact ⟨_, S41, rfl, hST.backRow (fun p hq => by simp [hq]) hy42.nd, hy42⟩
theorem w_sortS135 (v_a0 : Value) (a0 : List ByteArray) (R_a0 : List (Nat × Obj)) (r : List ByteArray) (w : World) {μ0 : Mem} (hH : Held (R_a0 ++ []) w) (hN : (((R_a0 ++ []) : List (Nat × Obj)).map (·.1)).Nodup) (hS0 : Sub μ0 (hpx w (R_a0 ++ []))) (h_a0 : Row 9 encSk 1 v_a0 a0 R_a0) (hm : sortS a0 = some r) :
    GivesM true Tryz.prog 135 [v_a0] w (R_a0 ++ []) (fun v L1 W' => ∃ (S : List (Nat × Obj)), v = (.tuple #[]) ∧ L1 = (S ++ []) ∧ Row 9 encSk 1 v_a0 r S) := sortS_gives (P := Tryz.prog) (ρ := ren135) lay135 hH h_a0 hm
theorem w_slices_Compact_string (v_a0 : Value) (a0 : List ByteArray) (R_a0 : List (Nat × Obj)) (r : List ByteArray) (w : World) {μ0 : Mem} (hH : Held (R_a0 ++ []) w) (hN : (((R_a0 ++ []) : List (Nat × Obj)).map (·.1)).Nodup) (hS0 : Sub μ0 (hpx w (R_a0 ++ []))) (h_a0 : Row 9 encSk 1 v_a0 a0 R_a0) (hm : m_slices_Compact_string a0 = some r) :
    GivesM true Tryz.prog 136 [v_a0] w (R_a0 ++ []) (fun v L1 W' => ∃ (y1 : Value) (S2 : List (Nat × Obj)), v = y1 ∧ L1 = (S2 ++ []) ∧ Row 9 encSk 1 y1 r S2) := by
  have hST := (ST.startM (dd := true) hH hN).weak hS0
  unfold m_slices_Compact_string at hm
  refine calls_of_CW (n := 61) Tryz.func136 rfl rfl (Nat.le_of_ble_eq_true rfl) ?_
  refine CW_seq ?_
  refine CW_region ?_
  refine LV (R_assign (v := (.slice none 0 0)) rfl) ?_
  refine LW_nil ?_
  refine sq_n ?_
  refine CW_seq ?_
  refine CW_seq ?_
  refine CW_region ?_
  refine LV (R_move (v := v_a0) rfl) ?_
  refine LV (R_lenRow Tryz.underlying27 rfl h_a0) ?_
  refine LV (R_int (k := .i64) (a := ((a0.length : Int))) (b := 2) (v := (.bool ((decide (((a0.length : Int)) < 2))))) rfl rfl rfl) ?_
  refine LW_nil ?_
  refine sq_n ?_
  refine CW_if (b := (decide (((a0.length : Int)) < 2))) rfl (fun hb1 => ?_) (fun hb1 => ?_)
  · replace hm := if_t hb1 hm
    refine CW_seq ?_
    refine CW_region ?_
    refine LV (R_move (v := v_a0) rfl) ?_
    refine LV (R_assign (v := v_a0) rfl) ?_
    refine LW_nil ?_
    refine sq_n ?_
    refine CW_ret ?_
    refine sq_r ?_
    replace hm := Option.some.inj hm; subst hm
    refine retQ_1 (v := v_a0) rfl rfl ?_
    replace hST : ST true (keys (R_a0 ++ [])) w _ _ (R_a0 ++ []) := hST
    exact ⟨_, (R_a0 ++ []), rfl, (ST.backM (L1 := (R_a0 ++ [])) (by have hh : ST true (keys (R_a0 ++ [])) w _ _ (R_a0 ++ []) := hST.perm (List.Perm.refl _); simpa only [List.append_assoc, List.cons_append, List.nil_append] using hh)), v_a0, R_a0, rfl, rfl, h_a0⟩
  · replace hm := if_f hb1 hm
    refine CW_skip ?_
    refine sq_n ?_
    refine CW_seq ?_
    refine CW_seq ?_
    refine CW_region ?_
    refine LV (R_assign (v := (.int .i64 1)) rfl) ?_
    refine LW_nil ?_
    refine sq_n ?_
    refine CW_block (CW_loop (fun m E W => ∃ (x2891 : Int) (L3615 : List (Nat × Obj)), ST true (keys (R_a0 ++ [])) w W μ0 (R_a0 ++ L3615) ∧ E 0 = v_a0 ∧ E 3 = (.int .i64 x2891) ∧ m_slices_Compact_string_L1 a0 m x2891 = some r) FUEL ⟨1, _, (hST.sublist (List.Sublist.refl _)), rfl, rfl, hm⟩ ?_)
    rintro m E W ⟨x2891, L3615, hST, e3618, e3619, hm3616⟩
    cases m with
    | zero => rw [m_slices_Compact_string_L1] at hm3616; cases hm3616
    | succ n3617 =>
      rw [m_slices_Compact_string_L1] at hm3616
      refine CW_seq ?_
      refine CW_seq ?_
      refine CW_region ?_
      refine LV (R_move (v := (.int .i64 x2891)) e3619) ?_
      refine LV (R_move (v := v_a0) e3618) ?_
      refine LV (R_lenRow Tryz.underlying27 rfl h_a0) ?_
      refine LV (R_int (k := .i64) (a := x2891) (b := ((a0.length : Int))) (v := (.bool ((decide (x2891 < ((a0.length : Int))))))) rfl rfl rfl) ?_
      refine LW_nil ?_
      refine sq_n ?_
      refine CW_if (b := (decide (x2891 < ((a0.length : Int))))) rfl (fun hb3620 => ?_) (fun hb3620 => ?_)
      · replace hm3616 := if_t hb3620 hm3616
        refine CW_skip ?_
        refine sq_n ?_
        refine CW_seq ?_
        refine CW_block ?_
        refine CW_seq ?_
        refine PX_start (fun l W => Has μ0 (R_a0 ++ []) W) Tryz_mixed ?_
        replace hST := hST.drew
        have hS0 : Has μ0 (R_a0 ++ []) _ := hST.has.sub (Sub.refl _) (fun p hq => ((List.mem_append.1 hq).elim (fun hq => (List.mem_append_left _ hq)) (fun hq => (absurd hq List.not_mem_nil))))
        refine PV 0 rfl hS0 (R_move (v := v_a0) e3618) ?_
        refine PV 1 rfl hS0 (R_move (v := (.int .i64 x2891)) e3619) ?_
        obtain ⟨x3644, hx3645, hm3616⟩ := bind_some hm3616
        refine PX_q 2 rfl (by kernel_rfl) (.inl rfl) rfl (by decide) (fun _ _ h => h) hS0 (R_indexRow (i := x2891) (x0 := x3644) Tryz.underlying27 Tryz.sizeOf9 rfl rfl h_a0 (idx_nonneg hx3645) (idx_get hx3645)) (fun p3641 hp3642 => ?_)
        refine PX_v 3 rfl (by kernel_rfl) (.inl rfl) rfl (by decide) (fun _ _ h => h) hS0 (fun l W hpd hs => have hS := hs; R_load (v := (.string x3644)) rfl (load_ix1 hS (fun p hq => by simp [hq]) h_a0 (fun _ => rfl) hp3642 (idx_get hx3645) (y := (.string x3644)) rfl Tryz.isAgg9)) ?_
        refine PV 4 rfl hS0 (R_move (v := v_a0) e3618) ?_
        refine PV 5 rfl hS0 (R_move (v := (.int .i64 x2891)) e3619) ?_
        refine PV 6 rfl hS0 (R_int (k := .i64) (a := x2891) (b := 1) (v := (.int .i64 ((IntKind.i64.wrap (x2891 - 1))))) rfl rfl rfl) ?_
        obtain ⟨x3649, hx3650, hm3616⟩ := bind_some hm3616
        refine PX_q 7 rfl (by kernel_rfl) (.inl rfl) rfl (by decide) (fun _ _ h => h) hS0 (R_indexRow (i := (IntKind.i64.wrap (x2891 - 1))) (x0 := x3649) Tryz.underlying27 Tryz.sizeOf9 rfl rfl h_a0 (idx_nonneg hx3650) (idx_get hx3650)) (fun p3646 hp3647 => ?_)
        refine PX_v 8 rfl (by kernel_rfl) (.inl rfl) rfl (by decide) (fun _ _ h => h) hS0 (fun l W hpd hs => have hS := hs; R_load (v := (.string x3649)) rfl (load_ix1 hS (fun p hq => by simp [hq]) h_a0 (fun _ => rfl) hp3647 (idx_get hx3650) (y := (.string x3649)) rfl Tryz.isAgg9)) ?_
        refine PV 9 rfl hS0 (R_str (a := x3644) (b := x3649) (v := (.bool ((beqS x3644 x3649)))) rfl rfl rfl) ?_
        refine PX_done (by kernel_rfl) ?_
        refine sq_n ?_
        refine CW_if (b := (beqS x3644 x3649)) rfl (fun hb3651 => ?_) (fun hb3651 => ?_)
        · replace hm3616 := if_t hb3651 hm3616
          refine CW_seq ?_
          refine CW_region ?_
          refine LV (R_move (v := v_a0) e3618) ?_
          refine LV (R_move (v := (.int .i64 x2891)) e3619) ?_
          obtain ⟨_, hg3654, hm3616⟩ := bind_some hm3616
          refine LQ (R_sliceTail (i := x2891) Tryz.underlying27 Tryz.sizeOf9 rfl rfl h_a0 (chk_1 hg3654) (chk_2 hg3654)) (fun v3652 hs3653 => ?_)
          refine LV (R_assign (v := v3652) rfl) ?_
          refine LW_nil ?_
          refine sq_n ?_
          refine CW_seq ?_
          refine CW_seq ?_
          refine CW_region ?_
          refine LV (R_assign (v := (.int .i64 1)) rfl) ?_
          refine LW_nil ?_
          refine sq_n ?_
          obtain ⟨s4005, hm4006, hm4007⟩ := bind_some hm3616
          refine CW_cut (fun E W => ∃ (l3988 : List ByteArray) (R3990 : List (Nat × Obj)) (x3991 : Int) (L3992 : List (Nat × Obj)), ST true (keys (R_a0 ++ [])) w W μ0 (R3990 ++ L3992) ∧ E 0 = v_a0 ∧ E 3 = (.int .i64 x3991) ∧ Row 9 encSk 1 v_a0 l3988 R3990 ∧ (((chk (decide (0 ≤ x3991) && decide (x3991 ≤ (l3988.length : Int))))).bind fun _ => (((chk (decide (0 ≤ x3991) && decide (x3991 ≤ (((clearT l3988 (Int.toNat x3991) zS)).length : Int))))).bind fun _ => some (((clearT l3988 (Int.toNat x3991) zS)).take (Int.toNat x3991)))) = some r) ?_ ?_
          · refine CW_block (CW_loop (fun m E W => ∃ (l4112 : List ByteArray) (R4114 : List (Nat × Obj)) (x4115 : Int) (x4116 : Int) (L4230 : List (Nat × Obj)), ST true (keys (R_a0 ++ [])) w W μ0 (R4114 ++ L4230) ∧ E 0 = v_a0 ∧ E 3 = (.int .i64 x4115) ∧ E 4 = v3652 ∧ E 5 = (.int .i64 x4116) ∧ Row 9 encSk 1 v_a0 l4112 R4114 ∧ m_slices_Compact_string_L2 x2891 m l4112 x4115 x4116 = some s4005) FUEL ⟨a0, R_a0, x2891, 1, _, (hST.sublist (List.Sublist.refl _)), e3618, e3619, rfl, rfl, h_a0, hm4006⟩ ?_)
            rintro m E W ⟨l4112, R4114, x4115, x4116, L4230, hST, e4233, e4234, e4235, e4236, hs4113, hm4231⟩
            cases m with
            | zero => rw [m_slices_Compact_string_L2] at hm4231; cases hm4231
            | succ n4232 =>
              rw [m_slices_Compact_string_L2] at hm4231
              refine CW_seq ?_
              refine CW_seq ?_
              refine CW_region ?_
              refine LV (R_move (v := (.int .i64 x4116)) e4236) ?_
              refine LV (R_move (v := v3652) e4235) ?_
              refine LV (R_lenTail Tryz.underlying27 rfl hs3653 hs4113) ?_
              refine LV (R_int (k := .i64) (a := x4116) (b := (((l4112.length - (Int.toNat x2891) : Nat) : Int))) (v := (.bool ((decide (x4116 < (((l4112.length - (Int.toNat x2891) : Nat) : Int))))))) rfl rfl rfl) ?_
              refine LW_nil ?_
              refine sq_n ?_
              refine CW_if (b := (decide (x4116 < (((l4112.length - (Int.toNat x2891) : Nat) : Int))))) rfl (fun hb4237 => ?_) (fun hb4237 => ?_)
              · replace hm4231 := if_t hb4237 hm4231
                refine CW_skip ?_
                refine sq_n ?_
                refine CW_seq ?_
                obtain ⟨s4293, hm4294, hm4295⟩ := bind_some hm4231
                refine CW_cut (fun E W => ∃ (l4283 : List ByteArray) (R4285 : List (Nat × Obj)) (x4286 : Int) (L4287 : List (Nat × Obj)), ST true (keys (R_a0 ++ [])) w W μ0 (R4285 ++ L4287) ∧ E 0 = v_a0 ∧ E 3 = (.int .i64 x4286) ∧ E 4 = v3652 ∧ E 5 = (.int .i64 x4116) ∧ Row 9 encSk 1 v_a0 l4283 R4285 ∧ (m_slices_Compact_string_L2 x2891 n4232 l4283 x4286 ((IntKind.i64.wrap (x4116 + 1)))) = some s4005) ?_ ?_
                · refine CW_block ?_
                  refine CW_seq ?_
                  refine PX_start (fun l W => Has μ0 (R4114 ++ []) W) Tryz_mixed ?_
                  replace hST := hST.drew
                  have hS0 : Has μ0 (R4114 ++ []) _ := hST.has.sub (Sub.refl _) (fun p hq => ((List.mem_append.1 hq).elim (fun hq => (List.mem_append_left _ hq)) (fun hq => (absurd hq List.not_mem_nil))))
                  refine PV 0 rfl hS0 (R_move (v := v3652) e4235) ?_
                  refine PV 1 rfl hS0 (R_move (v := (.int .i64 x4116)) e4236) ?_
                  obtain ⟨x4319, hx4320, hm4294⟩ := bind_some hm4294
                  refine PX_q 2 rfl (by kernel_rfl) (.inl rfl) rfl (by decide) (fun _ _ h => h) hS0 (R_indexTail (i := x4116) (x0 := x4319) Tryz.underlying27 Tryz.sizeOf9 rfl rfl hs4113 hs3653 (idx_nonneg hx4320) (idx_get hx4320)) (fun p4316 hp4317 => ?_)
                  refine PX_v 3 rfl (by kernel_rfl) (.inl rfl) rfl (by decide) (fun _ _ h => h) hS0 (fun l W hpd hs => have hS := hs; R_load (v := (.string x4319)) rfl (load_ix1 hS (fun p hq => by simp [hq]) hs4113 (fun _ => rfl) hp4317 (tail_get (idx_get hx4320)) (y := (.string x4319)) rfl Tryz.isAgg9)) ?_
                  refine PV 4 rfl hS0 (R_move (v := v3652) e4235) ?_
                  refine PV 5 rfl hS0 (R_move (v := (.int .i64 x4116)) e4236) ?_
                  refine PV 6 rfl hS0 (R_int (k := .i64) (a := x4116) (b := 1) (v := (.int .i64 ((IntKind.i64.wrap (x4116 - 1))))) rfl rfl rfl) ?_
                  obtain ⟨x4324, hx4325, hm4294⟩ := bind_some hm4294
                  refine PX_q 7 rfl (by kernel_rfl) (.inl rfl) rfl (by decide) (fun _ _ h => h) hS0 (R_indexTail (i := (IntKind.i64.wrap (x4116 - 1))) (x0 := x4324) Tryz.underlying27 Tryz.sizeOf9 rfl rfl hs4113 hs3653 (idx_nonneg hx4325) (idx_get hx4325)) (fun p4321 hp4322 => ?_)
                  refine PX_v 8 rfl (by kernel_rfl) (.inl rfl) rfl (by decide) (fun _ _ h => h) hS0 (fun l W hpd hs => have hS := hs; R_load (v := (.string x4324)) rfl (load_ix1 hS (fun p hq => by simp [hq]) hs4113 (fun _ => rfl) hp4322 (tail_get (idx_get hx4325)) (y := (.string x4324)) rfl Tryz.isAgg9)) ?_
                  refine PV 9 rfl hS0 (R_str (a := x4319) (b := x4324) (v := (.bool ((!(beqS x4319 x4324))))) rfl rfl rfl) ?_
                  refine PX_done (by kernel_rfl) ?_
                  refine sq_n ?_
                  refine CW_if (b := (!(beqS x4319 x4324))) rfl (fun hb4326 => ?_) (fun hb4326 => ?_)
                  · replace hm4294 := if_t hb4326 hm4294
                    refine CW_seq ?_
                    refine CW_region ?_
                    refine LV (R_move (v := v_a0) e4233) ?_
                    refine LV (R_move (v := (.int .i64 x4115)) e4234) ?_
                    refine LV (R_move (v := v3652) e4235) ?_
                    refine LV (R_move (v := (.int .i64 x4116)) e4236) ?_
                    obtain ⟨x4330, hx4331, hm4294⟩ := bind_some hm4294
                    refine LQ (R_indexTail (i := x4116) (x0 := x4330) Tryz.underlying27 Tryz.sizeOf9 rfl rfl hs4113 hs3653 (idx_nonneg hx4331) (idx_get hx4331)) (fun p4327 hp4328 => ?_)
                    refine LV (R_load (v := (.string x4330)) rfl (load_ix1 hST.has (fun p hq => by simp [hq]) hs4113 (fun _ => rfl) hp4328 (tail_get (idx_get hx4331)) (y := (.string x4330)) rfl Tryz.isAgg9)) ?_
                    obtain ⟨x4335, hx4336, hm4294⟩ := bind_some hm4294
                    refine LQ (R_indexRow (i := x4115) (x0 := x4335) Tryz.underlying27 Tryz.sizeOf9 rfl rfl hs4113 (idx_nonneg hx4336) (idx_get hx4336)) (fun p4332 hp4333 => ?_)
                    refine LW_e0 (.inl rfl) rfl (E_storeRow (u := (.string x4330)) (x1 := x4330) [] hST hs4113 (fun _ => rfl) oneS rfl rfl rfl hp4333 (idx_get hx4336) Tryz.sizeOf9 (fun W4337 R4338 hST hR4339 => ?_))
                    refine LW_nil ?_
                    refine sq_n ?_
                    refine CW_region ?_
                    refine LV (R_move (v := (.int .i64 x4115)) e4234) ?_
                    refine LV (R_int (k := .i64) (a := x4115) (b := 1) (v := (.int .i64 ((IntKind.i64.wrap (x4115 + 1))))) rfl rfl rfl) ?_
                    refine LV (R_assign (v := (.int .i64 ((IntKind.i64.wrap (x4115 + 1))))) rfl) ?_
                    refine LW_nil ?_
                    refine bq_n ?_
                    refine sq_n ?_
                    replace hm4294 := Option.some.inj hm4294; subst hm4294
                    replace hST : ST true (keys (R_a0 ++ [])) w _ _ (R4338 ++ L4230) := hST
                    exact ⟨((l4112.set (Int.toNat x4115) x4330)), R4338, ((IntKind.i64.wrap (x4115 + 1))), _, (hST.sublist (List.Sublist.refl _)), e4233, rfl, e4235, e4236, hR4339, hm4295⟩
                  · replace hm4294 := if_f hb4326 hm4294
                    refine CW_skip ?_
                    refine bq_n ?_
                    refine sq_n ?_
                    replace hm4294 := Option.some.inj hm4294; subst hm4294
                    exact ⟨l4112, R4114, x4115, _, (hST.sublist (List.Sublist.refl _)), e4233, e4234, e4235, e4236, hs4113, hm4295⟩
                · rintro E W ⟨l4283, R4285, x4286, L4287, hST, e4289, e4290, e4291, e4292, hs4284, hm4288⟩
                  refine CW_region ?_
                  refine LV (R_move (v := (.int .i64 x4116)) e4292) ?_
                  refine LV (R_int (k := .i64) (a := x4116) (b := 1) (v := (.int .i64 ((IntKind.i64.wrap (x4116 + 1))))) rfl rfl rfl) ?_
                  refine LV (R_assign (v := (.int .i64 ((IntKind.i64.wrap (x4116 + 1))))) rfl) ?_
                  refine LW_nil ?_
                  refine sq_n ?_
                  exact ⟨n4232, Nat.lt_succ_self _, l4283, R4285, x4286, ((IntKind.i64.wrap (x4116 + 1))), _, (hST.sublist (List.Sublist.refl _)), e4289, e4290, e4291, rfl, hs4284, hm4288⟩
              · replace hm4231 := if_f hb4237 hm4231
                refine CW_exit ?_
                refine sq_e (sq_e (bq_e ?_))
                refine sq_n ?_
                replace hm4231 := Option.some.inj hm4231; subst hm4231
                exact ⟨l4112, R4114, x4115, _, (hST.sublist (List.Sublist.refl _)), e4233, e4234, hs4113, hm4007⟩
          · rintro E W ⟨l3988, R3990, x3991, L3992, hST, e3994, e3995, hs3989, hm3993⟩
            refine CW_seq ?_
            refine CW_region ?_
            refine LV (R_move (v := v_a0) e3994) ?_
            refine LV (R_move (v := (.int .i64 x3991)) e3995) ?_
            obtain ⟨_, hg3998, hm3993⟩ := bind_some hm3993
            refine LQ (R_sliceTail (i := x3991) Tryz.underlying27 Tryz.sizeOf9 rfl rfl hs3989 (chk_1 hg3998) (chk_2 hg3998)) (fun v3996 hs3997 => ?_)
            refine LW_e0 (.inl rfl) rfl (E_clearTail (z := zS) [] hST hs3989 (fun _ => rfl) oneS Tryz.underlying27 Tryz.zeroValue9 hs3997 rfl rfl (fun W3999 R4000 hST hR4001 => ?_))
            refine LW_nil ?_
            refine sq_n ?_
            refine CW_seq ?_
            refine CW_region ?_
            refine LV (R_move (v := v_a0) e3994) ?_
            refine LV (R_move (v := (.int .i64 x3991)) e3995) ?_
            obtain ⟨_, hg4004, hm3993⟩ := bind_some hm3993
            refine LQ (R_sliceTo (i := x3991) Tryz.underlying27 Tryz.sizeOf9 rfl rfl hR4001 (fun _ => rfl) (chk_1 hg4004) (chk_2 hg4004)) (fun v4002 hs4003 => ?_)
            refine LV (R_assign (v := v4002) rfl) ?_
            refine LW_nil ?_
            refine sq_n ?_
            refine CW_ret ?_
            refine bq_r (sq_r (sq_r (bq_r (sq_r ?_))))
            replace hm3993 := Option.some.inj hm3993; subst hm3993
            refine retQ_1 (v := v4002) rfl rfl ?_
            replace hST : ST true (keys (R_a0 ++ [])) w _ _ (R4000 ++ L3992) := hST
            exact ⟨_, (R4000 ++ []), rfl, (ST.backM (L1 := (R4000 ++ [])) (by have hh : ST true (keys (R_a0 ++ [])) w _ _ (R4000 ++ L3992) := hST.perm (List.Perm.refl _); simpa only [List.append_assoc, List.cons_append, List.nil_append] using hh)), v4002, R4000, rfl, rfl, hs4003⟩
        · replace hm3616 := if_f hb3651 hm3616
          refine CW_skip ?_
          refine bq_n ?_
          refine sq_n ?_
          refine CW_region ?_
          refine LV (R_move (v := (.int .i64 x2891)) e3619) ?_
          refine LV (R_int (k := .i64) (a := x2891) (b := 1) (v := (.int .i64 ((IntKind.i64.wrap (x2891 + 1))))) rfl rfl rfl) ?_
          refine LV (R_assign (v := (.int .i64 ((IntKind.i64.wrap (x2891 + 1))))) rfl) ?_
          refine LW_nil ?_
          refine sq_n ?_
          exact ⟨n3617, Nat.lt_succ_self _, ((IntKind.i64.wrap (x2891 + 1))), _, (hST.sublist (List.Sublist.refl _)), e3618, rfl, hm3616⟩
      · replace hm3616 := if_f hb3620 hm3616
        refine CW_exit ?_
        refine sq_e (sq_e (bq_e ?_))
        refine sq_n ?_
        refine CW_seq ?_
        refine CW_region ?_
        refine LV (R_move (v := v_a0) e3618) ?_
        refine LV (R_assign (v := v_a0) rfl) ?_
        refine LW_nil ?_
        refine sq_n ?_
        refine CW_ret ?_
        replace hm3616 := Option.some.inj hm3616; subst hm3616
        refine retQ_1 (v := v_a0) rfl rfl ?_
        replace hST : ST true (keys (R_a0 ++ [])) w _ _ (R_a0 ++ L3615) := hST
        exact ⟨_, (R_a0 ++ []), rfl, (ST.backM (L1 := (R_a0 ++ [])) (by have hh : ST true (keys (R_a0 ++ [])) w _ _ (R_a0 ++ L3615) := hST.perm (List.Perm.refl _); simpa only [List.append_assoc, List.cons_append, List.nil_append] using hh)), v_a0, R_a0, rfl, rfl, h_a0⟩
theorem w_name_Set (v_a0 : Value) (a0 : List ByteArray) (r : List ByteArray) (w : World) (h_a0 : Sl (Pl encSk) 1 (hp w) v_a0 a0) (hm : m_name_Set a0 = some r) :
    GivesRow true Tryz.prog 79 [v_a0] w 9 encSk 1 r := by
  have hST := ST.start (dd := true) w
  unfold m_name_Set at hm
  refine calls_of_CW (n := 23) Tryz.func79 rfl rfl (Nat.le_of_ble_eq_true rfl) ?_
  refine CW_seq ?_
  refine CW_region ?_
  refine LV (R_assign (v := (.slice none 0 0)) rfl) ?_
  refine LW_nil ?_
  refine sq_n ?_
  refine CW_seq ?_
  refine CW_region ?_
  refine LV (R_assign (v := (.slice none 0 0)) rfl) ?_
  refine LW_nil ?_
  refine sq_n ?_
  refine CW_seq ?_
  refine CW_seq ?_
  refine CW_region ?_
  refine LV (R_move (v := v_a0) rfl) ?_
  refine LV (R_len Tryz.underlying27 rfl h_a0) ?_
  refine LV (R_move (v := (.int .i64 0)) rfl) ?_
  refine LW_nil ?_
  refine sq_n ?_
  refine CW_range (fun i E W => ∃ (v89 : Value) (l90 : List ByteArray) (R92 : List (Nat × Obj)) (L114 : List (Nat × Obj)), (E 8 = .int .i64 (i : Nat) ∧ E 7 = .int .i64 (a0.length : Nat)) ∧ ST true NoF w W (hp w) (R92 ++ L114) ∧ E 3 = v89 ∧ E 6 = v_a0 ∧ Row 9 encSk 1 v89 l90 R92 ∧ m_name_Set_L1 (a0.drop i) l90 = some r) a0.length h_a0.len ⟨(.slice none 0 0), ([]), [], _, ⟨rfl, rfl⟩, (hST.sublist (List.Sublist.refl _)), rfl, rfl, (Row.nil _ _ _), hm⟩ (by decide) (by decide) (by decide) (fun _ _ _ h => by obtain ⟨_, _, _, _, eIN, _⟩ := h; exact eIN) ?_ ?_
  · rintro i67 E W hi73 ⟨v89, l90, R92, L114, ⟨eI, eN⟩, hST, e116, e117, hs91, hm115⟩
    obtain ⟨x68, xs69, hx71, hx70, hx72⟩ := drop_cons hi73
    rw [hx71] at hm115
    rw [m_name_Set_L1] at hm115
    refine CW_block ?_
    refine CW_seq ?_
    refine CW_region ?_
    refine LQ (R_indexP (enc := encSk) (i := (i67 : Int)) (x0 := x68) Tryz.underlying27 Tryz.sizeOf9 e117 eI h_a0 (Int.natCast_nonneg _) hx70) (fun p118 hp119 => ?_)
    refine LV (R_load rfl (load_at1 hST.has (y := (.string x68)) hp119 Tryz.isAgg9)) ?_
    refine LV (R_assign (v := (.string x68)) rfl) ?_
    refine LW_nil ?_
    refine sq_n ?_
    refine CW_seq ?_
    refine CW_region ?_
    refine LV (R_move (v := (.string x68)) rfl) ?_
    obtain ⟨r121, hr122, hm115⟩ := bind_some hm115
    refine LE (E_gives (args := [(.string x68)]) hST rfl Tryz.call134 (by exact args1 rfl) ((w_name_Right x68 _ _  hr122)) (fun W123 hST => ?_))
    refine LW_nil ?_
    refine sq_n ?_
    refine CW_if (b := r121) rfl (fun hb124 => ?_) (fun hb124 => ?_)
    · replace hm115 := if_t hb124 hm115
      refine CW_region ?_
      refine LV (R_move (v := v89) e116) ?_
      refine LV (R_move (v := (.string x68)) rfl) ?_
      refine LE (E_buildSlice (qs := #[(0, (.string x68))]) (cs := [(.string x68)].toArray) hST (parts1 rfl) (run_lit [(.string x68)] Tryz.underlying27 Tryz.sizeOf9 Tryz.zeroValue9 (by decide) rfl (by intro v hv; simp only [List.mem_cons, List.not_mem_nil, or_false] at hv; rcases hv with rfl <;> rfl) rfl rfl) (fun W126 b125 hST => ?_))
      obtain ⟨l127, hb128, hm115⟩ := bind_some hm115
      refine LE (E_append (enc := encSk) (v := v89) (vs := (.slice (some ⟨b125, 0, none⟩) 1 1)) (R := R92) [_] hST (fun _ => rfl) (by decide) oneS Tryz.underlying27 info9.1 info9.2.1 rfl info9.2.2.1 info9.2.2.2 rfl rfl hs91 (Sl.lit (enc := encSk) (l := [x68]) (fun _ => rfl) rfl (Nat.le_of_ble_eq_true rfl) rfl (hST.at_ (.head _))) hb128 (fun W129 v132 R130 hST hR131 => ?_))
      refine LV (R_assign (v := v132) rfl) ?_
      refine LW_nil ?_
      refine bq_n ?_
      refine sq_n ?_
      replace hST : ST true NoF w _ _ ((b125, Obj.cells ([(.string x68)].toArray : Array Value) 9 (0, 0)) :: (R130 ++ L114)) := hST
      replace hST : ST true NoF w _ _ (R130 ++ L114) := hST.sublist (List.Sublist.cons _ (List.Sublist.refl _))
      exact ⟨eI, v132, l127, R130, _, ⟨rfl, eN⟩, (hST.sublist (List.Sublist.refl _)), rfl, e117, hR131, (by rw [hx72]; exact hm115)⟩
    · replace hm115 := if_f hb124 hm115
      refine CW_skip ?_
      refine bq_n ?_
      refine sq_n ?_
      exact ⟨eI, v89, l90, R92, _, ⟨rfl, eN⟩, (hST.sublist (List.Sublist.refl _)), e116, e117, hs91, (by rw [hx72]; exact hm115)⟩
  · rintro E W ⟨v89, l90, R92, L114, ⟨eI, eN⟩, hST, e116, e117, hs91, hm115⟩
    rw [List.drop_length] at hm115
    rw [m_name_Set_L1] at hm115
    refine sq_n ?_
    refine CW_seq ?_
    refine CW_region ?_
    refine LV (R_move (v := v89) e116) ?_
    obtain ⟨r133, hr134, hm115⟩ := bind_some hm115
    replace hST : ST true NoF w _ _ (R92 ++ L114) := hST.perm (List.Perm.refl _)
    have hsz := hST.size
    refine LE (E_callM (args := [v89]) (caps := #[]) ((R92 ++ [])) L114 hST (by simp only [List.append_assoc, List.cons_append, List.nil_append]; exact List.Perm.refl _) rfl Tryz.call135 (by exact args1 rfl) (fun hH hN hsb hmm => (w_sortS135 v89 l90 R92 _ _ hH hN (Sub.refl _) hs91 hr134)) (fun W135 v138 μ136 L140 hST hle137 hlift hK139 => ?_))
    obtain ⟨S141, hv143, rfl, hy142⟩ := hK139
    replace hv143 := hv143.symm; subst hv143
    simp only [List.append_assoc, List.cons_append, List.nil_append] at hST
    refine LW_nil ?_
    refine sq_n ?_
    refine CW_seq ?_
    refine CW_region ?_
    refine LV (R_move (v := v89) e116) ?_
    replace hST : ST true NoF w _ _ (S141 ++ L114) := hST
    obtain ⟨r144, hr145, hm115⟩ := bind_some hm115
    replace hST : ST true NoF w _ _ (S141 ++ L114) := hST.perm (List.Perm.refl _)
    have hsz := hST.size
    refine LE (E_callM (args := [v89]) (caps := #[]) ((S141 ++ [])) L114 hST (by simp only [List.append_assoc, List.cons_append, List.nil_append]; exact List.Perm.refl _) rfl Tryz.call136 (by exact args1 rfl) (fun hH hN hsb hmm => (w_slices_Compact_string v89 r133 S141 _ _ hH hN (Sub.refl _) hy142 hr145)) (fun W146 v149 μ147 L151 hST hle148 hlift hK150 => ?_))
    obtain ⟨y152, S153, hv155, rfl, hy154⟩ := hK150
    replace hv155 := hv155.symm; subst hv155
    simp only [List.append_assoc, List.cons_append, List.nil_append] at hST
    refine LV (R_assign (v := y152) rfl) ?_
    refine LW_nil ?_
    refine sq_n ?_
    refine CW_ret ?_
    replace hm115 := Option.some.inj hm115; subst hm115
    refine retQ_1 (v := y152) rfl rfl ?_
    exact ⟨_, S153, rfl, hST.backRow (fun p hq => by simp [hq]) hy154.nd, hy154⟩
theorem w_chain_names (v_a0 : Value) (a0 : List Cred) (r : List ByteArray) (w : World) (h_a0 : Sl (Pl encCred) 9 (hp w) v_a0 a0) (hm : m_chain_names a0 = some r) :
    GivesRow true Tryz.prog 153 [v_a0] w 9 encSk 1 r := by
  have hST := ST.start (dd := true) w
  unfold m_chain_names at hm
  refine calls_of_CW (n := 29) Tryz.func153 rfl rfl (Nat.le_of_ble_eq_true rfl) ?_
  refine CW_seq ?_
  refine CW_region ?_
  refine LV (R_assign (v := (.slice none 0 0)) rfl) ?_
  refine LW_nil ?_
  refine sq_n ?_
  refine CW_seq ?_
  refine CW_region ?_
  refine LV (R_assign (v := (.slice none 0 0)) rfl) ?_
  refine LW_nil ?_
  refine sq_n ?_
  refine CW_seq ?_
  refine CW_seq ?_
  refine CW_region ?_
  refine LV (R_move (v := v_a0) rfl) ?_
  refine LV (R_len Tryz.underlying22 rfl h_a0) ?_
  refine LV (R_move (v := (.int .i64 0)) rfl) ?_
  refine LW_nil ?_
  refine sq_n ?_
  refine CW_range (fun i E W => ∃ (v85 : Value) (l86 : List ByteArray) (R88 : List (Nat × Obj)) (L109 : List (Nat × Obj)), (E 8 = .int .i64 (i : Nat) ∧ E 7 = .int .i64 (a0.length : Nat)) ∧ ST true NoF w W (hp w) (R88 ++ L109) ∧ E 3 = v85 ∧ E 6 = v_a0 ∧ Row 9 encSk 1 v85 l86 R88 ∧ m_chain_names_L1 (a0.drop i) l86 = some r) a0.length h_a0.len ⟨(.slice none 0 0), ([]), [], _, ⟨rfl, rfl⟩, (hST.sublist (List.Sublist.refl _)), rfl, rfl, (Row.nil _ _ _), hm⟩ (by decide) (by decide) (by decide) (fun _ _ _ h => by obtain ⟨_, _, _, _, eIN, _⟩ := h; exact eIN) ?_ ?_
  · rintro i64 E W hi70 ⟨v85, l86, R88, L109, ⟨eI, eN⟩, hST, e111, e112, hs87, hm110⟩
    obtain ⟨x65, xs66, hx68, hx67, hx69⟩ := drop_cons hi70
    rw [hx68] at hm110
    rw [m_chain_names_L1] at hm110
    refine CW_block ?_
    refine CW_seq ?_
    refine CW_region ?_
    refine LQ (R_indexP (enc := encCred) (i := (i64 : Int)) (x0 := x65) Tryz.underlying22 Tryz.sizeOf83 e112 eI h_a0 (Int.natCast_nonneg _) hx67) (fun p113 hp114 => ?_)
    refine LV (R_load rfl (load_atA hST.has hp114 Tryz.isAgg83 Tryz.sizeOf83)) ?_
    refine LE (E_alloc hST Tryz.zeroValue83 (fun W117 b116 hST => ?_))
    refine LW_e0 (.inl rfl) rfl (E_store [] (.agg (encCred x65).toArray) ((encCred x65).toArray) hST rfl rfl Tryz.sizeOf83 (oneCred x65) (Nat.le_of_ble_eq_true rfl) rfl (fun W118 hST => ?_))
    refine LW_nil ?_
    refine sq_n ?_
    refine CW_region ?_
    refine LV (R_move (v := v85) e111) ?_
    refine LV (R_field fa83_2 rfl) ?_
    refine LV (R_load (v := (.string x65.Who)) rfl (load_box1 hST.has (.head _) rfl Tryz.isAgg9)) ?_
    refine LV (R_field fa83_1 rfl) ?_
    refine LV (R_field fa47_0 rfl) ?_
    refine LV (R_load (v := (.string x65.Head.Owner)) rfl (load_box1 hST.has (.head _) rfl Tryz.isAgg9)) ?_
    refine LV (R_field fa83_3 rfl) ?_
    refine LV (R_field fa47_0 rfl) ?_
    refine LV (R_load (v := (.string x65.B.Owner)) rfl (load_box1 hST.has (.head _) rfl Tryz.isAgg9)) ?_
    refine LV (R_field fa83_4 rfl) ?_
    refine LV (R_field fa47_0 rfl) ?_
    refine LV (R_load (v := (.string x65.C.Owner)) rfl (load_box1 hST.has (.head _) rfl Tryz.isAgg9)) ?_
    refine LE (E_buildSlice (qs := #[(0, (.string x65.Who)), (1, (.string x65.Head.Owner)), (2, (.string x65.B.Owner)), (3, (.string x65.C.Owner))]) (cs := #[(.string x65.Who), (.string x65.Head.Owner), (.string x65.B.Owner), (.string x65.C.Owner)]) hST (parts4 rfl rfl rfl rfl) (run_lit [(.string x65.Who), (.string x65.Head.Owner), (.string x65.B.Owner), (.string x65.C.Owner)] Tryz.underlying27 Tryz.sizeOf9 Tryz.zeroValue9 (by decide) rfl (by intro v hv; simp only [List.mem_cons, List.not_mem_nil, or_false] at hv; rcases hv with rfl | rfl | rfl | rfl <;> rfl) rfl rfl) (fun W120 b119 hST => ?_))
    replace hST : ST true NoF w _ _ ((b119, Obj.cells (#[(.string x65.Who), (.string x65.Head.Owner), (.string x65.B.Owner), (.string x65.C.Owner)] : Array Value) 9 (0, 0)) :: ((b116, Obj.cells ((encCred x65).toArray : Array Value) 83 (0, 0)) :: (R88 ++ L109))) := hST
    obtain ⟨l121, hb122, hm110⟩ := bind_some hm110
    refine LE (E_append (enc := encSk) (v := v85) (vs := (.slice (some ⟨b119, 0, none⟩) 4 4)) (R := R88) [_, _] hST (fun _ => rfl) (by decide) oneS Tryz.underlying27 info9.1 info9.2.1 rfl info9.2.2.1 info9.2.2.2 rfl rfl hs87 (Sl.lit (enc := encSk) (l := [x65.Who, x65.Head.Owner, x65.B.Owner, x65.C.Owner]) (fun _ => rfl) rfl (Nat.le_of_ble_eq_true rfl) rfl (hST.at_ (.head _))) hb122 (fun W123 v126 R124 hST hR125 => ?_))
    refine LV (R_assign (v := v126) rfl) ?_
    refine LW_nil ?_
    refine bq_n ?_
    refine sq_n ?_
    replace hST : ST true NoF w _ _ ((b119, Obj.cells (#[(.string x65.Who), (.string x65.Head.Owner), (.string x65.B.Owner), (.string x65.C.Owner)] : Array Value) 9 (0, 0)) :: ((b116, Obj.cells ((encCred x65).toArray : Array Value) 83 (0, 0)) :: (R124 ++ L109))) := hST
    replace hST : ST true NoF w _ _ (R124 ++ L109) := hST.sublist (List.Sublist.cons _ (List.Sublist.cons _ (List.Sublist.refl _)))
    exact ⟨eI, v126, l121, R124, _, ⟨rfl, eN⟩, (hST.sublist (List.Sublist.refl _)), rfl, e112, hR125, (by rw [hx69]; exact hm110)⟩
  · rintro E W ⟨v85, l86, R88, L109, ⟨eI, eN⟩, hST, e111, e112, hs87, hm110⟩
    rw [List.drop_length] at hm110
    rw [m_chain_names_L1] at hm110
    refine sq_n ?_
    refine CW_seq ?_
    refine CW_region ?_
    refine LV (R_move (v := v85) e111) ?_
    obtain ⟨r127, hr128, hm110⟩ := bind_some hm110
    refine LE (E_givesRow (args := [v85]) [] _ hST rfl Tryz.call79 (by exact args1 rfl) ((w_name_Set v85 l86 _ _ (hs87.sl (fun _ => rfl) (fun b o hq => hST.at_ (List.mem_append_left _ hq))) hr128)) (fun W129 v132 μ130 R133 hST hle131 hR134 => ?_))
    refine LV (R_assign (v := v132) rfl) ?_
    refine LW_nil ?_
    refine sq_n ?_
    replace hST : ST true NoF w _ _ (R133 ++ (R88 ++ L109)) := hST
    replace hST : ST true NoF w _ _ (R133 ++ L109) := hST.sublist (List.Sublist.append (List.Sublist.refl _) ((List.Sublist.refl _).trans (List.sublist_append_right _ _)))
    refine CW_ret ?_
    replace hm110 := Option.some.inj hm110; subst hm110
    refine retQ_1 (v := v132) rfl rfl ?_
    exact ⟨_, R133, rfl, hST.backRow (fun p hq => by simp [hq]) hR134.nd, hR134⟩
theorem w_slices_IndexFunc_string (v_a0 : Value) (a0 : List ByteArray) (v_a1 : Value) (f1 : ByteArray → Option Bool) (r : Int) (w : World) (h_a0 : Sl (Pl encSk) 1 (hp w) v_a0 a0) (h_a1 : CbOk Tryz.prog v_a1 (hp w) (fun (x : ByteArray) => [(.string x)]) (fun (r : Bool) => (.bool r)) f1) (hm : m_slices_IndexFunc_string a0 f1 = some r) :
    Gives true Tryz.prog 225 [v_a0, v_a1] w (.int .i64 r) := by
  have hST := ST.start (dd := true) w
  unfold m_slices_IndexFunc_string at hm
  refine calls_of_CW (n := 19) Tryz.func225 rfl rfl (Nat.le_of_ble_eq_true rfl) ?_
  refine CW_seq ?_
  refine CW_region ?_
  refine LV (R_assign (v := (.int .i64 0)) rfl) ?_
  refine LW_nil ?_
  refine sq_n ?_
  refine CW_seq ?_
  refine CW_seq ?_
  refine CW_region ?_
  refine LV (R_move (v := v_a0) rfl) ?_
  refine LV (R_len Tryz.underlying27 rfl h_a0) ?_
  refine LV (R_move (v := (.int .i64 0)) rfl) ?_
  refine LW_nil ?_
  refine sq_n ?_
  refine CW_range (fun i E W => ∃  (L58 : List (Nat × Obj)), (E 8 = .int .i64 (i : Nat) ∧ E 7 = .int .i64 (a0.length : Nat)) ∧ ST true NoF w W (hp w) L58 ∧ E 0 = v_a0 ∧ E 1 = v_a1 ∧ m_slices_IndexFunc_string_L1 f1 (a0.drop i) i = some r) a0.length h_a0.len ⟨_, ⟨rfl, rfl⟩, (hST.sublist (List.Sublist.refl _)), rfl, rfl, hm⟩ (by decide) (by decide) (by decide) (fun _ _ _ h => by obtain ⟨_, eIN, _⟩ := h; exact eIN) ?_ ?_
  · rintro i35 E W hi41 ⟨L58, ⟨eI, eN⟩, hST, e60, e61, hm59⟩
    obtain ⟨x36, xs37, hx39, hx38, hx40⟩ := drop_cons hi41
    rw [hx39] at hm59
    rw [m_slices_IndexFunc_string_L1] at hm59
    refine CW_block ?_
    refine CW_seq ?_
    refine CW_region ?_
    refine LV (R_move (v := (.int .i64 ((i35 : Int)))) eI) ?_
    refine LV (R_assign (v := (.int .i64 ((i35 : Int)))) rfl) ?_
    refine LW_nil ?_
    refine sq_n ?_
    refine CW_seq ?_
    refine CW_region ?_
    refine LV (R_move (v := v_a1) e61) ?_
    refine LV (R_move (v := v_a0) e60) ?_
    refine LV (R_move (v := (.int .i64 ((i35 : Int)))) rfl) ?_
    refine LQ (R_indexP (enc := encSk) (i := (i35 : Int)) (x0 := x36) Tryz.underlying27 Tryz.sizeOf9 rfl rfl h_a0 (Int.natCast_nonneg _) hx38) (fun p62 hp63 => ?_)
    refine LV (R_load rfl (load_at1 hST.has (y := (.string x36)) hp63 Tryz.isAgg9)) ?_
    obtain ⟨r65, hr66, hm59⟩ := bind_some hm59
    refine LE (E_cb x36 hST h_a1 (Sub.refl _) rfl (args1 rfl) hr66 (fun W67 hST => ?_))
    refine LW_nil ?_
    refine sq_n ?_
    refine CW_if (b := r65) rfl (fun hb68 => ?_) (fun hb68 => ?_)
    · replace hm59 := if_t hb68 hm59
      refine CW_seq ?_
      refine CW_region ?_
      refine LV (R_move (v := (.int .i64 ((i35 : Int)))) rfl) ?_
      refine LV (R_assign (v := (.int .i64 ((i35 : Int)))) rfl) ?_
      refine LW_nil ?_
      refine sq_n ?_
      refine CW_ret ?_
      refine bq_r (sq_r (bq_r (sq_r ?_)))
      replace hm59 := Option.some.inj hm59; subst hm59
      refine retQ_1 (v := (.int .i64 ((i35 : Int)))) rfl rfl ?_
      exact ⟨rfl, hST.ex⟩
    · replace hm59 := if_f hb68 hm59
      refine CW_skip ?_
      refine bq_n ?_
      refine sq_n ?_
      exact ⟨eI, _, ⟨rfl, eN⟩, (hST.sublist (List.Sublist.refl _)), e60, e61, (by rw [hx40]; exact hm59)⟩
  · rintro E W ⟨L58, ⟨eI, eN⟩, hST, e60, e61, hm59⟩
    rw [List.drop_length] at hm59
    rw [m_slices_IndexFunc_string_L1] at hm59
    refine sq_n ?_
    refine CW_seq ?_
    refine CW_region ?_
    refine LV (R_assign (v := (.int .i64 ((-1)))) rfl) ?_
    refine LW_nil ?_
    refine sq_n ?_
    refine CW_ret ?_
    replace hm59 := Option.some.inj hm59; subst hm59
    refine retQ_1 (v := (.int .i64 ((-1)))) rfl rfl ?_
    exact ⟨rfl, hST.ex⟩
theorem w_slices_ContainsFunc_string (v_a0 : Value) (a0 : List ByteArray) (v_a1 : Value) (f1 : ByteArray → Option Bool) (r : Bool) (w : World) (h_a0 : Sl (Pl encSk) 1 (hp w) v_a0 a0) (h_a1 : CbOk Tryz.prog v_a1 (hp w) (fun (x : ByteArray) => [(.string x)]) (fun (r : Bool) => (.bool r)) f1) (hm : m_slices_ContainsFunc_string a0 f1 = some r) :
    Gives true Tryz.prog 172 [v_a0, v_a1] w (.bool r) := by
  have hST := ST.start (dd := true) w
  unfold m_slices_ContainsFunc_string at hm
  refine calls_of_CW (n := 9) Tryz.func172 rfl rfl (Nat.le_of_ble_eq_true rfl) ?_
  refine CW_seq ?_
  refine CW_region ?_
  refine LV (R_assign (v := (.bool false)) rfl) ?_
  refine LW_nil ?_
  refine sq_n ?_
  refine CW_seq ?_
  refine CW_region ?_
  refine LV (R_move (v := v_a0) rfl) ?_
  refine LV (R_move (v := v_a1) rfl) ?_
  obtain ⟨r1, hr2, hm⟩ := bind_some hm
  refine LE (E_gives (args := [v_a0, v_a1]) hST rfl Tryz.call225 (by exact args2 rfl rfl) ((w_slices_IndexFunc_string v_a0 a0 v_a1 f1 _ _ (h_a0.mono (Pl.mono _) hST.sub_hp) (h_a1.mono hST.sub_hp) hr2)) (fun W3 hST => ?_))
  refine LV (R_int (k := .i64) (a := r1) (b := 0) (v := (.bool ((decide (r1 ≥ 0))))) rfl rfl rfl) ?_
  refine LV (R_assign (v := (.bool ((decide (r1 ≥ 0))))) rfl) ?_
  refine LW_nil ?_
  refine sq_n ?_
  refine CW_ret ?_
  replace hm := Option.some.inj hm; subst hm
  refine retQ_1 (v := (.bool ((decide (r1 ≥ 0))))) rfl rfl ?_
  exact ⟨rfl, hST.ex⟩
theorem w_model_brings_c1 (a0 : ByteArray) (b_c0 : Nat) (v_c0 : Value) (f_c0 : ((Role × ByteArray)) → Option Bool) (b_c1 : Nat) (c1 : Cred) (b_c2 : Nat) (c2 : ByteArray) (r : Bool) (w : World) (h_c0 : CbOk Tryz.prog v_c0 (hp w) (fun (x : (Role × ByteArray)) => [(.agg (encRole x.1).toArray), (.string x.2)]) (fun (r : Bool) => (.bool r)) f_c0) (hA_c0 : At (hp w) (.pointer (some ⟨b_c0, 0, none⟩)) [v_c0]) (hA_c1 : At (hp w) (.pointer (some ⟨b_c1, 0, none⟩)) (encCred c1)) (hA_c2 : At (hp w) (.pointer (some ⟨b_c2, 0, none⟩)) [(.string c2)]) (hm : m_model_brings_c1 a0 f_c0 c1 c2 = some r) :
    Gives true Tryz.prog 173 [(.string a0), (.pointer (some ⟨b_c0, 0, none⟩)), (.pointer (some ⟨b_c1, 0, none⟩)), (.pointer (some ⟨b_c2, 0, none⟩))] w (.bool r) := by
  have hST := ST.start (dd := true) w
  unfold m_model_brings_c1 at hm
  refine calls_of_CW (n := 20) Tryz.func173 rfl rfl (Nat.le_of_ble_eq_true rfl) ?_
  refine CW_seq ?_
  refine CW_region ?_
  refine LV (R_assign (v := (.bool false)) rfl) ?_
  refine LW_nil ?_
  refine sq_n ?_
  refine CW_seq ?_
  refine CW_region ?_
  refine LV (R_load rfl (load_at1 hST.has (y := v_c0) hA_c0 Tryz.isAgg57)) ?_
  refine LQ (R_fieldAt (encRole c1.B) fa83_3 rfl hA_c1 rfl) (fun p1 hp2 => ?_)
  refine LV (R_load rfl (load_atA hST.has hp2 Tryz.isAgg47 Tryz.sizeOf47)) ?_
  refine LV (R_move (v := (.string a0)) rfl) ?_
  obtain ⟨r4, hr5, hm⟩ := bind_some hm
  refine LE (E_cb ((c1.B, a0)) hST h_c0 (Sub.refl _) rfl (args2 rfl rfl) hr5 (fun W6 hST => ?_))
  refine LV (R_move (v := (.bool r4)) rfl) ?_
  obtain ⟨s19, hm20, hm21⟩ := bind_some hm
  refine LW_join (J := fun E W => ∃ (x14 : Bool) (L15 : List (Nat × Obj)), ST true NoF w W (hp w) L15 ∧ E 5 = (.bool false) ∧ E 19 = (.bool x14) ∧ some x14 = some r) 8 ?_ (fun key22 => ?_)
  · rintro E W ⟨x14, L15, hST, e17, e18, hm16⟩
    refine LV (R_assign (v := (.bool x14)) e18) ?_
    refine LW_nil ?_
    refine sq_n ?_
    refine CW_ret ?_
    replace hm16 := Option.some.inj hm16; subst hm16
    refine retQ_1 (v := (.bool x14)) rfl rfl ?_
    exact ⟨rfl, hST.ex⟩
  · rcases bool_cases r4 with hb7 | hb7
    · replace hm20 := if_t hb7 hm20
      refine LW_v (.inr ⟨5, true, 11, rfl, rfl, by decide, (congrArg Value.bool hb7)⟩) rfl (by decide) (R_load rfl (load_at1 hST.has (y := v_c0) hA_c0 Tryz.isAgg57)) ?_
      refine LW_v (.inr ⟨5, true, 11, rfl, rfl, by decide, (congrArg Value.bool hb7)⟩) rfl (by decide) (R_move (v := (.string a0)) rfl) ?_
      refine LW_q (.inr ⟨5, true, 11, rfl, rfl, by decide, (congrArg Value.bool hb7)⟩) rfl (by decide) (R_fieldAt [(.string c1.Word2)] fa83_5 rfl hA_c1 rfl) (fun p23 hp24 => ?_)
      refine LW_v (.inr ⟨5, true, 11, rfl, rfl, by decide, (congrArg Value.bool hb7)⟩) rfl (by decide) (R_load rfl (load_at1 hST.has (y := (.string c1.Word2)) hp24 Tryz.isAgg9)) ?_
      refine LW_v (.inr ⟨5, true, 11, rfl, rfl, by decide, (congrArg Value.bool hb7)⟩) rfl (by decide) (R_build (qs := #[(0, (.string a0)), (1, (.string c1.Word2))]) (v := (.agg (encRole ((⟨a0, c1.Word2⟩ : Role))).toArray)) (parts2 rfl rfl) (run_build Tryz.zeroValue47 Tryz.underlying47 (pl47 _ Tryz.underlying47) (by kernel_rfl))) ?_
      refine LW_v (.inr ⟨5, true, 11, rfl, rfl, by decide, (congrArg Value.bool hb7)⟩) rfl (by decide) (R_load rfl (load_at1 hST.has (y := (.string c2)) hA_c2 Tryz.isAgg9)) ?_
      obtain ⟨r26, hr27, hm20⟩ := bind_some hm20
      refine LW_e (.inr ⟨5, true, 11, rfl, rfl, by decide, (congrArg Value.bool hb7)⟩) rfl (by decide) (E_cb (((⟨a0, c1.Word2⟩ : Role), c2)) hST h_c0 (Sub.refl _) rfl (args2 rfl rfl) hr27 (fun W28 hST => ?_))
      refine LV (R_pickT (v := (.bool r26)) (congrArg Value.bool hb7) rfl) ?_
      replace hm20 := Option.some.inj hm20; subst hm20
      exact key22 _ _ ⟨r26, _, (hST.sublist (List.Sublist.refl _)), rfl, rfl, hm21⟩
    · replace hm20 := if_f hb7 hm20
      refine LW_no rfl (by decide) rfl rfl (by decide) (congrArg Value.bool hb7) ?_
      refine LW_no rfl (by decide) rfl rfl (by decide) (congrArg Value.bool hb7) ?_
      refine LW_no rfl (by decide) rfl rfl (by decide) (congrArg Value.bool hb7) ?_
      refine LW_no rfl (by decide) rfl rfl (by decide) (congrArg Value.bool hb7) ?_
      refine LW_no rfl (by decide) rfl rfl (by decide) (congrArg Value.bool hb7) ?_
      refine LW_no rfl (by decide) rfl rfl (by decide) (congrArg Value.bool hb7) ?_
      refine LW_no rfl (by decide) rfl rfl (by decide) (congrArg Value.bool hb7) ?_
      refine LV (R_pickF (v := (.bool false)) (congrArg Value.bool hb7) rfl) ?_
      replace hm20 := Option.some.inj hm20; subst hm20
      exact key22 _ _ ⟨false, _, (hST.sublist (List.Sublist.refl _)), rfl, rfl, hm21⟩
theorem w_model_brings (a0 : Cred) (v_a1 : Value) (f1 : ((Role × ByteArray)) → Option Bool) (v_a2 : Value) (a2 : List ByteArray) (a3 : ByteArray) (r : Bool) (w : World) (h_a1 : CbOk Tryz.prog v_a1 (hp w) (fun (x : (Role × ByteArray)) => [(.agg (encRole x.1).toArray), (.string x.2)]) (fun (r : Bool) => (.bool r)) f1) (h_a2 : Sl (Pl encSk) 1 (hp w) v_a2 a2) (hm : m_model_brings a0 f1 a2 a3 = some r) :
    Gives true Tryz.prog 138 [(.agg (encCred a0).toArray), v_a1, v_a2, (.string a3)] w (.bool r) := by
  have hST := ST.start (dd := true) w
  unfold m_model_brings at hm
  refine calls_of_CW (n := 41) Tryz.func138 rfl rfl (Nat.le_of_ble_eq_true rfl) ?_
  refine CW_seq ?_
  refine CW_region ?_
  refine LE (E_box (v := (.agg (encCred a0).toArray)) hST rfl (fun W2 b1 hST => ?_))
  obtain ⟨f3, f4, f5, rfl⟩ := h_a1.form
  refine LE (E_box (v := (.func f3 f4 f5)) hST rfl (fun W7 b6 hST => ?_))
  refine LE (E_box (v := (.string a3)) hST rfl (fun W9 b8 hST => ?_))
  refine LV (R_assign (v := (.bool false)) rfl) ?_
  refine LW_nil ?_
  refine sq_n ?_
  refine CW_seq ?_
  refine CW_seq ?_
  refine CW_region ?_
  refine LV (R_field fa83_0 rfl) ?_
  refine LV (R_load (v := (.int .i64 a0.Kind)) rfl (load_box1 hST.has (.tail _ (.tail _ (.head _))) rfl Tryz.isAgg3)) ?_
  refine LW_nil ?_
  refine sq_n ?_
  refine CW_block ?_
  refine CW_seq ?_
  refine CW_region ?_
  refine LV (R_int (k := .i64) (a := a0.Kind) (b := 1) (v := (.bool ((a0.Kind == 1)))) rfl rfl rfl) ?_
  refine LV (R_assign (v := (.bool ((a0.Kind == 1)))) rfl) ?_
  refine LW_nil ?_
  refine sq_n ?_
  refine CW_if (b := (a0.Kind == 1)) rfl (fun hb10 => ?_) (fun hb10 => ?_)
  · replace hm := if_t hb10 hm
    refine CW_seq ?_
    refine CW_region ?_
    refine LV (R_field fa83_2 rfl) ?_
    refine LV (R_load (v := (.string a0.Who)) rfl (load_box1 hST.has (.tail _ (.tail _ (.head _))) rfl Tryz.isAgg9)) ?_
    refine LV (R_load (v := (.string a3)) rfl (load_box1 hST.has (.head _) rfl Tryz.isAgg9)) ?_
    refine LV (R_str (a := a0.Who) (b := a3) (v := (.bool ((beqS a0.Who a3)))) rfl rfl rfl) ?_
    refine LV (R_assign (v := (.bool ((beqS a0.Who a3)))) rfl) ?_
    refine LW_nil ?_
    refine sq_n ?_
    replace hST : ST true NoF w _ _ [] := hST.sublist (List.Sublist.cons _ (List.Sublist.cons _ (List.Sublist.cons _ (List.Sublist.refl _))))
    refine CW_ret ?_
    refine bq_r (sq_r ?_)
    replace hm := Option.some.inj hm; subst hm
    refine retQ_1 (v := (.bool ((beqS a0.Who a3)))) rfl rfl ?_
    exact ⟨rfl, hST.ex⟩
  · replace hm := if_f hb10 hm
    refine CW_seq ?_
    refine CW_region ?_
    refine LV (R_int (k := .i64) (a := a0.Kind) (b := 2) (v := (.bool ((a0.Kind == 2)))) rfl rfl rfl) ?_
    refine LV (R_assign (v := (.bool ((a0.Kind == 2)))) rfl) ?_
    refine LW_nil ?_
    refine sq_n ?_
    refine CW_if (b := (a0.Kind == 2)) rfl (fun hb11 => ?_) (fun hb11 => ?_)
    · replace hm := if_t hb11 hm
      refine CW_seq ?_
      refine CW_region ?_
      refine LV (R_load (v := (.func f3 f4 f5)) rfl (load_box1 hST.has (.tail _ (.head _)) rfl Tryz.isAgg57)) ?_
      refine LV (R_field fa83_3 rfl) ?_
      refine LV (R_load (v := (.agg (encRole a0.B).toArray)) rfl (load_boxA hST.has (.tail _ (.tail _ (.head _))) (encRole a0.B) rfl Tryz.isAgg47 Tryz.sizeOf47)) ?_
      refine LV (R_load (v := (.string a3)) rfl (load_box1 hST.has (.head _) rfl Tryz.isAgg9)) ?_
      obtain ⟨r12, hr13, hm⟩ := bind_some hm
      refine LE (E_cb ((a0.B, a3)) hST h_a1 (Sub.refl _) rfl (args2 rfl rfl) hr13 (fun W14 hST => ?_))
      refine LV (R_assign (v := (.bool r12)) rfl) ?_
      refine LW_nil ?_
      refine sq_n ?_
      replace hST : ST true NoF w _ _ [] := hST.sublist (List.Sublist.cons _ (List.Sublist.cons _ (List.Sublist.cons _ (List.Sublist.refl _))))
      refine CW_ret ?_
      refine bq_r (sq_r ?_)
      replace hm := Option.some.inj hm; subst hm
      refine retQ_1 (v := (.bool r12)) rfl rfl ?_
      exact ⟨rfl, hST.ex⟩
    · replace hm := if_f hb11 hm
      refine CW_seq ?_
      refine CW_region ?_
      refine LV (R_int (k := .i64) (a := a0.Kind) (b := 4) (v := (.bool ((a0.Kind == 4)))) rfl rfl rfl) ?_
      refine LV (R_assign (v := (.bool ((a0.Kind == 4)))) rfl) ?_
      refine LW_nil ?_
      refine sq_n ?_
      refine CW_if (b := (a0.Kind == 4)) rfl (fun hb15 => ?_) (fun hb15 => ?_)
      · replace hm := if_t hb15 hm
        refine CW_seq ?_
        refine CW_region ?_
        refine LV (R_load (v := (.func f3 f4 f5)) rfl (load_box1 hST.has (.tail _ (.head _)) rfl Tryz.isAgg57)) ?_
        refine LV (R_field fa83_3 rfl) ?_
        refine LV (R_load (v := (.agg (encRole a0.B).toArray)) rfl (load_boxA hST.has (.tail _ (.tail _ (.head _))) (encRole a0.B) rfl Tryz.isAgg47 Tryz.sizeOf47)) ?_
        refine LV (R_load (v := (.string a3)) rfl (load_box1 hST.has (.head _) rfl Tryz.isAgg9)) ?_
        obtain ⟨r16, hr17, hm⟩ := bind_some hm
        refine LE (E_cb ((a0.B, a3)) hST h_a1 (Sub.refl _) rfl (args2 rfl rfl) hr17 (fun W18 hST => ?_))
        refine LV (R_move (v := (.bool r16)) rfl) ?_
        obtain ⟨s28, hm29, hm30⟩ := bind_some hm
        refine LW_join (J := fun E W => ∃ (x23 : Bool) (L24 : List (Nat × Obj)), ST true NoF w W (hp w) L24 ∧ E 8 = (.bool false) ∧ E 37 = (.bool x23) ∧ some x23 = some r) 6 ?_ (fun key31 => ?_)
        · rintro E W ⟨x23, L24, hST, e26, e27, hm25⟩
          refine LV (R_assign (v := (.bool x23)) e27) ?_
          refine LW_nil ?_
          refine sq_n ?_
          refine CW_ret ?_
          refine bq_r (sq_r ?_)
          replace hm25 := Option.some.inj hm25; subst hm25
          refine retQ_1 (v := (.bool x23)) rfl rfl ?_
          exact ⟨rfl, hST.ex⟩
        · rcases bool_cases r16 with hb19 | hb19
          · replace hm29 := if_t hb19 hm29
            refine LW_v (.inr ⟨5, true, 31, rfl, rfl, by decide, (congrArg Value.bool hb19)⟩) rfl (by decide) (R_load (v := (.func f3 f4 f5)) rfl (load_box1 hST.has (.tail _ (.head _)) rfl Tryz.isAgg57)) ?_
            refine LW_v (.inr ⟨5, true, 31, rfl, rfl, by decide, (congrArg Value.bool hb19)⟩) rfl (by decide) (R_field fa83_4 rfl) ?_
            refine LW_v (.inr ⟨5, true, 31, rfl, rfl, by decide, (congrArg Value.bool hb19)⟩) rfl (by decide) (R_load (v := (.agg (encRole a0.C).toArray)) rfl (load_boxA hST.has (.tail _ (.tail _ (.head _))) (encRole a0.C) rfl Tryz.isAgg47 Tryz.sizeOf47)) ?_
            refine LW_v (.inr ⟨5, true, 31, rfl, rfl, by decide, (congrArg Value.bool hb19)⟩) rfl (by decide) (R_load (v := (.string a3)) rfl (load_box1 hST.has (.head _) rfl Tryz.isAgg9)) ?_
            obtain ⟨r32, hr33, hm29⟩ := bind_some hm29
            refine LW_e (.inr ⟨5, true, 31, rfl, rfl, by decide, (congrArg Value.bool hb19)⟩) rfl (by decide) (E_cb ((a0.C, a3)) hST h_a1 (Sub.refl _) rfl (args2 rfl rfl) hr33 (fun W34 hST => ?_))
            refine LV (R_pickT (v := (.bool r32)) (congrArg Value.bool hb19) rfl) ?_
            replace hm29 := Option.some.inj hm29; subst hm29
            exact key31 _ _ ⟨r32, _, (hST.sublist (List.Sublist.cons _ (List.Sublist.cons _ (List.Sublist.cons _ (List.Sublist.refl _))))), rfl, rfl, hm30⟩
          · replace hm29 := if_f hb19 hm29
            refine LW_no rfl (by decide) rfl rfl (by decide) (congrArg Value.bool hb19) ?_
            refine LW_no rfl (by decide) rfl rfl (by decide) (congrArg Value.bool hb19) ?_
            refine LW_no rfl (by decide) rfl rfl (by decide) (congrArg Value.bool hb19) ?_
            refine LW_no rfl (by decide) rfl rfl (by decide) (congrArg Value.bool hb19) ?_
            refine LW_no rfl (by decide) rfl rfl (by decide) (congrArg Value.bool hb19) ?_
            refine LV (R_pickF (v := (.bool false)) (congrArg Value.bool hb19) rfl) ?_
            replace hm29 := Option.some.inj hm29; subst hm29
            exact key31 _ _ ⟨false, _, (hST.sublist (List.Sublist.cons _ (List.Sublist.cons _ (List.Sublist.cons _ (List.Sublist.refl _))))), rfl, rfl, hm30⟩
      · replace hm := if_f hb15 hm
        refine CW_skip ?_
        refine bq_n ?_
        refine sq_n ?_
        refine CW_seq ?_
        refine CW_region ?_
        refine LV (R_move (v := v_a2) rfl) ?_
        refine LV (R_makeFuncC (by exact args3 rfl rfl rfl) rfl) ?_
        obtain ⟨r35, hr36, hm⟩ := bind_some hm
        refine LE (E_gives (args := [v_a2, (.func (.func 173) #[] #[(.pointer (some ⟨b6, 0, none⟩)), (.pointer (some ⟨b1, 0, none⟩)), (.pointer (some ⟨b8, 0, none⟩))])]) hST rfl Tryz.call172 (by exact args2 rfl rfl) ((w_slices_ContainsFunc_string v_a2 a2 (.func (.func 173) #[] #[(.pointer (some ⟨b6, 0, none⟩)), (.pointer (some ⟨b1, 0, none⟩)), (.pointer (some ⟨b8, 0, none⟩))]) (fun (x : ByteArray) => m_model_brings_c1 x f1 a0 a3) _ _ (h_a2.mono (Pl.mono _) hST.sub_hp) ⟨173, #[], #[(.pointer (some ⟨b6, 0, none⟩)), (.pointer (some ⟨b1, 0, none⟩)), (.pointer (some ⟨b8, 0, none⟩))], rfl, Tryz.call173, fun W x r hs hm => w_model_brings_c1 x b6 (.func f3 f4 f5) f1 b1 a0 b8 a3 r W (h_a1.mono (hST.sub_hp.trans hs)) (At.of (hs _ _ (hST.at_ (.tail _ (.head _)))) _ rfl) (At.of (hs _ _ (hST.at_ (.tail _ (.tail _ (.head _))))) _ rfl) (At.of (hs _ _ (hST.at_ (.head _))) _ rfl) hm⟩ hr36)) (fun W37 hST => ?_))
        refine LV (R_assign (v := (.bool r35)) rfl) ?_
        refine LW_nil ?_
        refine sq_n ?_
        replace hST : ST true NoF w _ _ [] := hST.sublist (List.Sublist.cons _ (List.Sublist.cons _ (List.Sublist.cons _ (List.Sublist.refl _))))
        refine CW_ret ?_
        replace hm := Option.some.inj hm; subst hm
        refine retQ_1 (v := (.bool r35)) rfl rfl ?_
        exact ⟨rfl, hST.ex⟩
theorem w_model_Holds (a0 : Cred) (v_a1 : Value) (f1 : ((Role × ByteArray)) → Option Bool) (v_a2 : Value) (a2 : List ByteArray) (r : List Fact) (w : World) (h_a1 : CbOk Tryz.prog v_a1 (hp w) (fun (x : (Role × ByteArray)) => [(.agg (encRole x.1).toArray), (.string x.2)]) (fun (r : Bool) => (.bool r)) f1) (h_a2 : Sl (Pl encSk) 1 (hp w) v_a2 a2) (hm : m_model_Holds a0 f1 a2 = some r) :
    GivesRow true Tryz.prog 87 [(.agg (encCred a0).toArray), v_a1, v_a2] w 78 encFact 3 r := by
  have hST := ST.start (dd := true) w
  unfold m_model_Holds at hm
  refine calls_of_CW (n := 47) Tryz.func87 rfl rfl (Nat.le_of_ble_eq_true rfl) ?_
  refine CW_seq ?_
  refine CW_region ?_
  refine LE (E_box (v := (.agg (encCred a0).toArray)) hST rfl (fun W2 b1 hST => ?_))
  refine LV (R_assign (v := (.slice none 0 0)) rfl) ?_
  refine LW_nil ?_
  refine sq_n ?_
  refine CW_seq ?_
  refine CW_seq ?_
  refine CW_region ?_
  refine LV (R_load (v := (.agg (encCred a0).toArray)) rfl (load_boxA hST.has (.head _) (encCred a0) rfl Tryz.isAgg83 Tryz.sizeOf83)) ?_
  obtain ⟨r3, hr4, hm⟩ := bind_some hm
  refine LE (E_gives (args := [(.agg (encCred a0).toArray)]) hST rfl Tryz.call98 (by exact args1 rfl) ((w_cred_Right a0 _ _  hr4)) (fun W5 hST => ?_))
  refine LV (R_not (b := r3) rfl) ?_
  refine LV (R_move (v := (.bool ((!r3)))) rfl) ?_
  obtain ⟨s207, hm208, hm209⟩ := bind_some hm
  refine LW_join (J := fun E W => ∃ (x7 : Bool) (L8 : List (Nat × Obj)), ST true NoF w W (hp w) ((b1, Obj.cells ((encCred a0).toArray : Array Value) 83 (0, 0)) :: L8) ∧ E 1 = v_a1 ∧ E 2 = v_a2 ∧ E 3 = (.pointer (some ⟨b1, 0, none⟩)) ∧ E 17 = (.bool x7) ∧ (if x7 then some [] else (((m_name_Set a2)).bind fun r15 => (((if (a0.Kind == 1) then some ([a0.Who]) else some r15) : Option (List ByteArray)).bind fun l43 => m_model_Holds_L1 a0 f1 r15 l43 ([])))) = some r) 3 ?_ (fun key210 => ?_)
  · rintro E W ⟨x7, L8, hST, e10, e11, e12, e13, hm9⟩
    refine LW_nil ?_
    refine sq_n ?_
    refine CW_if (b := x7) e13 (fun hb14 => ?_) (fun hb14 => ?_)
    · replace hm9 := if_t hb14 hm9
      refine CW_seq ?_
      refine CW_region ?_
      refine LV (R_assign (v := (.slice none 0 0)) rfl) ?_
      refine LW_nil ?_
      refine sq_n ?_
      replace hST : ST true NoF w _ _ L8 := hST.sublist (List.Sublist.cons _ (List.Sublist.refl _))
      refine CW_ret ?_
      refine sq_r ?_
      replace hm9 := Option.some.inj hm9; subst hm9
      refine retQ_1 (v := (.slice none 0 0)) rfl rfl ?_
      exact ⟨_, [], rfl, hST.backRow (fun p hq => by cases hq) (by simp), Row.nil _ _ _⟩
    · replace hm9 := if_f hb14 hm9
      refine CW_skip ?_
      refine sq_n ?_
      refine CW_seq ?_
      refine CW_region ?_
      refine LV (R_move (v := v_a2) e11) ?_
      obtain ⟨r15, hr16, hm9⟩ := bind_some hm9
      refine LE (E_givesRow (args := [v_a2]) [_] _ hST rfl Tryz.call79 (by exact args1 rfl) ((w_name_Set v_a2 a2 _ _ (h_a2.mono (Pl.mono _) hST.sub_hp) hr16)) (fun W17 v20 μ18 R21 hST hle19 hR22 => ?_))
      refine LV (R_assign (v := v20) rfl) ?_
      refine LW_nil ?_
      refine sq_n ?_
      refine CW_seq ?_
      refine CW_region ?_
      refine LV (R_move (v := v20) rfl) ?_
      refine LV (R_assign (v := v20) rfl) ?_
      refine LW_nil ?_
      refine sq_n ?_
      refine CW_seq ?_
      replace hST : ST true NoF w _ _ ((b1, Obj.cells ((encCred a0).toArray : Array Value) 83 (0, 0)) :: (R21 ++ L8)) := hST
      have hf33 := hR22.frM hST (fun p hq => (.tail _ (List.mem_append_left _ hq)))
      obtain ⟨μ30, hST, hle31, hs32⟩ := ST.pubRow (X := [_]) hST hR22 (fun _ => rfl)
      simp only [List.cons_append, List.nil_append] at hST
      obtain ⟨s197, hm198, hm199⟩ := bind_some hm9
      refine CW_cut (fun E W => ∃ (v42 : Value) (l43 : List ByteArray) (μ41 : Mem) (L46 : List (Nat × Obj)), Sub μ30 μ41 ∧ ST true NoF w W μ41 ((b1, Obj.cells ((encCred a0).toArray : Array Value) 83 (0, 0)) :: L46) ∧ E 1 = v_a1 ∧ E 2 = v20 ∧ E 3 = (.pointer (some ⟨b1, 0, none⟩)) ∧ E 7 = v42 ∧ Sl (Pl encSk) 1 μ41 v42 l43 ∧ Fr w.heap.size v42 ∧ m_model_Holds_L1 a0 f1 r15 l43 ([]) = some r) ?_ ?_
      · refine CW_seq ?_
        refine CW_region ?_
        refine LV (R_field fa83_0 e12) ?_
        refine LV (R_load (v := (.int .i64 a0.Kind)) rfl (load_box1 hST.has (.head _) rfl Tryz.isAgg3)) ?_
        refine LV (R_int (k := .i64) (a := a0.Kind) (b := 1) (v := (.bool ((a0.Kind == 1)))) rfl rfl rfl) ?_
        refine LW_nil ?_
        refine sq_n ?_
        refine CW_if (b := (a0.Kind == 1)) rfl (fun hb200 => ?_) (fun hb200 => ?_)
        · replace hm198 := if_t hb200 hm198
          refine CW_region ?_
          refine LV (R_field fa83_2 e12) ?_
          refine LV (R_load (v := (.string a0.Who)) rfl (load_box1 hST.has (.head _) rfl Tryz.isAgg9)) ?_
          refine LE (E_buildSlice (qs := #[(0, (.string a0.Who))]) (cs := [(.string a0.Who)].toArray) hST (parts1 rfl) (run_lit [(.string a0.Who)] Tryz.underlying27 Tryz.sizeOf9 Tryz.zeroValue9 (by decide) rfl (by intro v hv; simp only [List.mem_cons, List.not_mem_nil, or_false] at hv; rcases hv with rfl <;> rfl) rfl rfl) (fun W202 b201 hST => ?_))
          refine LV (R_assign (v := (.slice (some ⟨b201, 0, none⟩) 1 1)) rfl) ?_
          refine LW_nil ?_
          refine sq_n ?_
          replace hm198 := Option.some.inj hm198; subst hm198
          replace hST : ST true NoF w _ _ ((b201, Obj.cells ([(.string a0.Who)].toArray : Array Value) 9 (0, 0)) :: ((b1, Obj.cells ((encCred a0).toArray : Array Value) 83 (0, 0)) :: L8)) := hST
          replace hST : ST true NoF w _ _ ((b201, Obj.cells ([(.string a0.Who)].toArray : Array Value) 9 (0, 0)) :: ((b1, Obj.cells ((encCred a0).toArray : Array Value) 83 (0, 0)) :: L8)) := hST
          have hf206 : Fr w.heap.size (.slice (some ⟨b201, 0, none⟩) 1 1) := Fr.box hST (.head _)
          obtain ⟨μ203, hST, hle204, hs205⟩ := ST.pubRow (X := []) (R := [(b201, Obj.cells ([(.string a0.Who)].toArray : Array Value) 9 (0, 0))]) (by simpa using hST) (Row.lit (l := [a0.Who]) (enc := encSk) (b := b201) (m := 1) rfl (by decide) rfl rfl) (fun _ => rfl)
          simp only [List.cons_append, List.nil_append] at hST
          exact ⟨(.slice (some ⟨b201, 0, none⟩) 1 1), ([a0.Who]), μ203, _, hle204, (hST.sublist (List.Sublist.refl _)), e10, rfl, e12, rfl, hs205, hf206, hm199⟩
        · replace hm198 := if_f hb200 hm198
          refine CW_skip ?_
          refine sq_n ?_
          replace hm198 := Option.some.inj hm198; subst hm198
          replace hST : ST true NoF w _ _ ((b1, Obj.cells ((encCred a0).toArray : Array Value) 83 (0, 0)) :: L8) := hST
          exact ⟨v20, r15, μ30, _, (Sub.refl _), (hST.sublist (List.Sublist.refl _)), e10, rfl, e12, rfl, hs32, hf33, hm199⟩
      · rintro E W ⟨v42, l43, μ41, L46, hle48, hST, e49, e50, e51, e52, hs44, hf45, hm47⟩
        refine CW_seq ?_
        refine CW_region ?_
        refine LV (R_assign (v := (.slice none 0 0)) rfl) ?_
        refine LW_nil ?_
        refine sq_n ?_
        refine CW_seq ?_
        refine CW_seq ?_
        refine CW_region ?_
        refine LV (R_move (v := v42) e52) ?_
        refine LV (R_len Tryz.underlying27 rfl hs44) ?_
        refine LV (R_move (v := (.int .i64 0)) rfl) ?_
        refine LW_nil ?_
        refine sq_n ?_
        refine CW_range (fun i E W => ∃ (v147 : Value) (l148 : List Fact) (R150 : List (Nat × Obj)) (L175 : List (Nat × Obj)), (E 29 = .int .i64 (i : Nat) ∧ E 28 = .int .i64 (l43.length : Nat)) ∧ ST true NoF w W μ41 ((b1, Obj.cells ((encCred a0).toArray : Array Value) 83 (0, 0)) :: (R150 ++ L175)) ∧ E 1 = v_a1 ∧ E 2 = v20 ∧ E 3 = (.pointer (some ⟨b1, 0, none⟩)) ∧ E 8 = v147 ∧ E 27 = v42 ∧ Row 78 encFact 3 v147 l148 R150 ∧ m_model_Holds_L1 a0 f1 r15 (l43.drop i) l148 = some r) l43.length hs44.len ⟨(.slice none 0 0), ([]), [], _, ⟨rfl, rfl⟩, (hST.sublist (List.Sublist.refl _)), e49, e50, e51, rfl, rfl, (Row.nil _ _ _), hm47⟩ (by decide) (by decide) (by decide) (fun _ _ _ h => by obtain ⟨_, _, _, _, eIN, _⟩ := h; exact eIN) ?_ ?_
        · rintro i125 E W hi131 ⟨v147, l148, R150, L175, ⟨eI, eN⟩, hST, e177, e178, e179, e180, e181, hs149, hm176⟩
          obtain ⟨x126, xs127, hx129, hx128, hx130⟩ := drop_cons hi131
          rw [hx129] at hm176
          rw [m_model_Holds_L1] at hm176
          refine CW_block ?_
          refine CW_seq ?_
          refine CW_region ?_
          refine LQ (R_indexP (enc := encSk) (i := (i125 : Int)) (x0 := x126) Tryz.underlying27 Tryz.sizeOf9 e181 eI hs44 (Int.natCast_nonneg _) hx128) (fun p182 hp183 => ?_)
          refine LV (R_load rfl (load_at1 hST.has (y := (.string x126)) hp183 Tryz.isAgg9)) ?_
          refine LV (R_assign (v := (.string x126)) rfl) ?_
          refine LW_nil ?_
          refine sq_n ?_
          refine CW_seq ?_
          refine CW_region ?_
          refine LV (R_load (v := (.agg (encCred a0).toArray)) e179 (load_boxA hST.has (.head _) (encCred a0) rfl Tryz.isAgg83 Tryz.sizeOf83)) ?_
          refine LV (R_move (v := v_a1) e177) ?_
          refine LV (R_move (v := v20) e178) ?_
          refine LV (R_move (v := (.string x126)) rfl) ?_
          obtain ⟨r185, hr186, hm176⟩ := bind_some hm176
          refine LE (E_gives (args := [(.agg (encCred a0).toArray), v_a1, v20, (.string x126)]) hST rfl Tryz.call138 (by exact args4 rfl rfl rfl rfl) ((w_model_brings a0 v_a1 f1 v20 r15 x126 _ _ (h_a1.mono (((hle19.trans hle31).trans hle48).trans hST.sub_hp)) (hs32.mono (Pl.mono _) (hle48.trans hST.sub_hp)) hr186)) (fun W187 hST => ?_))
          refine LW_nil ?_
          refine sq_n ?_
          refine CW_if (b := r185) rfl (fun hb188 => ?_) (fun hb188 => ?_)
          · replace hm176 := if_t hb188 hm176
            refine CW_region ?_
            refine LV (R_move (v := v147) e180) ?_
            refine LV (R_field fa83_1 e179) ?_
            refine LV (R_load (v := (.agg (encRole a0.Head).toArray)) rfl (load_boxA hST.has (.head _) (encRole a0.Head) rfl Tryz.isAgg47 Tryz.sizeOf47)) ?_
            refine LV (R_move (v := (.string x126)) rfl) ?_
            refine LV (R_build (qs := #[(0, (.agg (encRole a0.Head).toArray)), (1, (.string x126))]) (v := (.agg (encFact ((⟨a0.Head, x126⟩ : Fact))).toArray)) (parts2 rfl rfl) (run_build Tryz.zeroValue78 Tryz.underlying78 (pl78 _ Tryz.underlying78) (by kernel_rfl))) ?_
            refine LE (E_buildSlice (qs := #[(0, (.agg (encFact ((⟨a0.Head, x126⟩ : Fact))).toArray))]) (cs := (encFact ((⟨a0.Head, x126⟩ : Fact))).toArray) hST (parts1 rfl) (run_lit [(.agg (encFact ((⟨a0.Head, x126⟩ : Fact))).toArray)] Tryz.underlying53 Tryz.sizeOf78 Tryz.zeroValue78 (by decide) rfl (by intro v hv; simp only [List.mem_cons, List.not_mem_nil, or_false] at hv; rcases hv with rfl <;> rfl) rfl rfl) (fun W190 b189 hST => ?_))
            obtain ⟨l191, hb192, hm176⟩ := bind_some hm176
            refine LE (E_append (enc := encFact) (v := v147) (vs := (.slice (some ⟨b189, 0, none⟩) 1 1)) (R := R150) [_, _] hST lenFact (by decide) oneFact Tryz.underlying53 info78.1 info78.2.1 rfl info78.2.2.1 info78.2.2.2 rfl rfl hs149 (Sl.lit (enc := encFact) (l := [(⟨a0.Head, x126⟩ : Fact)]) lenFact rfl (Nat.le_of_ble_eq_true rfl) rfl (hST.at_ (.head _))) hb192 (fun W193 v196 R194 hST hR195 => ?_))
            refine LV (R_assign (v := v196) rfl) ?_
            refine LW_nil ?_
            refine bq_n ?_
            refine sq_n ?_
            replace hST : ST true NoF w _ _ ((b189, Obj.cells ((encFact ((⟨a0.Head, x126⟩ : Fact))).toArray : Array Value) 78 (0, 0)) :: ((b1, Obj.cells ((encCred a0).toArray : Array Value) 83 (0, 0)) :: (R194 ++ L175))) := hST
            replace hST : ST true NoF w _ _ ((b1, Obj.cells ((encCred a0).toArray : Array Value) 83 (0, 0)) :: (R194 ++ L175)) := hST.sublist (List.Sublist.cons _ (List.Sublist.refl _))
            exact ⟨eI, v196, l191, R194, _, ⟨rfl, eN⟩, (hST.sublist (List.Sublist.refl _)), e177, e178, e179, rfl, e181, hR195, (by rw [hx130]; exact hm176)⟩
          · replace hm176 := if_f hb188 hm176
            refine CW_skip ?_
            refine bq_n ?_
            refine sq_n ?_
            exact ⟨eI, v147, l148, R150, _, ⟨rfl, eN⟩, (hST.sublist (List.Sublist.refl _)), e177, e178, e179, e180, e181, hs149, (by rw [hx130]; exact hm176)⟩
        · rintro E W ⟨v147, l148, R150, L175, ⟨eI, eN⟩, hST, e177, e178, e179, e180, e181, hs149, hm176⟩
          rw [List.drop_length] at hm176
          rw [m_model_Holds_L1] at hm176
          refine sq_n ?_
          replace hST : ST true NoF w _ _ (R150 ++ L175) := hST.sublist (List.Sublist.cons _ (List.Sublist.refl _))
          refine CW_seq ?_
          refine CW_region ?_
          refine LV (R_move (v := v147) e180) ?_
          refine LV (R_assign (v := v147) rfl) ?_
          refine LW_nil ?_
          refine sq_n ?_
          refine CW_ret ?_
          replace hm176 := Option.some.inj hm176; subst hm176
          refine retQ_1 (v := v147) rfl rfl ?_
          exact ⟨_, R150, rfl, hST.backRow (fun p hq => by simp [hq]) hs149.nd, hs149⟩
  · rcases bool_cases ((!r3)) with hb6 | hb6
    · replace hm208 := if_t hb6 hm208
      refine LW_no rfl (by decide) rfl rfl (by decide) (congrArg Value.bool hb6) ?_
      refine LW_no rfl (by decide) rfl rfl (by decide) (congrArg Value.bool hb6) ?_
      refine LV (R_pickT (v := (.bool true)) (congrArg Value.bool hb6) rfl) ?_
      replace hm208 := Option.some.inj hm208; subst hm208
      exact key210 _ _ ⟨true, _, (hST.sublist (List.Sublist.refl _)), rfl, rfl, rfl, rfl, hm209⟩
    · replace hm208 := if_f hb6 hm208
      refine LW_v (.inr ⟨3, false, 14, rfl, rfl, by decide, (congrArg Value.bool hb6)⟩) rfl (by decide) (R_move (v := v_a1) rfl) ?_
      refine LW_v (.inr ⟨3, false, 14, rfl, rfl, by decide, (congrArg Value.bool hb6)⟩) rfl (by decide) (R_cbEqNil Tryz.underlying57 h_a1 rfl rfl) ?_
      refine LV (R_pickF (v := (.bool false)) (congrArg Value.bool hb6) rfl) ?_
      replace hm208 := Option.some.inj hm208; subst hm208
      exact key210 _ _ ⟨false, _, (hST.sublist (List.Sublist.refl _)), rfl, rfl, rfl, rfl, hm209⟩
theorem w_chain_grown_c1 (a0 : Role) (a1 : ByteArray) (b_c0 : Nat) (v_c0 : Value) (c0 : List (Fact × Bool)) (r : Bool) (w : World) (h_c0 : MapAt (fun (x : Fact) => (.agg (encFact x).toArray)) (fun (x : Bool) => (Value.bool x)) (hp w) v_c0 c0) (hA_c0 : At (hp w) (.pointer (some ⟨b_c0, 0, none⟩)) [v_c0]) (hm : m_chain_grown_c1 a0 a1 c0 = some r) :
    Gives true Tryz.prog 154 [(.agg (encRole a0).toArray), (.string a1), (.pointer (some ⟨b_c0, 0, none⟩))] w (.bool r) := by
  have hST := ST.start (dd := true) w
  unfold m_chain_grown_c1 at hm
  refine calls_of_CW (n := 11) Tryz.func154 rfl rfl (Nat.le_of_ble_eq_true rfl) ?_
  refine CW_seq ?_
  refine CW_region ?_
  refine LE (E_box (v := (.agg (encRole a0).toArray)) hST rfl (fun W2 b1 hST => ?_))
  refine LV (R_assign (v := (.bool false)) rfl) ?_
  refine LW_nil ?_
  refine sq_n ?_
  refine CW_seq ?_
  refine CW_region ?_
  refine LV (R_load rfl (load_at1 hST.has (y := v_c0) hA_c0 Tryz.isAgg155)) ?_
  refine LV (R_load (v := (.agg (encRole a0).toArray)) rfl (load_boxA hST.has (.head _) (encRole a0) rfl Tryz.isAgg47 Tryz.sizeOf47)) ?_
  refine LV (R_move (v := (.string a1)) rfl) ?_
  refine LV (R_build (qs := #[(0, (.agg (encRole a0).toArray)), (1, (.string a1))]) (v := (.agg (encFact ((⟨a0, a1⟩ : Fact))).toArray)) (parts2 rfl rfl) (run_build Tryz.zeroValue78 Tryz.underlying78 (pl78 _ Tryz.underlying78) (by kernel_rfl))) ?_
  refine LV (R_lookupD (k := ((⟨a0, a1⟩ : Fact))) (z := false) (vf := (fun (x : Bool) => (Value.bool x))) kl78 Tryz.underlying155 Tryz.zeroValue4 rfl rfl (h_c0.mono (fun b o hq => hST.has.1 b o hq))) ?_
  refine LV (R_assign (v := (.bool ((mgetD beqFact c0 ((⟨a0, a1⟩ : Fact)) false)))) rfl) ?_
  refine LW_nil ?_
  refine sq_n ?_
  replace hST : ST true NoF w _ _ [] := hST.sublist (List.Sublist.cons _ (List.Sublist.refl _))
  refine CW_ret ?_
  replace hm := Option.some.inj hm; subst hm
  refine retQ_1 (v := (.bool ((mgetD beqFact c0 ((⟨a0, a1⟩ : Fact)) false)))) rfl rfl ?_
  exact ⟨rfl, hST.ex⟩
end Go.Proofs.YtfjdjbdnnoijgaaGreat
