/- a part of a proof of CensusSums -/
import Derived.Test.YtfjdjbdnnoijgaaGreatHCM
import Derived.Test.YtfjdjbdnnoijgaaGreatRtS
import Derived.Test.YtfjdjbdnnoijgaaGreatProg
set_option linter.all false
namespace Go.Proofs.YtfjdjbdnnoijgaaGreat
open Go.RowKit
set_option maxRecDepth 10000
theorem Tryz_mixed : Tryz.prog.follows .mixedOrders = true := by rfl
theorem info5 : Tryz.prog.info? 5 = some Tryz.t5 ∧ Tryz.t5.zero = some (.int .u8 0) ∧ Tryz.t5.size = 1 ∧ Tryz.t5.bytes = 1 := ⟨by kernel_rfl, by kernel_rfl, by kernel_rfl, by kernel_rfl⟩
theorem info9 : Tryz.prog.info? 9 = some Tryz.t9 ∧ Tryz.t9.zero = some (.string ⟨#[]⟩) ∧ Tryz.t9.size = 1 ∧ Tryz.t9.bytes = 16 := ⟨by kernel_rfl, by kernel_rfl, by kernel_rfl, by kernel_rfl⟩
theorem info47 : Tryz.prog.info? 47 = some Tryz.t47 ∧ Tryz.t47.zero = some (.agg #[(.string ⟨#[]⟩), (.string ⟨#[]⟩)]) ∧ Tryz.t47.size = 2 ∧ Tryz.t47.bytes = 32 := ⟨by kernel_rfl, by kernel_rfl, by kernel_rfl, by kernel_rfl⟩
theorem info78 : Tryz.prog.info? 78 = some Tryz.t78 ∧ Tryz.t78.zero = some (.agg #[(.string ⟨#[]⟩), (.string ⟨#[]⟩), (.string ⟨#[]⟩)]) ∧ Tryz.t78.size = 3 ∧ Tryz.t78.bytes = 48 := ⟨by kernel_rfl, by kernel_rfl, by kernel_rfl, by kernel_rfl⟩
theorem info83 : Tryz.prog.info? 83 = some Tryz.t83 ∧ Tryz.t83.zero = some (.agg #[(.int .i64 0), (.string ⟨#[]⟩), (.string ⟨#[]⟩), (.string ⟨#[]⟩), (.string ⟨#[]⟩), (.string ⟨#[]⟩), (.string ⟨#[]⟩), (.string ⟨#[]⟩), (.string ⟨#[]⟩)]) ∧ Tryz.t83.size = 9 ∧ Tryz.t83.bytes = 136 := ⟨by kernel_rfl, by kernel_rfl, by kernel_rfl, by kernel_rfl⟩
theorem info104 : Tryz.prog.info? 104 = some Tryz.t104 ∧ Tryz.t104.zero = some (.agg #[(.string ⟨#[]⟩), (.int .i64 0), (.int .i64 0), (.int .i64 0), (.int .i64 0)]) ∧ Tryz.t104.size = 5 ∧ Tryz.t104.bytes = 48 := ⟨by kernel_rfl, by kernel_rfl, by kernel_rfl, by kernel_rfl⟩
theorem fa47_0 : FieldAt Tryz.prog 47 0 0 := FieldAt_of Tryz.underlying47 rfl Tryz.sizeOf9 (by decide) rfl
theorem fa47_1 : FieldAt Tryz.prog 47 1 1 := FieldAt_of Tryz.underlying47 rfl Tryz.sizeOf9 (by decide) rfl
theorem fields47 : (Tryz.prog.fieldsOf 47).toList = (match Tryz.prog.underlying 47 with | some (.struct fs) => fs.toList | _ => []) := by rw [Tryz.underlying47]; simp [Program.fieldsOf, Tryz.underlying47]
theorem eqInRole (d : Nat) (x y : Role) (W : World) : (Op.equalIn (d + 2) 47 (.agg (encRole x).toArray) (.agg (encRole y).toArray)).run Tryz.prog W = .ok (beqRole x y) W := by
  rw [run_equalIn_struct W (d + 1) 47 _ _ (by kernel_rfl) Tryz.stoodInHeld47, fields47, Tryz.underlying47]
  exact (eqFields_cons (by decide) (part_one Tryz.isAgg9 rfl) (part_one Tryz.isAgg9 rfl) (eqS Tryz.underlying9 _ _ _ _) (eqFields_cons (by decide) (part_one Tryz.isAgg9 rfl) (part_one Tryz.isAgg9 rfl) (eqS Tryz.underlying9 _ _ _ _) (eqFields_nil _ _ _)))
theorem pl47 : ∀ fs, Tryz.prog.underlying 47 = some (.struct fs) → ∀ w, (fs.mapM (fun (f : Field) => do pure (f.offset, ← sizeOf f.type)) : Sem (Array (Nat × Nat))).run Tryz.prog w = .ok #[(0, 1), (1, 1)] w := by
  intro fs h w
  rw [Tryz.underlying47] at h
  cases h
  kernel_rfl
theorem fa83_0 : FieldAt Tryz.prog 83 0 0 := FieldAt_of Tryz.underlying83 rfl Tryz.sizeOf3 (by decide) rfl
theorem fa83_1 : FieldAt Tryz.prog 83 1 1 := FieldAt_of Tryz.underlying83 rfl Tryz.sizeOf47 (by decide) rfl
theorem fa83_2 : FieldAt Tryz.prog 83 2 3 := FieldAt_of Tryz.underlying83 rfl Tryz.sizeOf9 (by decide) rfl
theorem fa83_3 : FieldAt Tryz.prog 83 3 4 := FieldAt_of Tryz.underlying83 rfl Tryz.sizeOf47 (by decide) rfl
theorem fa83_4 : FieldAt Tryz.prog 83 4 6 := FieldAt_of Tryz.underlying83 rfl Tryz.sizeOf47 (by decide) rfl
theorem fa83_5 : FieldAt Tryz.prog 83 5 8 := FieldAt_of Tryz.underlying83 rfl Tryz.sizeOf9 (by decide) rfl
theorem fields83 : (Tryz.prog.fieldsOf 83).toList = (match Tryz.prog.underlying 83 with | some (.struct fs) => fs.toList | _ => []) := by rw [Tryz.underlying83]; simp [Program.fieldsOf, Tryz.underlying83]
theorem eqInCred (d : Nat) (x y : Cred) (W : World) : (Op.equalIn (d + 3) 83 (.agg (encCred x).toArray) (.agg (encCred y).toArray)).run Tryz.prog W = .ok (beqCred x y) W := by
  rw [run_equalIn_struct W (d + 2) 83 _ _ (by kernel_rfl) Tryz.stoodInHeld83, fields83, Tryz.underlying83]
  exact (eqFields_cons (by decide) (part_one Tryz.isAgg3 rfl) (part_one Tryz.isAgg3 rfl) (eqI Tryz.underlying3 _ _ _ _) (eqFields_cons (by decide) (part_agg Tryz.isAgg47 Tryz.sizeOf47 rfl) (part_agg Tryz.isAgg47 Tryz.sizeOf47 rfl) (eqInRole _ x.Head y.Head W) (eqFields_cons (by decide) (part_one Tryz.isAgg9 rfl) (part_one Tryz.isAgg9 rfl) (eqS Tryz.underlying9 _ _ _ _) (eqFields_cons (by decide) (part_agg Tryz.isAgg47 Tryz.sizeOf47 rfl) (part_agg Tryz.isAgg47 Tryz.sizeOf47 rfl) (eqInRole _ x.B y.B W) (eqFields_cons (by decide) (part_agg Tryz.isAgg47 Tryz.sizeOf47 rfl) (part_agg Tryz.isAgg47 Tryz.sizeOf47 rfl) (eqInRole _ x.C y.C W) (eqFields_cons (by decide) (part_one Tryz.isAgg9 rfl) (part_one Tryz.isAgg9 rfl) (eqS Tryz.underlying9 _ _ _ _) (eqFields_nil _ _ _)))))))
theorem pl83 : ∀ fs, Tryz.prog.underlying 83 = some (.struct fs) → ∀ w, (fs.mapM (fun (f : Field) => do pure (f.offset, ← sizeOf f.type)) : Sem (Array (Nat × Nat))).run Tryz.prog w = .ok #[(0, 1), (1, 2), (3, 1), (4, 2), (6, 2), (8, 1)] w := by
  intro fs h w
  rw [Tryz.underlying83] at h
  cases h
  kernel_rfl
theorem fa78_0 : FieldAt Tryz.prog 78 0 0 := FieldAt_of Tryz.underlying78 rfl Tryz.sizeOf47 (by decide) rfl
theorem fa78_1 : FieldAt Tryz.prog 78 1 2 := FieldAt_of Tryz.underlying78 rfl Tryz.sizeOf9 (by decide) rfl
theorem pl78 : ∀ fs, Tryz.prog.underlying 78 = some (.struct fs) → ∀ w, (fs.mapM (fun (f : Field) => do pure (f.offset, ← sizeOf f.type)) : Sem (Array (Nat × Nat))).run Tryz.prog w = .ok #[(0, 2), (2, 1)] w := by
  intro fs h w
  rw [Tryz.underlying78] at h
  cases h
  kernel_rfl
theorem fa104_1 : FieldAt Tryz.prog 104 1 1 := FieldAt_of Tryz.underlying104 rfl Tryz.sizeOf3 (by decide) rfl
theorem fa104_2 : FieldAt Tryz.prog 104 2 2 := FieldAt_of Tryz.underlying104 rfl Tryz.sizeOf3 (by decide) rfl
theorem fa104_3 : FieldAt Tryz.prog 104 3 3 := FieldAt_of Tryz.underlying104 rfl Tryz.sizeOf3 (by decide) rfl
theorem fa104_4 : FieldAt Tryz.prog 104 4 4 := FieldAt_of Tryz.underlying104 rfl Tryz.sizeOf3 (by decide) rfl
theorem fields104 : (Tryz.prog.fieldsOf 104).toList = (match Tryz.prog.underlying 104 with | some (.struct fs) => fs.toList | _ => []) := by rw [Tryz.underlying104]; simp [Program.fieldsOf, Tryz.underlying104]
theorem eqInPerson (d : Nat) (x y : Person) (W : World) : (Op.equalIn (d + 2) 104 (.agg (encPerson x).toArray) (.agg (encPerson y).toArray)).run Tryz.prog W = .ok (beqPerson x y) W := by
  rw [run_equalIn_struct W (d + 1) 104 _ _ (by kernel_rfl) Tryz.stoodInHeld104, fields104, Tryz.underlying104]
  exact (eqFields_cons (by decide) (part_one Tryz.isAgg9 rfl) (part_one Tryz.isAgg9 rfl) (eqS Tryz.underlying9 _ _ _ _) (eqFields_cons (by decide) (part_one Tryz.isAgg3 rfl) (part_one Tryz.isAgg3 rfl) (eqI Tryz.underlying3 _ _ _ _) (eqFields_cons (by decide) (part_one Tryz.isAgg3 rfl) (part_one Tryz.isAgg3 rfl) (eqI Tryz.underlying3 _ _ _ _) (eqFields_cons (by decide) (part_one Tryz.isAgg3 rfl) (part_one Tryz.isAgg3 rfl) (eqI Tryz.underlying3 _ _ _ _) (eqFields_cons (by decide) (part_one Tryz.isAgg3 rfl) (part_one Tryz.isAgg3 rfl) (eqI Tryz.underlying3 _ _ _ _) (eqFields_nil _ _ _))))))
theorem pl104 : ∀ fs, Tryz.prog.underlying 104 = some (.struct fs) → ∀ w, (fs.mapM (fun (f : Field) => do pure (f.offset, ← sizeOf f.type)) : Sem (Array (Nat × Nat))).run Tryz.prog w = .ok #[(0, 1), (1, 1), (2, 1), (3, 1), (4, 1)] w := by
  intro fs h w
  rw [Tryz.underlying104] at h
  cases h
  kernel_rfl
theorem fa134_0 : FieldAt Tryz.prog 134 0 0 := FieldAt_of Tryz.underlying134 rfl Tryz.sizeOf130 (by decide) rfl
theorem fa134_1 : FieldAt Tryz.prog 134 1 1 := FieldAt_of Tryz.underlying134 rfl Tryz.sizeOf22 (by decide) rfl
theorem fa134_2 : FieldAt Tryz.prog 134 2 2 := FieldAt_of Tryz.underlying134 rfl Tryz.sizeOf131 (by decide) rfl
theorem fa134_3 : FieldAt Tryz.prog 134 3 3 := FieldAt_of Tryz.underlying134 rfl Tryz.sizeOf132 (by decide) rfl
theorem fa134_4 : FieldAt Tryz.prog 134 4 4 := FieldAt_of Tryz.underlying134 rfl Tryz.sizeOf53 (by decide) rfl
theorem fa134_5 : FieldAt Tryz.prog 134 5 5 := FieldAt_of Tryz.underlying134 rfl Tryz.sizeOf3 (by decide) rfl
theorem pl134 : ∀ fs, Tryz.prog.underlying 134 = some (.struct fs) → ∀ w, (fs.mapM (fun (f : Field) => do pure (f.offset, ← sizeOf f.type)) : Sem (Array (Nat × Nat))).run Tryz.prog w = .ok #[(0, 1), (1, 1), (2, 1), (3, 1), (4, 1), (5, 1)] w := by
  intro fs h w
  rw [Tryz.underlying134] at h
  cases h
  kernel_rfl
theorem fa221_0 : FieldAt Tryz.prog 221 0 0 := FieldAt_of Tryz.underlying221 rfl Tryz.sizeOf189 (by decide) rfl
theorem pl221 : ∀ fs, Tryz.prog.underlying 221 = some (.struct fs) → ∀ w, (fs.mapM (fun (f : Field) => do pure (f.offset, ← sizeOf f.type)) : Sem (Array (Nat × Nat))).run Tryz.prog w = .ok #[(0, 1)] w := by
  intro fs h w
  rw [Tryz.underlying221] at h
  cases h
  kernel_rfl
theorem kl9 : KeyLaw Tryz.prog 9 Value.string beqS := KeyLaw.string Tryz.underlying9
theorem kl47 : KeyLaw Tryz.prog 47 (fun (x : Role) => (.agg (encRole x).toArray)) beqRole :=
  KeyLaw.struct Tryz.underlying47 (fun d x y W => eqInRole (d + 8) x y W) (fun b k W => checkKey_struct Tryz.underlying47 rfl (List.forall_mem_cons.2 ⟨fun _ => ⟨.string k.Owner, part_one Tryz.isAgg9 rfl, checkKey_string Tryz.underlying9 _ _ _ _⟩, (List.forall_mem_cons.2 ⟨fun _ => ⟨.string k.Word, part_one Tryz.isAgg9 rfl, checkKey_string Tryz.underlying9 _ _ _ _⟩, (fun _ h => by cases h)⟩)⟩))
    (fun k x h => (beqRole_iff.1 h).symm) (fun k => by simp [Instr.sameBits, encRole, bytes_beq, beqS_iff])
theorem w_slices_Clone_Cred (f : Value) (g : List Cred) (r : List Cred) (w : World) (a : Sl (Pl encCred) 9 (hp w) f g) (hm : m_slices_Clone_Cred g = some r) :
    GivesRow true Tryz.prog 81 [f] w 83 encCred 9 r := by
  have hST := ST.start (dd := true) w
  unfold m_slices_Clone_Cred at hm
  refine calls_of_CW (n := 8) Tryz.func81 rfl rfl (Nat.le_of_ble_eq_true rfl) (CW_seq (CW_region (V (R_assign rfl) (LW_nil (sq_n (CW_seq (CW_seq (CW_region (V (R_move rfl) ?_)))))))))
  obtain ⟨x, z, rfl⟩ := a.form
  refine V (R_slEqNil Tryz.underlying22 rfl rfl) (LW_nil (sq_n ?_))
  rcases x with _ | y
  · have t := a.isNil
    replace hm : some [] = some r := by rw [t] at hm; simpa [appB, maxLen] using hm
    refine CW_if_true (rfl) (CW_seq (CW_region (V (R_assign rfl) (LW_nil (sq_n (CW_ret (sq_r ?_)))))))
    replace hm := Option.some.inj hm; subst hm
    exact retQ_1 (v := (.slice none 0 0)) rfl rfl ⟨_, [], rfl, hST.backRow (fun p hq => by cases hq) (by simp), Row.nil _ _ _⟩
  · refine CW_if_false (rfl) (CW_skip (sq_n (CW_seq (CW_region (VE (E_buildSlice (qs := #[]) (cs := #[]) hST parts0 (run_lit [] Tryz.underlying22 Tryz.sizeOf83 Tryz.zeroValue83 (by decide) rfl (by simp) rfl rfl) (fun D j hST => V (R_move rfl) ?_)))))))
    obtain ⟨G, k, hm⟩ := bind_some hm
    refine VE (F_append (enc := encCred) (v := (.slice (some ⟨j, 0, none⟩) 0 0)) (vs := (.slice (some y) g.length z)) (R := [(j, Obj.cells (#[] : Array Value) 83 (0, 0))]) hST lenCred (by decide) oneCred Tryz.underlying22 info83.1 info83.2.1 rfl info83.2.2.1 info83.2.2.2 rfl rfl (Row.lit (l := []) (enc := encCred) rfl (by decide) rfl rfl) (a.mono (Pl.mono _) hST.sub_hp) k (fun B u i hST c => V (R_assign rfl) (LW_nil (sq_n (CW_ret ?_)))))
    replace hm := Option.some.inj hm; subst hm
    exact retQ_1 (v := u) rfl rfl ⟨_, i, rfl, hST.backRow (fun p hq => (Ml hq)) c.nd, c⟩
theorem w_slices_IndexFunc_Cred (g : Value) (t : List Cred) (j : Value) (D : Cred → Option Bool) (r : Int) (w : World) (c : Sl (Pl encCred) 9 (hp w) g t) (G : CbOk Tryz.prog j (hp w) (fun (x : Cred) => [(.agg (encCred x).toArray)]) (fun (r : Bool) => (.bool r)) D) (hm : m_slices_IndexFunc_Cred t D = some r) :
    Gives true Tryz.prog 137 [g, j] w (.int .i64 r) := by
  have hST := ST.start (dd := true) w
  unfold m_slices_IndexFunc_Cred at hm
  refine calls_of_CW (n := 19) Tryz.func137 rfl rfl (Nat.le_of_ble_eq_true rfl) (CW_seq (CW_region (V (R_assign rfl) (LW_nil (sq_n (CW_seq (CW_seq (CW_region (V (R_move rfl) (V (R_len Tryz.underlying22 rfl c) (V (R_move rfl) (LW_nil (sq_n (CW_range (fun i E W => ∃  (k : List (Nat × Obj)), (E 8 = .int .i64 (i : Nat) ∧ E 7 = .int .i64 (t.length : Nat)) ∧ ST true NoF w W (hp w) k ∧ E 0 = g ∧ E 1 = j ∧ m_slices_IndexFunc_Cred_L1 D (t.drop i) i = some r) t.length c.len ⟨_, ⟨rfl, rfl⟩, (hST.sel St), rfl, rfl, hm⟩ (by decide) (by decide) (by decide) (fun _ _ _ h => by obtain ⟨_, eIN, _⟩ := h; exact eIN) ?_ ?_))))))))))))))
  · rintro z E W H ⟨k, ⟨eI, eN⟩, hST, u, y, a⟩
    obtain ⟨B, T, M, K, N⟩ := drop_cons H
    rw [M] at a
    rw [m_slices_IndexFunc_Cred_L1] at a
    refine CW_block (CW_seq (CW_region (V (R_move eI) (V (R_assign rfl) (LW_nil (sq_n (CW_seq (CW_region (V (R_move y) (V (R_move u) (V (R_move rfl) (VQ (R_indexP (enc := encCred) (i := (z : Int)) (x0 := B) Tryz.underlying22 Tryz.sizeOf83 rfl rfl c (Int.natCast_nonneg _) K) (fun Y I => V (R_load rfl (load_atA hST.has I Tryz.isAgg83 Tryz.sizeOf83)) ?_)))))))))))))
    obtain ⟨Q, J, a⟩ := bind_some a
    refine VE (E_cb B hST G (Sub.refl _) rfl (args1 rfl) J (fun U hST => LW_nil (sq_n (CW_if (b := Q) rfl (fun f => ?_) (fun f => ?_)))))
    · replace a := if_t f a
      refine CW_seq (CW_region (V (R_move rfl) (V (R_assign rfl) (LW_nil (sq_n (CW_ret (bq_r (sq_r (bq_r (sq_r ?_))))))))))
      replace a := Option.some.inj a; subst a
      exact retQ_1 (v := (.int .i64 ((z : Int)))) rfl rfl ⟨rfl, hST.ex⟩
    replace a := if_f f a
    exact CW_skip (bq_n (sq_n ⟨eI, _, ⟨rfl, eN⟩, (hST.sel St), u, y, (by rw [N]; exact a)⟩))
  rintro E W ⟨k, ⟨eI, eN⟩, hST, u, y, a⟩
  rw [List.drop_length] at a
  rw [m_slices_IndexFunc_Cred_L1] at a
  refine sq_n (CW_seq (CW_region (V (R_assign rfl) (LW_nil (sq_n (CW_ret ?_))))))
  replace a := Option.some.inj a; subst a
  exact retQ_1 (v := (.int .i64 ((-1)))) rfl rfl ⟨rfl, hST.ex⟩
theorem w_slices_DeleteFunc_Cred (g : Value) (a0 : List Cred) (y : List (Nat × Obj)) (G : Value) (f1 : Cred → Option Bool) (r : List Cred) (w : World) {μ0 : Mem} (h0 : Ent μ0 (y ++ []) w) (a1 : Row 83 encCred 9 g a0 y) (a8 : CbOk Tryz.prog G μ0 (fun (x : Cred) => [(.agg (encCred x).toArray)]) (fun (r : Bool) => (.bool r)) f1) (hm : m_slices_DeleteFunc_Cred a0 f1 = some r) :
    GivesM true Tryz.prog 80 [g, G] w (y ++ []) (fun v L1 W' => ∃ (y1 : Value) (S2 : List (Nat × Obj)), v = y1 ∧ L1 = (S2 ++ []) ∧ Row 83 encCred 9 y1 r S2) := by
  have hST := ST.startE (dd := true) h0
  unfold m_slices_DeleteFunc_Cred at hm
  refine calls_of_CW (n := 42) Tryz.func80 rfl rfl (Nat.le_of_ble_eq_true rfl) (CW_seq (CW_region (V (R_assign rfl) (LW_nil (sq_n (CW_seq (CW_region (V (R_move rfl) (V (R_move rfl) ?_)))))))))
  obtain ⟨r1, d3, hm⟩ := bind_some hm
  refine VE (E_gives (args := [g, G]) hST rfl Tryz.call137 (by exact args2 rfl rfl) ((w_slices_IndexFunc_Cred g a0 G f1 _ _ (a1.sl lenCred (fun b o hq => hST.at_ (Ml hq))) (a8.mono hST.sub_hp) d3)) (fun W3 hST => V (R_assign rfl) (LW_nil (sq_n (CW_seq (CW_seq (CW_region (V (R_move rfl) (V (R_int rfl rfl rfl) (LW_nil (sq_n (CW_if (b := (r1 == ((-1)))) rfl (fun a9 => ?_) (fun a9 => ?_)))))))))))))
  · replace hm := if_t a9 hm
    refine CW_seq (CW_region (V (R_move rfl) (V (R_assign rfl) (LW_nil (sq_n (CW_ret (sq_r ?_)))))))
    replace hm := Option.some.inj hm; subst hm
    exact retQ_1 (v := g) rfl rfl ⟨_, _, rfl, (hST.bkM (Kr Sn)), g, y, rfl, rfl, a1⟩
  replace hm := if_f a9 hm
  refine CW_skip (sq_n (CW_seq (CW_seq (CW_region (V (R_move rfl) (V (R_int rfl rfl rfl) (V (R_assign rfl) (LW_nil (sq_n (CW_block (CW_loop (fun m E W => ∃ (D : List Cred) (I : List (Nat × Obj)) (k : Int) (t : Int) (a5 : List (Nat × Obj)), ST true (keys (y ++ [])) w W μ0 (I ++ a5) ∧ E 0 = g ∧ E 1 = G ∧ E 5 = (.int .i64 k) ∧ E 6 = (.int .i64 t) ∧ Row 83 encCred 9 g D I ∧ m_slices_DeleteFunc_Cred_L1 f1 m D k t = some r) FUEL ⟨a0, y, r1, ((IntKind.i64.wrap (r1 + 1))), _, (hST.sel St), rfl, rfl, rfl, rfl, a1, hm⟩ ?_)))))))))))
  rintro m E W ⟨D, I, k, t, a5, hST, B, Z, H, K, f, c⟩
  cases m with
  | zero => rw [m_slices_DeleteFunc_Cred_L1] at c; cases c
  | succ b0 =>
    rw [m_slices_DeleteFunc_Cred_L1] at c
    refine CW_seq (CW_seq (CW_region (V (R_move K) (V (R_move B) (V (R_lenRow Tryz.underlying22 rfl f) (V (R_int rfl rfl rfl) (LW_nil (sq_n (CW_if (b := (decide (t < ((D.length : Int))))) rfl (fun M => ?_) (fun M => ?_))))))))))
    · replace c := if_t M c
      refine CW_skip (sq_n (CW_seq ?_))
      obtain ⟨e5, a, a4⟩ := bind_some c
      refine CW_cut (fun E W => ∃ (U : List Cred) (J : List (Nat × Obj)) (Y : Int) (a6 : List (Nat × Obj)), ST true (keys (y ++ [])) w W μ0 (J ++ a6) ∧ E 0 = g ∧ E 1 = G ∧ E 5 = (.int .i64 Y) ∧ E 6 = (.int .i64 t) ∧ Row 83 encCred 9 g U J ∧ (m_slices_DeleteFunc_Cred_L1 f1 b0 U Y ((IntKind.i64.wrap (t + 1)))) = some r) ?_ ?_
      · refine CW_block (CW_seq (CW_region (V (R_move B) (V (R_move K) ?_))))
        obtain ⟨j, Q, a⟩ := bind_some a
        refine VQ (R_indexRow (i := t) (x0 := j) Tryz.underlying22 Tryz.sizeOf83 rfl rfl f (idx_nonneg Q) (idx_get Q)) (fun e3 b6 => V (R_load rfl (load_ixA hST.has (fun p hq => (Ml hq)) f lenCred b6 (idx_get Q) Tryz.isAgg83 Tryz.sizeOf83)) (VE (E_alloc hST Tryz.zeroValue83 (fun d6 e1 hST => VO (F_store (.agg (encCred j).toArray) ((encCred j).toArray) hST rfl rfl Tryz.sizeOf83 (oneCred j) (Nat.le_of_ble_eq_true rfl) rfl (fun d7 hST => LW_nil (sq_n (CW_seq (CW_region (V (R_move Z) (V (R_load rfl (load_boxA hST.has Mh (encCred j) rfl Tryz.isAgg83 Tryz.sizeOf83)) ?_)))))))))))
        obtain ⟨d0, b8, a⟩ := bind_some a
        refine VE (E_cb j hST a8 (Sub.refl _) rfl (args1 rfl) b8 (fun d8 hST => V (R_not rfl) (LW_nil (sq_n (CW_if (b := (!d0)) rfl (fun N => ?_) (fun N => ?_))))))
        · replace a := if_t N a
          refine CW_seq (CW_region (V (R_move B) (V (R_move H) (V (R_load rfl (load_boxA hST.has Mh (encCred j) rfl Tryz.isAgg83 Tryz.sizeOf83)) ?_))))
          obtain ⟨d1, T, a⟩ := bind_some a
          refine VQ (R_indexRow (i := k) (x0 := d1) Tryz.underlying22 Tryz.sizeOf83 rfl rfl f (idx_nonneg T) (idx_get T)) (fun e4 b7 => ?_)
          replace hST := hST.perm (Nr (Qb Qz) Nz)
          refine VO (F_storeRow (u := (.agg (encCred j).toArray)) (x1 := j)  hST f lenCred oneCred rfl rfl rfl b7 (idx_get T) Tryz.sizeOf83 (fun d9 c3 hST b3 => LW_nil (sq_n ?_)))
          replace hST := hST.sel (Kr (Db St))
          refine CW_region (V (R_move H) (V (R_int rfl rfl rfl) (V (R_assign rfl) (LW_nil (bq_n (sq_n ?_))))))
          replace a := Option.some.inj a; subst a
          exact ⟨((D.set (Int.toNat k) j)), c3, ((IntKind.i64.wrap (k + 1))), _, (hST.sel St), B, Z, rfl, K, b3, a4⟩
        replace a := if_f N a
        refine CW_skip (bq_n (sq_n ?_))
        replace a := Option.some.inj a; subst a
        exact ⟨D, I, k, _, (hST.sel (Db St)), B, Z, H, K, f, a4⟩
      rintro E W ⟨U, J, Y, a6, hST, c5, c6, c7, c8, b9, b5⟩
      exact CW_region (V (R_move c8) (V (R_int rfl rfl rfl) (V (R_assign rfl) (LW_nil (sq_n ⟨b0, Nat.lt_succ_self _, U, J, Y, ((IntKind.i64.wrap (t + 1))), _, (hST.sel St), c5, c6, c7, rfl, b9, b5⟩)))))
    replace c := if_f M c
    refine CW_exit (sq_e (sq_e (bq_e (sq_n (CW_seq (CW_region (V (R_move B) (V (R_move H) ?_))))))))
    obtain ⟨_, a2, c⟩ := bind_some c
    refine VQ (R_sliceTail (i := k) Tryz.underlying22 Tryz.sizeOf83 rfl rfl f (chk_1 a2) (chk_2 a2)) (fun e6 c0 => VO (F_clearTail (z := (⟨0, (⟨zS, zS⟩ : Role), zS, (⟨zS, zS⟩ : Role), (⟨zS, zS⟩ : Role), zS⟩ : Cred))  hST f lenCred oneCred Tryz.underlying22 Tryz.zeroValue83 c0 rfl rfl (fun e0 c4 hST b4 => LW_nil (sq_n (CW_seq (CW_region (V (R_move B) (V (R_move H) ?_))))))))
    obtain ⟨_, a3, c⟩ := bind_some c
    refine VQ (R_sliceTo (i := k) Tryz.underlying22 Tryz.sizeOf83 rfl rfl b4 lenCred (chk_1 a3) (chk_2 a3)) (fun b1 c1 => V (R_assign rfl) (LW_nil (sq_n (CW_ret ?_))))
    replace c := Option.some.inj c; subst c
    exact retQ_1 (v := b1) rfl rfl ⟨_, _, rfl, (hST.bkM (Kr Sn)), b1, c4, rfl, rfl, c1⟩
theorem ext244 (w : World) (s : ByteArray) (c : Int) : (callFunc 244 [Value.string s, .int .u8 c].toArray).run Tryz.prog w = .ok (.value (.int .i64 (xIndexByte s c))) w := run_indexByteS Tryz.func244 (by kernel_rfl) (by kernel_rfl) (by kernel_rfl) (by kernel_rfl) s c w
theorem w_internal_stringslite_IndexByte (a : ByteArray) (c : Int) (r : Int) (w : World)  (hm : m_internal_stringslite_IndexByte a c = some r) :
    Gives true Tryz.prog 215 [(.string a), (.int .u8 c)] w (.int .i64 r) := by
  have hST := ST.start (dd := true) w
  unfold m_internal_stringslite_IndexByte at hm
  refine calls_of_CW (n := 8) Tryz.func215 rfl rfl (Nat.le_of_ble_eq_true rfl) (CW_seq (CW_region (V (R_assign rfl) (LW_nil (sq_n (CW_seq (CW_region (V (R_move rfl) (V (R_move rfl) (VE (E_ext (args := [(.string a), (.int .u8 c)]) (v := .int .i64 (xIndexByte a c)) rfl (by exact args2 rfl rfl) (ext244 _ a c) (V (R_assign rfl) (LW_nil (sq_n (CW_ret ?_)))))))))))))))
  replace hm := Option.some.inj hm; subst hm
  exact retQ_1 (v := (.int .i64 ((xIndexByte a c)))) rfl rfl ⟨rfl, hST.ex⟩
theorem w_strings_IndexByte (a : ByteArray) (c : Int) (r : Int) (w : World)  (hm : m_strings_IndexByte a c = some r) :
    Gives true Tryz.prog 169 [(.string a), (.int .u8 c)] w (.int .i64 r) := by
  have hST := ST.start (dd := true) w
  unfold m_strings_IndexByte at hm
  refine calls_of_CW (n := 8) Tryz.func169 rfl rfl (Nat.le_of_ble_eq_true rfl) (CW_seq (CW_region (V (R_assign rfl) (LW_nil (sq_n (CW_seq (CW_region (V (R_move rfl) (V (R_move rfl) ?_)))))))))
  obtain ⟨g, f, hm⟩ := bind_some hm
  refine VE (E_gives (args := [(.string a), (.int .u8 c)]) hST rfl Tryz.call215 (by exact args2 rfl rfl) ((w_internal_stringslite_IndexByte a c _ _  f)) (fun i hST => V (R_assign rfl) (LW_nil (sq_n (CW_ret ?_)))))
  replace hm := Option.some.inj hm; subst hm
  exact retQ_1 (v := (.int .i64 g)) rfl rfl ⟨rfl, hST.ex⟩
theorem w_name_only (H : ByteArray) (r : Bool) (w : World)  (hm : m_name_only H = some r) :
    Gives true Tryz.prog 170 [(.string H)] w (.bool r) := by
  have hST := ST.start (dd := true) w
  unfold m_name_only at hm
  refine calls_of_CW (n := 16) Tryz.func170 rfl rfl (Nat.le_of_ble_eq_true rfl) (CW_seq (CW_region (V (R_assign rfl) (LW_nil (sq_n (CW_seq (CW_seq (CW_region (V (R_move rfl) ?_)))))))))
  obtain ⟨G, I, hm⟩ := bind_some hm
  refine VE (E_bytesOf hST Tryz.underlying9 Tryz.underlying189 Tryz.underlying5 rfl I (fun W3 N T hST M k Y => V (R_len Tryz.underlying189 rfl k) (V (R_move rfl) (LW_nil (sq_n (CW_range (fun i E W => ∃  (g : List (Nat × Obj)), (E 8 = .int .i64 (i : Nat) ∧ E 7 = .int .i64 (G.length : Nat)) ∧ ST true NoF w W T g ∧ E 6 = N ∧ m_name_only_L1 (G.drop i) = some r) G.length k.len ⟨_, ⟨rfl, rfl⟩, (hST.sel St), rfl, hm⟩ (by decide) (by decide) (by decide) (fun _ _ _ h => by obtain ⟨_, eIN, _⟩ := h; exact eIN) ?_ ?_))))))
  · rintro J E W t ⟨g, ⟨eI, eN⟩, hST, j, a⟩
    obtain ⟨f, Q, B, z, D⟩ := drop_cons t
    rw [B] at a
    rw [m_name_only_L1] at a
    refine CW_block (CW_seq (CW_region (VQ (R_indexP (enc := (encIk .u8)) (i := (J : Int)) (x0 := f) Tryz.underlying189 Tryz.sizeOf5 j eI k (Int.natCast_nonneg _) z) (fun Z u => V (R_load rfl (load_at1 hST.has (y := (.int .u8 f)) u Tryz.isAgg5)) (V (R_assign rfl) (LW_nil (sq_n (CW_seq (CW_region (V (R_move rfl) ?_))))))))))
    obtain ⟨K, x, a⟩ := bind_some a
    refine VE (E_gives (args := [(.string ((⟨#[97, 98, 99, 100, 101, 102, 103, 104, 105, 106, 107, 108, 109, 110, 111, 112, 113, 114, 115, 116, 117, 118, 119, 120, 121, 122, 48, 49, 50, 51, 52, 53, 54, 55, 56, 57, 45]⟩ : ByteArray))), (.int .u8 f)]) hST rfl Tryz.call169 (by exact args2 rfl rfl) ((w_strings_IndexByte ((⟨#[97, 98, 99, 100, 101, 102, 103, 104, 105, 106, 107, 108, 109, 110, 111, 112, 113, 114, 115, 116, 117, 118, 119, 120, 121, 122, 48, 49, 50, 51, 52, 53, 54, 55, 56, 57, 45]⟩ : ByteArray)) f _ _  x)) (fun U hST => V (R_int rfl rfl rfl) (LW_nil (sq_n (CW_if (b := (decide (K < 0))) rfl (fun c => ?_) (fun c => ?_))))))
    · replace a := if_t c a
      refine CW_seq (CW_region (V (R_assign rfl) (LW_nil (sq_n (CW_ret (bq_r (sq_r (bq_r (sq_r ?_)))))))))
      replace a := Option.some.inj a; subst a
      exact retQ_1 (v := (.bool false)) rfl rfl ⟨rfl, hST.ex⟩
    replace a := if_f c a
    exact CW_skip (bq_n (sq_n ⟨eI, _, ⟨rfl, eN⟩, (hST.sel St), j, (by rw [D]; exact a)⟩))
  rintro E W ⟨g, ⟨eI, eN⟩, hST, j, a⟩
  rw [List.drop_length] at a
  rw [m_name_only_L1] at a
  refine sq_n (CW_seq (CW_region (V (R_assign rfl) (LW_nil (sq_n (CW_ret ?_))))))
  replace a := Option.some.inj a; subst a
  exact retQ_1 (v := (.bool true)) rfl rfl ⟨rfl, hST.ex⟩
theorem w_name_Right (u : ByteArray) (r : Bool) (w : World)  (hm : m_name_Right u = some r) :
    Gives true Tryz.prog 134 [(.string u)] w (.bool r) := by
  have hST := ST.start (dd := true) w
  unfold m_name_Right at hm
  refine calls_of_CW (n := 21) Tryz.func134 rfl rfl (Nat.le_of_ble_eq_true rfl) (CW_seq (CW_region (V (R_assign rfl) (LW_nil (sq_n (CW_seq (CW_region (V (R_move rfl) (V (R_lenStr Tryz.underlying9 rfl) (V (R_int rfl rfl rfl) (V (R_move rfl) ?_)))))))))))
  obtain ⟨b7, f, M⟩ := bind_some hm
  refine LW_join (J := fun E W => ∃ (T : Bool) (L3 : List (Nat × Obj)), ST true NoF w W (hp w) L3 ∧ E 0 = (.string u) ∧ E 2 = (.bool false) ∧ E 10 = (.bool T) ∧ (((if T then (((idxS u 0)).bind fun B => (((m_strings_IndexByte ((⟨#[97, 98, 99, 100, 101, 102, 103, 104, 105, 106, 107, 108, 109, 110, 111, 112, 113, 114, 115, 116, 117, 118, 119, 120, 121, 122]⟩ : ByteArray)) ((B.toNat : Int)))).bind fun Q => some ((decide (Q ≥ 0))))) else some false) : Option Bool).bind fun x => (((if x then (((m_name_only u)).bind fun y => some y) else some false) : Option Bool).bind fun t => some t)) = some r) 4 ?_ (fun H => ?_)
  · rintro E W ⟨T, L3, hST, e5, e6, e7, b0⟩
    refine V (R_move e7) ?_
    obtain ⟨b6, a, K⟩ := bind_some b0
    refine LW_join (J := fun E W => ∃ (x : Bool) (U : List (Nat × Obj)), ST true NoF w W (hp w) U ∧ E 0 = (.string u) ∧ E 2 = (.bool false) ∧ E 16 = (.bool x) ∧ (((if x then (((m_name_only u)).bind fun y => some y) else some false) : Option Bool).bind fun t => some t) = some r) 5 ?_ (fun G => ?_)
    · rintro E W ⟨x, U, hST, a6, Z, a7, a2⟩
      refine V (R_move a7) ?_
      obtain ⟨b5, c, I⟩ := bind_some a2
      refine LW_join (J := fun E W => ∃ (t : Bool) (Y : List (Nat × Obj)), ST true NoF w W (hp w) Y ∧ E 2 = (.bool false) ∧ E 20 = (.bool t) ∧ some t = some r) 3 ?_ (fun D => ?_)
      · rintro E W ⟨t, Y, hST, b4, a8, z⟩
        refine V (R_assign a8) (LW_nil (sq_n (CW_ret ?_)))
        replace z := Option.some.inj z; subst z
        exact retQ_1 (v := (.bool t)) rfl rfl ⟨rfl, hST.ex⟩
      rcases bool_cases x with j | j
      · replace c := if_t j c
        refine Vg rfl (congrArg Value.bool j) (R_move a6) ?_
        obtain ⟨y, a3, c⟩ := bind_some c
        refine VgE rfl (congrArg Value.bool j) (E_gives (args := [(.string u)]) hST rfl Tryz.call170 (by exact args1 rfl) ((w_name_only u _ _  a3)) (fun b2 hST => V (R_pickT (congrArg Value.bool j) rfl) ?_))
        replace c := Option.some.inj c; subst c
        exact D _ _ ⟨y, _, (hST.sel St), Z, rfl, I⟩
      replace c := if_f j c
      refine Vn rfl (congrArg Value.bool j) (Vn rfl (congrArg Value.bool j) (V (R_pickF (congrArg Value.bool j) rfl) ?_))
      replace c := Option.some.inj c; subst c
      exact D _ _ ⟨false, _, (hST.sel St), Z, rfl, I⟩
    rcases bool_cases T with g | g
    · replace a := if_t g a
      refine Vg rfl (congrArg Value.bool g) (R_move e5) ?_
      obtain ⟨B, N, a⟩ := bind_some a
      refine Vg rfl (congrArg Value.bool g) (R_indexStr (i := 0) Tryz.underlying9 rfl rfl (idxS_nonneg N) (idxS_get N)) ?_
      obtain ⟨Q, a4, a⟩ := bind_some a
      refine VgE rfl (congrArg Value.bool g) (E_gives (args := [(.string ((⟨#[97, 98, 99, 100, 101, 102, 103, 104, 105, 106, 107, 108, 109, 110, 111, 112, 113, 114, 115, 116, 117, 118, 119, 120, 121, 122]⟩ : ByteArray))), (.int .u8 ((B.toNat : Int)))]) hST rfl Tryz.call169 (by exact args2 rfl rfl) ((w_strings_IndexByte ((⟨#[97, 98, 99, 100, 101, 102, 103, 104, 105, 106, 107, 108, 109, 110, 111, 112, 113, 114, 115, 116, 117, 118, 119, 120, 121, 122]⟩ : ByteArray)) ((B.toNat : Int)) _ _  a4)) (fun b3 hST => Vg rfl (congrArg Value.bool g) (R_int rfl rfl rfl) (V (R_pickT (congrArg Value.bool g) rfl) ?_)))
      replace a := Option.some.inj a; subst a
      exact G _ _ ⟨((decide (Q ≥ 0))), _, (hST.sel St), e5, e6, rfl, K⟩
    replace a := if_f g a
    refine Vn rfl (congrArg Value.bool g) (Vn rfl (congrArg Value.bool g) (Vn rfl (congrArg Value.bool g) (Vn rfl (congrArg Value.bool g) (V (R_pickF (congrArg Value.bool g) rfl) ?_))))
    replace a := Option.some.inj a; subst a
    exact G _ _ ⟨false, _, (hST.sel St), e5, e6, rfl, K⟩
  rcases bool_cases ((decide (((u.size : Int)) ≥ 1))) with k | k
  · replace f := if_t k f
    refine Vg rfl (congrArg Value.bool k) (R_move rfl) (Vg rfl (congrArg Value.bool k) (R_lenStr Tryz.underlying9 rfl) (Vg rfl (congrArg Value.bool k) (R_int rfl rfl rfl) (V (R_pickT (congrArg Value.bool k) rfl) ?_)))
    replace f := Option.some.inj f; subst f
    exact H _ _ ⟨((decide (((u.size : Int)) ≤ 16))), _, (hST.sel St), rfl, rfl, rfl, M⟩
  replace f := if_f k f
  refine Vn rfl (congrArg Value.bool k) (Vn rfl (congrArg Value.bool k) (Vn rfl (congrArg Value.bool k) (V (R_pickF (congrArg Value.bool k) rfl) ?_)))
  replace f := Option.some.inj f; subst f
  exact H _ _ ⟨false, _, (hST.sel St), rfl, rfl, rfl, M⟩
theorem w_role_Right (f : Role) (r : Bool) (w : World)  (hm : m_role_Right f = some r) :
    Gives true Tryz.prog 131 [(.agg (encRole f).toArray)] w (.bool r) := by
  have hST := ST.start (dd := true) w
  unfold m_role_Right at hm
  refine calls_of_CW (n := 11) Tryz.func131 rfl rfl (Nat.le_of_ble_eq_true rfl) (CW_seq (CW_region (VE (E_box (v := (.agg (encRole f).toArray)) hST rfl (fun I M hST => V (R_assign rfl) (LW_nil (sq_n (CW_seq (CW_region (V (R_field fa47_0 rfl) (V (R_load rfl (load_box1 hST.has Mh rfl Tryz.isAgg9)) ?_)))))))))))
  obtain ⟨B, y, hm⟩ := bind_some hm
  refine VE (E_gives (args := [(.string f.Owner)]) hST rfl Tryz.call134 (by exact args1 rfl) ((w_name_Right f.Owner _ _  y)) (fun K hST => V (R_move rfl) ?_))
  obtain ⟨H, a, k⟩ := bind_some hm
  refine LW_join (J := fun E W => ∃ (j : Bool) (t : List (Nat × Obj)), ST true NoF w W (hp w) t ∧ E 2 = (.bool false) ∧ E 10 = (.bool j) ∧ some j = some r) 4 ?_ (fun i => ?_)
  · rintro E W ⟨j, t, hST, G, x, g⟩
    refine V (R_assign x) (LW_nil (sq_n (CW_ret ?_)))
    replace g := Option.some.inj g; subst g
    exact retQ_1 (v := (.bool j)) rfl rfl ⟨rfl, hST.ex⟩
  rcases bool_cases B with c | c
  · replace a := if_t c a
    refine Vg rfl (congrArg Value.bool c) (R_field fa47_1 rfl) (Vg rfl (congrArg Value.bool c) (R_load rfl (load_box1 hST.has Mh rfl Tryz.isAgg9)) ?_)
    obtain ⟨z, u, a⟩ := bind_some a
    refine VgE rfl (congrArg Value.bool c) (E_gives (args := [(.string f.Word)]) hST rfl Tryz.call134 (by exact args1 rfl) ((w_name_Right f.Word _ _  u)) (fun D hST => V (R_pickT (congrArg Value.bool c) rfl) ?_))
    replace a := Option.some.inj a; subst a
    exact i _ _ ⟨z, _, (hST.sel (Db St)), rfl, rfl, k⟩
  replace a := if_f c a
  refine Vn rfl (congrArg Value.bool c) (Vn rfl (congrArg Value.bool c) (Vn rfl (congrArg Value.bool c) (V (R_pickF (congrArg Value.bool c) rfl) ?_)))
  replace a := Option.some.inj a; subst a
  exact i _ _ ⟨false, _, (hST.sel (Db St)), rfl, rfl, k⟩
theorem ext184 (w : World) (a b : ByteArray) : (callFunc 184 [Value.string a, .string b].toArray).run Tryz.prog w = .ok (.value (.int .i64 (xCompareS a b))) w := run_cmpS Tryz.func184 (by kernel_rfl) (by kernel_rfl) (by kernel_rfl) (by kernel_rfl) a b w
theorem w_internal_bytealg_CompareString (a : ByteArray) (c : ByteArray) (r : Int) (w : World)  (hm : m_internal_bytealg_CompareString a c = some r) :
    Gives true Tryz.prog 142 [(.string a), (.string c)] w (.int .i64 r) := by
  have hST := ST.start (dd := true) w
  unfold m_internal_bytealg_CompareString at hm
  refine calls_of_CW (n := 8) Tryz.func142 rfl rfl (Nat.le_of_ble_eq_true rfl) (CW_seq (CW_region (V (R_assign rfl) (LW_nil (sq_n (CW_seq (CW_region (V (R_move rfl) (V (R_move rfl) (VE (E_ext (args := [(.string a), (.string c)]) (v := .int .i64 (xCompareS a c)) rfl (by exact args2 rfl rfl) (ext184 _ a c) (V (R_assign rfl) (LW_nil (sq_n (CW_ret ?_)))))))))))))))
  replace hm := Option.some.inj hm; subst hm
  exact retQ_1 (v := (.int .i64 ((xCompareS a c)))) rfl rfl ⟨rfl, hST.ex⟩
theorem w_strings_Compare (a : ByteArray) (c : ByteArray) (r : Int) (w : World)  (hm : m_strings_Compare a c = some r) :
    Gives true Tryz.prog 95 [(.string a), (.string c)] w (.int .i64 r) := by
  have hST := ST.start (dd := true) w
  unfold m_strings_Compare at hm
  refine calls_of_CW (n := 8) Tryz.func95 rfl rfl (Nat.le_of_ble_eq_true rfl) (CW_seq (CW_region (V (R_assign rfl) (LW_nil (sq_n (CW_seq (CW_region (V (R_move rfl) (V (R_move rfl) ?_)))))))))
  obtain ⟨g, f, hm⟩ := bind_some hm
  refine VE (E_gives (args := [(.string a), (.string c)]) hST rfl Tryz.call142 (by exact args2 rfl rfl) ((w_internal_bytealg_CompareString a c _ _  f)) (fun i hST => V (R_assign rfl) (LW_nil (sq_n (CW_ret ?_)))))
  replace hm := Option.some.inj hm; subst hm
  exact retQ_1 (v := (.int .i64 g)) rfl rfl ⟨rfl, hST.ex⟩
theorem w_cmp_Or_int (g : Value) (u : List Int) (r : Int) (w : World) (c : Sl (Pl (encIk .i64)) 1 (hp w) g u) (hm : m_cmp_Or_int u = some r) :
    Gives true Tryz.prog 93 [g] w (.int .i64 r) := by
  have hST := ST.start (dd := true) w
  unfold m_cmp_Or_int at hm
  refine calls_of_CW (n := 18) Tryz.func93 rfl rfl (Nat.le_of_ble_eq_true rfl) (CW_seq (CW_region (V (R_assign rfl) (LW_nil (sq_n (CW_seq (CW_region (V (R_assign rfl) (LW_nil (sq_n (CW_seq (CW_seq (CW_region (V (R_move rfl) ?_))))))))))))))
  refine V (R_len Tryz.underlying173 rfl c) (V (R_move rfl) (LW_nil (sq_n (CW_range (fun i E W => ∃  (t : List (Nat × Obj)), (E 8 = .int .i64 (i : Nat) ∧ E 7 = .int .i64 (u.length : Nat)) ∧ ST true NoF w W (hp w) t ∧ E 3 = (.int .i64 0) ∧ E 6 = g ∧ m_cmp_Or_int_L1 (u.drop i) = some r) u.length c.len ⟨_, ⟨rfl, rfl⟩, (hST.sel St), rfl, rfl, hm⟩ (by decide) (by decide) (by decide) (fun _ _ _ h => by obtain ⟨_, eIN, _⟩ := h; exact eIN) ?_ ?_))))
  · rintro I E W z ⟨t, ⟨eI, eN⟩, hST, j, x, a⟩
    obtain ⟨k, J, G, D, H⟩ := drop_cons z
    rw [G] at a
    rw [m_cmp_Or_int_L1] at a
    refine CW_block (CW_seq (CW_region (VQ (R_indexP (enc := (encIk .i64)) (i := (I : Int)) (x0 := k) Tryz.underlying173 Tryz.sizeOf3 x eI c (Int.natCast_nonneg _) D) (fun K B => V (R_load rfl (load_at1 hST.has (y := (.int .i64 k)) B Tryz.isAgg3)) (V (R_assign rfl) (LW_nil (sq_n (CW_seq (CW_region (V (R_move rfl) (V (R_move j) (V (R_int rfl rfl rfl) (LW_nil (sq_n ?_))))))))))))))
    refine CW_if (b := (k != 0)) rfl (fun f => ?_) (fun f => ?_)
    · replace a := if_t f a
      refine CW_seq (CW_region (V (R_move rfl) (V (R_assign rfl) (LW_nil (sq_n (CW_ret (bq_r (sq_r (bq_r (sq_r ?_))))))))))
      replace a := Option.some.inj a; subst a
      exact retQ_1 (v := (.int .i64 k)) rfl rfl ⟨rfl, hST.ex⟩
    replace a := if_f f a
    exact CW_skip (bq_n (sq_n ⟨eI, _, ⟨rfl, eN⟩, (hST.sel St), j, x, (by rw [H]; exact a)⟩))
  rintro E W ⟨t, ⟨eI, eN⟩, hST, j, x, a⟩
  rw [List.drop_length] at a
  rw [m_cmp_Or_int_L1] at a
  refine sq_n (CW_seq (CW_region (V (R_move j) (V (R_assign rfl) (LW_nil (sq_n (CW_ret ?_)))))))
  replace a := Option.some.inj a; subst a
  exact retQ_1 (v := (.int .i64 0)) rfl rfl ⟨rfl, hST.ex⟩
theorem w_role_Compare (f : Role) (g : Role) (r : Int) (w : World)  (hm : m_role_Compare f g = some r) :
    Gives true Tryz.prog 94 [(.agg (encRole f).toArray), (.agg (encRole g).toArray)] w (.int .i64 r) := by
  have hST := ST.start (dd := true) w
  unfold m_role_Compare at hm
  refine calls_of_CW (n := 17) Tryz.func94 rfl rfl (Nat.le_of_ble_eq_true rfl) (CW_seq (CW_region (VE (E_box (v := (.agg (encRole f).toArray)) hST rfl (fun D H hST => VE (E_box (v := (.agg (encRole g).toArray)) hST rfl (fun G I hST => V (R_assign rfl) (LW_nil (sq_n (CW_seq ?_))))))))))
  replace hST := hST.drew
  have hS0 := hST.has.sel (Kb (Kb Sn))
  refine PX_start1 hS0 Tryz_mixed (X 0 rfl hS0 (R_field fa47_0 rfl) (XH 1 rfl hS0 (fun _ hS => R_load rfl (load_box1 hS (Mt Mh) rfl Tryz.isAgg9)) (X 2 rfl hS0 (R_field fa47_0 rfl) (XH 3 rfl hS0 (fun _ hS => R_load rfl (load_box1 hS Mh rfl Tryz.isAgg9)) (X 5 rfl hS0 (R_field fa47_1 rfl) (XH 6 rfl hS0 (fun _ hS => R_load rfl (load_box1 hS (Mt Mh) rfl Tryz.isAgg9)) (X 7 rfl hS0 (R_field fa47_1 rfl) (XH 8 rfl hS0 (fun _ hS => R_load rfl (load_box1 hS Mh rfl Tryz.isAgg9)) ?_))))))))
  obtain ⟨a, j, hm⟩ := bind_some hm
  refine XE 4 rfl (E_gives (args := [(.string f.Owner), (.string g.Owner)]) hST rfl Tryz.call95 (by exact args2 rfl rfl) ((w_strings_Compare f.Owner g.Owner _ _  j)) (fun x hST => ?_))
  have hS0 := hST.has.sel (Kb (Kb Sn))
  refine ⟨hS0, ?_⟩
  obtain ⟨c, k, hm⟩ := bind_some hm
  refine XE 9 rfl (E_gives (args := [(.string f.Word), (.string g.Word)]) hST rfl Tryz.call95 (by exact args2 rfl rfl) ((w_strings_Compare f.Word g.Word _ _  k)) (fun y hST => ?_))
  have hS0 := hST.has.sel (Kb (Kb Sn))
  refine ⟨hS0, (XE 10 rfl (E_buildSlice (qs := #[(0, (.int .i64 a)), (1, (.int .i64 c))]) (cs := #[(.int .i64 a), (.int .i64 c)]) hST (parts2 rfl rfl) (run_lit [(.int .i64 a), (.int .i64 c)] Tryz.underlying173 Tryz.sizeOf3 Tryz.zeroValue3 (by decide) rfl (by intro v hv; simp only [List.mem_cons, List.not_mem_nil, or_false] at hv; rcases hv with rfl | rfl <;> rfl) rfl rfl) (fun z i hST => ?_)))⟩
  have hS0 := hST.has.sel (Db (Kb (Kb Sn)))
  refine ⟨hS0, ?_⟩
  obtain ⟨u, t, hm⟩ := bind_some hm
  refine XE 11 rfl (E_gives (args := [(.slice (some ⟨i, 0, none⟩) 2 2)]) hST rfl Tryz.call93 (by exact args1 rfl) ((w_cmp_Or_int (.slice (some ⟨i, 0, none⟩) 2 2) ([a, c]) _ _ (Sl.lit (enc := (encIk .i64)) (l := [a, c]) (fun _ => rfl) rfl (Nat.le_of_ble_eq_true rfl) rfl (hST.at_ Mh)) t)) (fun B hST => ?_))
  have hS0 := hST.has.sel (Db (Kb (Kb Sn)))
  refine ⟨hS0, (X 12 rfl hS0 (R_assign rfl) (PX_done (by kernel_rfl) (sq_n ?_)))⟩
  replace hST := hST.sel (Db (Db (Db St)))
  refine CW_ret ?_
  replace hm := Option.some.inj hm; subst hm
  exact retQ_1 (v := (.int .i64 u)) rfl rfl ⟨rfl, hST.ex⟩
theorem w_cred_Right (a : Cred) (r : Bool) (w : World)  (hm : m_cred_Right a = some r) :
    Gives true Tryz.prog 98 [(.agg (encCred a).toArray)] w (.bool r) := by
  have hST := ST.start (dd := true) w
  unfold m_cred_Right at hm
  refine calls_of_CW (n := 98) Tryz.func98 rfl rfl (Nat.le_of_ble_eq_true rfl) (CW_seq (CW_region (VE (E_box (v := (.agg (encCred a).toArray)) hST rfl (fun W2 U hST => V (R_assign rfl) (LW_nil (sq_n (CW_seq (CW_region (V (R_field fa83_0 rfl) (V (R_load rfl (load_box1 hST.has Mh rfl Tryz.isAgg3)) (V (R_field fa83_1 rfl) (V (R_load rfl (load_boxA hST.has Mh (encRole a.Head) rfl Tryz.isAgg47 Tryz.sizeOf47)) (V (R_build (qs := #[(0, (.int .i64 a.Kind)), (1, (.agg (encRole a.Head).toArray))]) (v := (.agg (encCred ((⟨a.Kind, a.Head, zS, (⟨zS, zS⟩ : Role), (⟨zS, zS⟩ : Role), zS⟩ : Cred))).toArray)) (parts2 rfl rfl) (run_build Tryz.zeroValue83 Tryz.underlying83 (pl83 _ Tryz.underlying83) (by kernel_rfl))) (VE (E_alloc hST Tryz.zeroValue83 (fun W4 T hST => ?_)))))))))))))))))
  refine VO (F_store (.agg (encCred ((⟨a.Kind, a.Head, zS, (⟨zS, zS⟩ : Role), (⟨zS, zS⟩ : Role), zS⟩ : Cred))).toArray) ((encCred ((⟨a.Kind, a.Head, zS, (⟨zS, zS⟩ : Role), (⟨zS, zS⟩ : Role), zS⟩ : Cred))).toArray) hST rfl rfl Tryz.sizeOf83 (oneCred ((⟨a.Kind, a.Head, zS, (⟨zS, zS⟩ : Role), (⟨zS, zS⟩ : Role), zS⟩ : Cred))) (Nat.le_of_ble_eq_true rfl) rfl (fun W5 hST => LW_nil (sq_n (CW_seq (CW_region (V (R_field fa83_1 rfl) (V (R_load rfl (load_boxA hST.has (Mt Mh) (encRole a.Head) rfl Tryz.isAgg47 Tryz.sizeOf47)) ?_)))))))
  obtain ⟨r6, k6, hm⟩ := bind_some hm
  refine VE (E_gives (args := [(.agg (encRole a.Head).toArray)]) hST rfl Tryz.call131 (by exact args1 rfl) ((w_role_Right a.Head _ _  k6)) (fun W8 hST => V (R_assign rfl) (LW_nil (sq_n (CW_seq ?_)))))
  obtain ⟨Y, c, Q⟩ := bind_some hm
  refine CW_cut (fun E W => ∃ (c2 : Bool) (a2 : Cred) (e8 : List (Nat × Obj)), ST true NoF w W (hp w) ((T, Obj.cells ((encCred a2).toArray : Array Value) 83 (0, 0)) :: ((U, Obj.cells ((encCred a).toArray : Array Value) 83 (0, 0)) :: e8)) ∧ E 1 = (.pointer (some ⟨U, 0, none⟩)) ∧ E 3 = (.pointer (some ⟨T, 0, none⟩)) ∧ E 4 = (.bool c2) ∧ (((if c2 then some ((beqCred a2 a)) else some false) : Option Bool).bind fun a3 => some a3) = some r) ?_ ?_
  · refine CW_seq (CW_region (V (R_field fa83_0 rfl) (V (R_load rfl (load_box1 hST.has (Mt Mh) rfl Tryz.isAgg3)) (LW_nil (sq_n (CW_block (CW_seq (CW_region (V (R_int rfl rfl rfl) (V (R_assign rfl) (LW_nil (sq_n (CW_if (b := (a.Kind == 1)) rfl (fun b2 => ?_) (fun b2 => ?_))))))))))))))
    · replace c := if_t b2 c
      replace hST := hST.drew
      have hS0 := hST.has.sel (Db (Kb Sn))
      refine PX_start1 hS0 Tryz_mixed (X 0 rfl hS0 (R_field fa83_2 rfl) (XH 1 rfl hS0 (fun _ hS => R_load rfl (load_box1 hS Mh rfl Tryz.isAgg9)) (X 2 rfl hS0 (R_move rfl) (X 3 rfl hS0 (R_move rfl) (X 8 rfl hS0 (R_field fa83_2 rfl) ?_)))))
      obtain ⟨m5, i, e0⟩ := bind_some c
      refine PX_join (J := fun E W => ∃ (c3 : Bool) (f0 : List (Nat × Obj)), ST true NoF w W (hp w) ((T, Obj.cells ((encCred ((⟨a.Kind, a.Head, zS, (⟨zS, zS⟩ : Role), (⟨zS, zS⟩ : Role), zS⟩ : Cred))).toArray : Array Value) 83 (0, 0)) :: ((U, Obj.cells ((encCred a).toArray : Array Value) 83 (0, 0)) :: f0)) ∧ E 1 = (.pointer (some ⟨U, 0, none⟩)) ∧ E 3 = (.pointer (some ⟨T, 0, none⟩)) ∧ E 4 = (.bool r6) ∧ E 18 = (.string a.Who) ∧ E 24 = (.bool c3) ∧ E 25 = (.pointer (some ⟨T, 3, none⟩)) ∧ some (Sum.inr (c3, ((⟨a.Kind, a.Head, a.Who, (⟨zS, zS⟩ : Role), (⟨zS, zS⟩ : Role), zS⟩ : Cred)))) = some Y) #[true, true, true, true, true, true, true, true, true, false, false] 2 ?_ (fun c8 => ?_)
      · rintro E W ⟨c3, f0, hST, i2, i3, m0, i4, i5, i6, b8⟩
        have hS0 := hST.has.sel (Db (Kb Sn))
        refine XO 9 rfl (F_store (.string a.Who) ((encCred ((⟨a.Kind, a.Head, a.Who, (⟨zS, zS⟩ : Role), (⟨zS, zS⟩ : Role), zS⟩ : Cred))).toArray) hST i6 i4 Tryz.sizeOf9 (oneS a.Who) (Nat.le_of_ble_eq_true rfl) rfl (fun k7 hST => ?_))
        have hS0 := hST.has.sel (Db (Kb Sn))
        refine ⟨hS0, (X 10 rfl hS0 (R_assign i5) (PX_done (by kernel_rfl) (bq_n (sq_n ?_))))⟩
        replace b8 := Option.some.inj b8; subst b8
        exact ⟨c3, ((⟨a.Kind, a.Head, a.Who, (⟨zS, zS⟩ : Role), (⟨zS, zS⟩ : Role), zS⟩ : Cred)), _, (hST.sel St), i2, i3, rfl, Q⟩
      rcases bool_cases r6 with B | B
      · replace i := if_t B i
        refine Xg 4 rfl rfl (congrArg Value.bool B) hS0 (R_field fa83_2 rfl) (XgH 5 rfl rfl (congrArg Value.bool B) hS0 (fun _ hS => R_load rfl (load_box1 hS Mh rfl Tryz.isAgg9)) ?_)
        obtain ⟨k2, h1, i⟩ := bind_some i
        refine XgE 6 rfl rfl (congrArg Value.bool B) (E_gives (args := [(.string a.Who)]) hST rfl Tryz.call134 (by exact args1 rfl) ((w_name_Right a.Who _ _  h1)) (fun k8 hST => ?_))
        have hS0 := hST.has.sel (Db (Kb Sn))
        refine ⟨hS0, (X 7 rfl hS0 (R_pickT (congrArg Value.bool B) rfl) ?_)⟩
        replace i := Option.some.inj i; subst i
        refine PX_at (by kernel_rfl) (c8 _ _ ⟨k2, _, (hST.sel St), rfl, rfl, rfl, rfl, rfl, rfl, e0⟩)
      replace i := if_f B i
      refine Xn 4 rfl rfl (congrArg Value.bool B) hS0 (Xn 5 rfl rfl (congrArg Value.bool B) hS0 (Xn 6 rfl rfl (congrArg Value.bool B) hS0 (X 7 rfl hS0 (R_pickF (congrArg Value.bool B) rfl) ?_)))
      replace i := Option.some.inj i; subst i
      refine PX_at (by kernel_rfl) (c8 _ _ ⟨false, _, (hST.sel St), rfl, rfl, rfl, rfl, rfl, rfl, e0⟩)
    replace c := if_f b2 c
    refine CW_seq (CW_region (V (R_int rfl rfl rfl) (V (R_assign rfl) (LW_nil (sq_n (CW_if (b := (a.Kind == 2)) rfl (fun b4 => ?_) (fun b4 => ?_)))))))
    · replace c := if_t b4 c
      replace hST := hST.drew
      have hS0 := hST.has.sel (Db (Kb Sn))
      refine PX_start1 hS0 Tryz_mixed (X 0 rfl hS0 (R_field fa83_3 rfl) (XH 1 rfl hS0 (fun _ hS => R_load rfl (load_boxA hS Mh (encRole a.B) rfl Tryz.isAgg47 Tryz.sizeOf47)) (X 2 rfl hS0 (R_move rfl) (X 3 rfl hS0 (R_move rfl) (X 8 rfl hS0 (R_field fa83_3 rfl) ?_)))))
      obtain ⟨m6, j, e1⟩ := bind_some c
      refine PX_join (J := fun E W => ∃ (c4 : Bool) (f1 : List (Nat × Obj)), ST true NoF w W (hp w) ((T, Obj.cells ((encCred ((⟨a.Kind, a.Head, zS, (⟨zS, zS⟩ : Role), (⟨zS, zS⟩ : Role), zS⟩ : Cred))).toArray : Array Value) 83 (0, 0)) :: ((U, Obj.cells ((encCred a).toArray : Array Value) 83 (0, 0)) :: f1)) ∧ E 1 = (.pointer (some ⟨U, 0, none⟩)) ∧ E 3 = (.pointer (some ⟨T, 0, none⟩)) ∧ E 4 = (.bool r6) ∧ E 29 = (.agg (encRole a.B).toArray) ∧ E 35 = (.bool c4) ∧ E 36 = (.pointer (some ⟨T, 4, none⟩)) ∧ some (Sum.inr (c4, ((⟨a.Kind, a.Head, zS, a.B, (⟨zS, zS⟩ : Role), zS⟩ : Cred)))) = some Y) #[true, true, true, true, true, true, true, true, true, false, false] 2 ?_ (fun c9 => ?_)
      · rintro E W ⟨c4, f1, hST, i7, i8, m1, i9, j0, j1, b9⟩
        have hS0 := hST.has.sel (Db (Kb Sn))
        refine XO 9 rfl (F_store (.agg (encRole a.B).toArray) ((encCred ((⟨a.Kind, a.Head, zS, a.B, (⟨zS, zS⟩ : Role), zS⟩ : Cred))).toArray) hST j1 i9 Tryz.sizeOf47 (oneRole a.B) (Nat.le_of_ble_eq_true rfl) rfl (fun k9 hST => ?_))
        have hS0 := hST.has.sel (Db (Kb Sn))
        refine ⟨hS0, (X 10 rfl hS0 (R_assign j0) (PX_done (by kernel_rfl) (bq_n (sq_n ?_))))⟩
        replace b9 := Option.some.inj b9; subst b9
        exact ⟨c4, ((⟨a.Kind, a.Head, zS, a.B, (⟨zS, zS⟩ : Role), zS⟩ : Cred)), _, (hST.sel St), i7, i8, rfl, Q⟩
      rcases bool_cases r6 with D | D
      · replace j := if_t D j
        refine Xg 4 rfl rfl (congrArg Value.bool D) hS0 (R_field fa83_3 rfl) (XgH 5 rfl rfl (congrArg Value.bool D) hS0 (fun _ hS => R_load rfl (load_boxA hS Mh (encRole a.B) rfl Tryz.isAgg47 Tryz.sizeOf47)) ?_)
        obtain ⟨k3, h2, j⟩ := bind_some j
        refine XgE 6 rfl rfl (congrArg Value.bool D) (E_gives (args := [(.agg (encRole a.B).toArray)]) hST rfl Tryz.call131 (by exact args1 rfl) ((w_role_Right a.B _ _  h2)) (fun l0 hST => ?_))
        have hS0 := hST.has.sel (Db (Kb Sn))
        refine ⟨hS0, (X 7 rfl hS0 (R_pickT (congrArg Value.bool D) rfl) ?_)⟩
        replace j := Option.some.inj j; subst j
        refine PX_at (by kernel_rfl) (c9 _ _ ⟨k3, _, (hST.sel St), rfl, rfl, rfl, rfl, rfl, rfl, e1⟩)
      replace j := if_f D j
      refine Xn 4 rfl rfl (congrArg Value.bool D) hS0 (Xn 5 rfl rfl (congrArg Value.bool D) hS0 (Xn 6 rfl rfl (congrArg Value.bool D) hS0 (X 7 rfl hS0 (R_pickF (congrArg Value.bool D) rfl) ?_)))
      replace j := Option.some.inj j; subst j
      refine PX_at (by kernel_rfl) (c9 _ _ ⟨false, _, (hST.sel St), rfl, rfl, rfl, rfl, rfl, rfl, e1⟩)
    replace c := if_f b4 c
    refine CW_seq (CW_region (V (R_int rfl rfl rfl) (V (R_assign rfl) (LW_nil (sq_n (CW_if (b := (a.Kind == 3)) rfl (fun b5 => ?_) (fun b5 => ?_)))))))
    · replace c := if_t b5 c
      refine CW_seq ?_
      replace hST := hST.drew
      have hS0 := hST.has.sel (Db (Kb Sn))
      refine PX_start1 hS0 Tryz_mixed (X 0 rfl hS0 (R_field fa83_3 rfl) (XH 1 rfl hS0 (fun _ hS => R_load rfl (load_boxA hS Mh (encRole a.B) rfl Tryz.isAgg47 Tryz.sizeOf47)) (X 2 rfl hS0 (R_field fa83_5 rfl) (XH 3 rfl hS0 (fun _ hS => R_load rfl (load_box1 hS Mh rfl Tryz.isAgg9)) (X 4 rfl hS0 (R_field fa83_3 rfl) (XO 5 rfl (F_store (.agg (encRole a.B).toArray) ((encCred ((⟨a.Kind, a.Head, zS, a.B, (⟨zS, zS⟩ : Role), zS⟩ : Cred))).toArray) hST rfl rfl Tryz.sizeOf47 (oneRole a.B) (Nat.le_of_ble_eq_true rfl) rfl (fun l1 hST => ?_))))))))
      have hS0 := hST.has.sel (Db (Kb Sn))
      refine ⟨hS0, (X 6 rfl hS0 (R_field fa83_5 rfl) (XO 7 rfl (F_store (.string a.Word2) ((encCred ((⟨a.Kind, a.Head, zS, a.B, (⟨zS, zS⟩ : Role), a.Word2⟩ : Cred))).toArray) hST rfl rfl Tryz.sizeOf9 (oneS a.Word2) (Nat.le_of_ble_eq_true rfl) rfl (fun l2 hST => ?_))))⟩
      have hS0 := hST.has.sel (Db (Kb Sn))
      refine ⟨hS0, (PX_done (by kernel_rfl) (sq_n (CW_region (V (R_move rfl) (V (R_move rfl) ?_)))))⟩
      obtain ⟨m9, t, e4⟩ := bind_some c
      refine LW_join (J := fun E W => ∃ (c5 : Bool) (f2 : List (Nat × Obj)), ST true NoF w W (hp w) ((T, Obj.cells ((encCred ((⟨a.Kind, a.Head, zS, a.B, (⟨zS, zS⟩ : Role), a.Word2⟩ : Cred))).toArray : Array Value) 83 (0, 0)) :: ((U, Obj.cells ((encCred a).toArray : Array Value) 83 (0, 0)) :: f2)) ∧ E 1 = (.pointer (some ⟨U, 0, none⟩)) ∧ E 3 = (.pointer (some ⟨T, 0, none⟩)) ∧ E 4 = (.bool r6) ∧ E 50 = (.bool c5) ∧ (((if c5 then some ((beqS a.B.Owner a.Head.Owner)) else some false) : Option Bool).bind fun a4 => (((if a4 then (((m_name_Right a.Word2)).bind fun a7 => some a7) else some false) : Option Bool).bind fun Z => some (Sum.inr (Z, ((⟨a.Kind, a.Head, zS, a.B, (⟨zS, zS⟩ : Role), a.Word2⟩ : Cred)))))) = some Y) 4 ?_ (fun d2 => ?_)
      · rintro E W ⟨c5, f2, hST, a9, f8, f9, j2, g7⟩
        refine V (R_move j2) ?_
        obtain ⟨m8, N, e3⟩ := bind_some g7
        refine LW_join (J := fun E W => ∃ (a4 : Bool) (f3 : List (Nat × Obj)), ST true NoF w W (hp w) ((T, Obj.cells ((encCred ((⟨a.Kind, a.Head, zS, a.B, (⟨zS, zS⟩ : Role), a.Word2⟩ : Cred))).toArray : Array Value) 83 (0, 0)) :: ((U, Obj.cells ((encCred a).toArray : Array Value) 83 (0, 0)) :: f3)) ∧ E 1 = (.pointer (some ⟨U, 0, none⟩)) ∧ E 3 = (.pointer (some ⟨T, 0, none⟩)) ∧ E 4 = (.bool r6) ∧ E 59 = (.bool a4) ∧ (((if a4 then (((m_name_Right a.Word2)).bind fun a7 => some a7) else some false) : Option Bool).bind fun Z => some (Sum.inr (Z, ((⟨a.Kind, a.Head, zS, a.B, (⟨zS, zS⟩ : Role), a.Word2⟩ : Cred))))) = some Y) 8 ?_ (fun d1 => ?_)
        · rintro E W ⟨a4, f3, hST, d6, g0, g1, j3, g8⟩
          refine V (R_move j3) ?_
          obtain ⟨m7, k, e2⟩ := bind_some g8
          refine LW_join (J := fun E W => ∃ (Z : Bool) (f4 : List (Nat × Obj)), ST true NoF w W (hp w) ((T, Obj.cells ((encCred ((⟨a.Kind, a.Head, zS, a.B, (⟨zS, zS⟩ : Role), a.Word2⟩ : Cred))).toArray : Array Value) 83 (0, 0)) :: ((U, Obj.cells ((encCred a).toArray : Array Value) 83 (0, 0)) :: f4)) ∧ E 1 = (.pointer (some ⟨U, 0, none⟩)) ∧ E 3 = (.pointer (some ⟨T, 0, none⟩)) ∧ E 4 = (.bool r6) ∧ E 64 = (.bool Z) ∧ some (Sum.inr (Z, ((⟨a.Kind, a.Head, zS, a.B, (⟨zS, zS⟩ : Role), a.Word2⟩ : Cred)))) = some Y) 4 ?_ (fun d0 => ?_)
          · rintro E W ⟨Z, f4, hST, j4, j5, m2, j6, c0⟩
            refine V (R_assign j6) (LW_nil (bq_n (sq_n ?_)))
            replace c0 := Option.some.inj c0; subst c0
            exact ⟨Z, ((⟨a.Kind, a.Head, zS, a.B, (⟨zS, zS⟩ : Role), a.Word2⟩ : Cred)), _, (hST.sel St), j4, j5, rfl, Q⟩
          rcases bool_cases a4 with H | H
          · replace k := if_t H k
            refine Vg rfl (congrArg Value.bool H) (R_field fa83_5 d6) (Vg rfl (congrArg Value.bool H) (R_load rfl (load_box1 hST.has (Mt Mh) rfl Tryz.isAgg9)) ?_)
            obtain ⟨a7, h3, k⟩ := bind_some k
            refine VgE rfl (congrArg Value.bool H) (E_gives (args := [(.string a.Word2)]) hST rfl Tryz.call134 (by exact args1 rfl) ((w_name_Right a.Word2 _ _  h3)) (fun l3 hST => V (R_pickT (congrArg Value.bool H) rfl) ?_))
            replace k := Option.some.inj k; subst k
            exact d0 _ _ ⟨a7, _, (hST.sel St), d6, g0, g1, rfl, e2⟩
          replace k := if_f H k
          refine Vn rfl (congrArg Value.bool H) (Vn rfl (congrArg Value.bool H) (Vn rfl (congrArg Value.bool H) (V (R_pickF (congrArg Value.bool H) rfl) ?_)))
          replace k := Option.some.inj k; subst k
          exact d0 _ _ ⟨false, _, (hST.sel St), d6, g0, g1, rfl, e2⟩
        rcases bool_cases c5 with f | f
        · replace N := if_t f N
          refine Vg rfl (congrArg Value.bool f) (R_field fa83_3 a9) (Vg rfl (congrArg Value.bool f) (R_field fa47_0 rfl) (Vg rfl (congrArg Value.bool f) (R_load rfl (load_box1 hST.has (Mt Mh) rfl Tryz.isAgg9)) (Vg rfl (congrArg Value.bool f) (R_field fa83_1 a9) (Vg rfl (congrArg Value.bool f) (R_field fa47_0 rfl) (Vg rfl (congrArg Value.bool f) (R_load rfl (load_box1 hST.has (Mt Mh) rfl Tryz.isAgg9)) (Vg rfl (congrArg Value.bool f) (R_str rfl rfl rfl) (V (R_pickT (congrArg Value.bool f) rfl) ?_)))))))
          replace N := Option.some.inj N; subst N
          exact d1 _ _ ⟨((beqS a.B.Owner a.Head.Owner)), _, (hST.sel St), a9, f8, f9, rfl, e3⟩
        replace N := if_f f N
        refine Vn rfl (congrArg Value.bool f) (Vn rfl (congrArg Value.bool f) (Vn rfl (congrArg Value.bool f) (Vn rfl (congrArg Value.bool f) (Vn rfl (congrArg Value.bool f) (Vn rfl (congrArg Value.bool f) (Vn rfl (congrArg Value.bool f) (V (R_pickF (congrArg Value.bool f) rfl) ?_)))))))
        replace N := Option.some.inj N; subst N
        exact d1 _ _ ⟨false, _, (hST.sel St), a9, f8, f9, rfl, e3⟩
      rcases bool_cases r6 with G | G
      · replace t := if_t G t
        refine Vg rfl (congrArg Value.bool G) (R_field fa83_3 rfl) (Vg rfl (congrArg Value.bool G) (R_load rfl (load_boxA hST.has (Mt Mh) (encRole a.B) rfl Tryz.isAgg47 Tryz.sizeOf47)) ?_)
        obtain ⟨k4, h4, t⟩ := bind_some t
        refine VgE rfl (congrArg Value.bool G) (E_gives (args := [(.agg (encRole a.B).toArray)]) hST rfl Tryz.call131 (by exact args1 rfl) ((w_role_Right a.B _ _  h4)) (fun l4 hST => V (R_pickT (congrArg Value.bool G) rfl) ?_))
        replace t := Option.some.inj t; subst t
        exact d2 _ _ ⟨k4, _, (hST.sel St), rfl, rfl, rfl, rfl, e4⟩
      replace t := if_f G t
      refine Vn rfl (congrArg Value.bool G) (Vn rfl (congrArg Value.bool G) (Vn rfl (congrArg Value.bool G) (V (R_pickF (congrArg Value.bool G) rfl) ?_)))
      replace t := Option.some.inj t; subst t
      exact d2 _ _ ⟨false, _, (hST.sel St), rfl, rfl, rfl, rfl, e4⟩
    replace c := if_f b5 c
    refine CW_seq (CW_region (V (R_int rfl rfl rfl) (V (R_assign rfl) (LW_nil (sq_n (CW_if (b := (a.Kind == 4)) rfl (fun b6 => ?_) (fun b6 => ?_)))))))
    · replace c := if_t b6 c
      refine CW_seq ?_
      replace hST := hST.drew
      have hS0 := hST.has.sel (Db (Kb Sn))
      refine PX_start1 hS0 Tryz_mixed (X 0 rfl hS0 (R_field fa83_3 rfl) (XH 1 rfl hS0 (fun _ hS => R_load rfl (load_boxA hS Mh (encRole a.B) rfl Tryz.isAgg47 Tryz.sizeOf47)) (X 2 rfl hS0 (R_field fa83_4 rfl) (XH 3 rfl hS0 (fun _ hS => R_load rfl (load_boxA hS Mh (encRole a.C) rfl Tryz.isAgg47 Tryz.sizeOf47)) (X 4 rfl hS0 (R_field fa83_3 rfl) (XO 5 rfl (F_store (.agg (encRole a.B).toArray) ((encCred ((⟨a.Kind, a.Head, zS, a.B, (⟨zS, zS⟩ : Role), zS⟩ : Cred))).toArray) hST rfl rfl Tryz.sizeOf47 (oneRole a.B) (Nat.le_of_ble_eq_true rfl) rfl (fun l5 hST => ?_))))))))
      have hS0 := hST.has.sel (Db (Kb Sn))
      refine ⟨hS0, (X 6 rfl hS0 (R_field fa83_4 rfl) (XO 7 rfl (F_store (.agg (encRole a.C).toArray) ((encCred ((⟨a.Kind, a.Head, zS, a.B, a.C, zS⟩ : Cred))).toArray) hST rfl rfl Tryz.sizeOf47 (oneRole a.C) (Nat.le_of_ble_eq_true rfl) rfl (fun l6 hST => ?_))))⟩
      have hS0 := hST.has.sel (Db (Kb Sn))
      refine ⟨hS0, (PX_done (by kernel_rfl) (sq_n (CW_region (V (R_move rfl) (V (R_move rfl) ?_)))))⟩
      obtain ⟨n2, y, e7⟩ := bind_some c
      refine LW_join (J := fun E W => ∃ (c6 : Bool) (f5 : List (Nat × Obj)), ST true NoF w W (hp w) ((T, Obj.cells ((encCred ((⟨a.Kind, a.Head, zS, a.B, a.C, zS⟩ : Cred))).toArray : Array Value) 83 (0, 0)) :: ((U, Obj.cells ((encCred a).toArray : Array Value) 83 (0, 0)) :: f5)) ∧ E 1 = (.pointer (some ⟨U, 0, none⟩)) ∧ E 3 = (.pointer (some ⟨T, 0, none⟩)) ∧ E 4 = (.bool r6) ∧ E 78 = (.bool c6) ∧ (((if c6 then (((m_role_Right a.C)).bind fun d8 => some d8) else some false) : Option Bool).bind fun a5 => (((if a5 then (((m_role_Compare a.B a.C)).bind fun a8 => some ((decide (a8 < 0)))) else some false) : Option Bool).bind fun a1 => some (Sum.inr (a1, ((⟨a.Kind, a.Head, zS, a.B, a.C, zS⟩ : Cred)))))) = some Y) 4 ?_ (fun d5 => ?_)
      · rintro E W ⟨c6, f5, hST, d7, g2, g3, j7, g9⟩
        refine V (R_move j7) ?_
        obtain ⟨n1, x, e6⟩ := bind_some g9
        refine LW_join (J := fun E W => ∃ (a5 : Bool) (f6 : List (Nat × Obj)), ST true NoF w W (hp w) ((T, Obj.cells ((encCred ((⟨a.Kind, a.Head, zS, a.B, a.C, zS⟩ : Cred))).toArray : Array Value) 83 (0, 0)) :: ((U, Obj.cells ((encCred a).toArray : Array Value) 83 (0, 0)) :: f6)) ∧ E 1 = (.pointer (some ⟨U, 0, none⟩)) ∧ E 3 = (.pointer (some ⟨T, 0, none⟩)) ∧ E 4 = (.bool r6) ∧ E 83 = (.bool a5) ∧ (((if a5 then (((m_role_Compare a.B a.C)).bind fun a8 => some ((decide (a8 < 0)))) else some false) : Option Bool).bind fun a1 => some (Sum.inr (a1, ((⟨a.Kind, a.Head, zS, a.B, a.C, zS⟩ : Cred))))) = some Y) 4 ?_ (fun d4 => ?_)
        · rintro E W ⟨a5, f6, hST, b0, g4, g5, j8, h0⟩
          refine V (R_move j8) ?_
          obtain ⟨n0, u, e5⟩ := bind_some h0
          refine LW_join (J := fun E W => ∃ (a1 : Bool) (f7 : List (Nat × Obj)), ST true NoF w W (hp w) ((T, Obj.cells ((encCred ((⟨a.Kind, a.Head, zS, a.B, a.C, zS⟩ : Cred))).toArray : Array Value) 83 (0, 0)) :: ((U, Obj.cells ((encCred a).toArray : Array Value) 83 (0, 0)) :: f7)) ∧ E 1 = (.pointer (some ⟨U, 0, none⟩)) ∧ E 3 = (.pointer (some ⟨T, 0, none⟩)) ∧ E 4 = (.bool r6) ∧ E 91 = (.bool a1) ∧ some (Sum.inr (a1, ((⟨a.Kind, a.Head, zS, a.B, a.C, zS⟩ : Cred)))) = some Y) 7 ?_ (fun d3 => ?_)
          · rintro E W ⟨a1, f7, hST, j9, k0, m3, k1, c1⟩
            refine V (R_assign k1) (LW_nil (bq_n (sq_n ?_)))
            replace c1 := Option.some.inj c1; subst c1
            exact ⟨a1, ((⟨a.Kind, a.Head, zS, a.B, a.C, zS⟩ : Cred)), _, (hST.sel St), j9, k0, rfl, Q⟩
          rcases bool_cases a5 with g | g
          · replace u := if_t g u
            refine Vg rfl (congrArg Value.bool g) (R_field fa83_3 b0) (Vg rfl (congrArg Value.bool g) (R_load rfl (load_boxA hST.has (Mt Mh) (encRole a.B) rfl Tryz.isAgg47 Tryz.sizeOf47)) (Vg rfl (congrArg Value.bool g) (R_field fa83_4 b0) (Vg rfl (congrArg Value.bool g) (R_load rfl (load_boxA hST.has (Mt Mh) (encRole a.C) rfl Tryz.isAgg47 Tryz.sizeOf47)) ?_)))
            obtain ⟨a8, h5, u⟩ := bind_some u
            refine VgE rfl (congrArg Value.bool g) (E_gives (args := [(.agg (encRole a.B).toArray), (.agg (encRole a.C).toArray)]) hST rfl Tryz.call94 (by exact args2 rfl rfl) ((w_role_Compare a.B a.C _ _  h5)) (fun l7 hST => Vg rfl (congrArg Value.bool g) (R_int rfl rfl rfl) (V (R_pickT (congrArg Value.bool g) rfl) ?_)))
            replace u := Option.some.inj u; subst u
            exact d3 _ _ ⟨((decide (a8 < 0))), _, (hST.sel St), b0, g4, g5, rfl, e5⟩
          replace u := if_f g u
          refine Vn rfl (congrArg Value.bool g) (Vn rfl (congrArg Value.bool g) (Vn rfl (congrArg Value.bool g) (Vn rfl (congrArg Value.bool g) (Vn rfl (congrArg Value.bool g) (Vn rfl (congrArg Value.bool g) (V (R_pickF (congrArg Value.bool g) rfl) ?_))))))
          replace u := Option.some.inj u; subst u
          exact d3 _ _ ⟨false, _, (hST.sel St), b0, g4, g5, rfl, e5⟩
        rcases bool_cases c6 with K | K
        · replace x := if_t K x
          refine Vg rfl (congrArg Value.bool K) (R_field fa83_4 d7) (Vg rfl (congrArg Value.bool K) (R_load rfl (load_boxA hST.has (Mt Mh) (encRole a.C) rfl Tryz.isAgg47 Tryz.sizeOf47)) ?_)
          obtain ⟨d8, h6, x⟩ := bind_some x
          refine VgE rfl (congrArg Value.bool K) (E_gives (args := [(.agg (encRole a.C).toArray)]) hST rfl Tryz.call131 (by exact args1 rfl) ((w_role_Right a.C _ _  h6)) (fun l8 hST => V (R_pickT (congrArg Value.bool K) rfl) ?_))
          replace x := Option.some.inj x; subst x
          exact d4 _ _ ⟨d8, _, (hST.sel St), d7, g2, g3, rfl, e6⟩
        replace x := if_f K x
        refine Vn rfl (congrArg Value.bool K) (Vn rfl (congrArg Value.bool K) (Vn rfl (congrArg Value.bool K) (V (R_pickF (congrArg Value.bool K) rfl) ?_)))
        replace x := Option.some.inj x; subst x
        exact d4 _ _ ⟨false, _, (hST.sel St), d7, g2, g3, rfl, e6⟩
      rcases bool_cases r6 with I | I
      · replace y := if_t I y
        refine Vg rfl (congrArg Value.bool I) (R_field fa83_3 rfl) (Vg rfl (congrArg Value.bool I) (R_load rfl (load_boxA hST.has (Mt Mh) (encRole a.B) rfl Tryz.isAgg47 Tryz.sizeOf47)) ?_)
        obtain ⟨k5, h7, y⟩ := bind_some y
        refine VgE rfl (congrArg Value.bool I) (E_gives (args := [(.agg (encRole a.B).toArray)]) hST rfl Tryz.call131 (by exact args1 rfl) ((w_role_Right a.B _ _  h7)) (fun l9 hST => V (R_pickT (congrArg Value.bool I) rfl) ?_))
        replace y := Option.some.inj y; subst y
        exact d5 _ _ ⟨k5, _, (hST.sel St), rfl, rfl, rfl, rfl, e7⟩
      replace y := if_f I y
      refine Vn rfl (congrArg Value.bool I) (Vn rfl (congrArg Value.bool I) (Vn rfl (congrArg Value.bool I) (V (R_pickF (congrArg Value.bool I) rfl) ?_)))
      replace y := Option.some.inj y; subst y
      exact d5 _ _ ⟨false, _, (hST.sel St), rfl, rfl, rfl, rfl, e7⟩
    replace c := if_f b6 c
    refine CW_seq (CW_region (V (R_assign rfl) (LW_nil (sq_n ?_))))
    replace hST := hST.sel (Db (Db St))
    refine CW_ret (bq_r (sq_r ?_))
    replace c := Option.some.inj c; subst c
    replace Q : some false = some r := Q
    replace Q := Option.some.inj Q; subst Q
    exact retQ_1 (v := (.bool false)) rfl rfl ⟨rfl, hST.ex⟩
  rintro E W ⟨c2, a2, e8, hST, h8, h9, i0, g6⟩
  refine CW_seq (CW_region (V (R_move i0) (V (R_move rfl) ?_)))
  obtain ⟨m4, M, d9⟩ := bind_some g6
  refine LW_join (J := fun E W => ∃ (a3 : Bool) (e9 : List (Nat × Obj)), ST true NoF w W (hp w) e9 ∧ E 97 = (.bool a3) ∧ some a3 = some r) 4 ?_ (fun c7 => ?_)
  · rintro E W ⟨a3, e9, hST, i1, b7⟩
    refine V (R_assign i1) (LW_nil (sq_n (CW_ret ?_)))
    replace b7 := Option.some.inj b7; subst b7
    exact retQ_1 (v := (.bool a3)) rfl rfl ⟨rfl, hST.ex⟩
  rcases bool_cases c2 with z | z
  · replace M := if_t z M
    refine Vg rfl (congrArg Value.bool z) (R_load h9 (load_boxA hST.has Mh (encCred a2) rfl Tryz.isAgg83 Tryz.sizeOf83)) (Vg rfl (congrArg Value.bool z) (R_load h8 (load_boxA hST.has (Mt Mh) (encCred a) rfl Tryz.isAgg83 Tryz.sizeOf83)) (Vg rfl (congrArg Value.bool z) (R_eql rfl rfl (guard_agg Tryz.eqGuardType83) (bin_eql (eqInCred _ a2 a))) (V (R_pickT (congrArg Value.bool z) rfl) ?_)))
    replace M := Option.some.inj M; subst M
    exact c7 _ _ ⟨((beqCred a2 a)), _, (hST.sel (Db (Db St))), rfl, d9⟩
  replace M := if_f z M
  refine Vn rfl (congrArg Value.bool z) (Vn rfl (congrArg Value.bool z) (Vn rfl (congrArg Value.bool z) (V (R_pickF (congrArg Value.bool z) rfl) ?_)))
  replace M := Option.some.inj M; subst M
  exact c7 _ _ ⟨false, _, (hST.sel (Db (Db St))), rfl, d9⟩
theorem w_cred_Set_c1 (a : Cred) (r : Bool) (w : World)  (hm : m_cred_Set_c1 a = some r) :
    Gives true Tryz.prog 124 [(.agg (encCred a).toArray)] w (.bool r) := by
  have hST := ST.start (dd := true) w
  unfold m_cred_Set_c1 at hm
  refine calls_of_CW (n := 6) Tryz.func124 rfl rfl (Nat.le_of_ble_eq_true rfl) (CW_seq (CW_region (VE (E_box (v := (.agg (encCred a).toArray)) hST rfl (fun g j hST => V (R_assign rfl) (LW_nil (sq_n (CW_seq (CW_region (V (R_load rfl (load_boxA hST.has Mh (encCred a) rfl Tryz.isAgg83 Tryz.sizeOf83)) ?_))))))))))
  obtain ⟨f, c, hm⟩ := bind_some hm
  refine VE (E_gives (args := [(.agg (encCred a).toArray)]) hST rfl Tryz.call98 (by exact args1 rfl) ((w_cred_Right a _ _  c)) (fun i hST => V (R_not rfl) (V (R_assign rfl) (LW_nil (sq_n ?_)))))
  replace hST := hST.sel (Db St)
  refine CW_ret ?_
  replace hm := Option.some.inj hm; subst hm
  exact retQ_1 (v := (.bool ((!f)))) rfl rfl ⟨rfl, hST.ex⟩
theorem w_sortF125 (c : Value) (j : List Cred) (a : List (Nat × Obj)) (f : Value) (k : ((Cred × Cred)) → Option Int) (r : List Cred) (w : World) {u : Mem} (t : Ent u (a ++ []) w) (g : Row 83 encCred 9 c j a) (i : CbO Tryz.prog f u (fun (x : (Cred × Cred)) => [(.agg (encCred x.1).toArray), (.agg (encCred x.2).toArray)]) (fun (r : Int) => (.int .i64 r)) k) (hm : sortF k j = some r) :
    GivesM true Tryz.prog 125 [c, f] w (a ++ []) (fun v y W' => ∃ (S : List (Nat × Obj)), v = (.tuple #[]) ∧ y = (S ++ []) ∧ Row 83 encCred 9 c r S) := sortF_gives (P := Tryz.prog) (ρ := ren125) lay125 9 Tryz.isAgg83 Tryz.sizeOf83 encCred lenCred oneCred t.H t.S g i hm
theorem w_tape_Pen_Number_w (j : Nat) (i : Value) (D : List Int) (g : List (Nat × Obj)) (Z : Int) (r : (Bool × (List Int))) (w : World) {μ0 : Mem} (h0 : Ent μ0 ((j, Obj.cells (#[i] : Array Value) 221 (0, 0)) :: (g ++ [])) w) (x : Row 5 (encIk .u8) 1 i D g) (hm : m_tape_Pen_Number_w D Z = some r) :
    GivesM true Tryz.prog 203 [(.pointer (some ⟨j, 0, none⟩)), (.int .i64 Z)] w ((j, Obj.cells (#[i] : Array Value) 221 (0, 0)) :: (g ++ [])) (fun v L1 W' => ∃ (y1 : Value) (S2 : List (Nat × Obj)), v = (.bool (r.1)) ∧ L1 = ((j, Obj.cells (#[y1] : Array Value) 221 (0, 0)) :: (S2 ++ [])) ∧ Row 5 (encIk .u8) 1 y1 r.2 S2) := by
  have hST := ST.startE (dd := true) h0
  unfold m_tape_Pen_Number_w at hm
  refine calls_of_CW (n := 38) Tryz.func203 rfl rfl (Nat.le_of_ble_eq_true rfl) (CW_seq (CW_region (V (R_assign rfl) (LW_nil (sq_n (CW_seq (CW_seq (CW_region (V (R_move rfl) (V (R_ptrEqNil Tryz.underlying219 rfl rfl) (V (R_move rfl) (Vg rfl rfl (R_move rfl) (Vg rfl rfl (R_int rfl rfl rfl) (V (R_pickF rfl rfl) ?_))))))))))))))
  refine LW_nil (sq_n (CW_if (b := (decide (Z < 0))) rfl (fun T => ?_) (fun T => ?_)))
  · replace hm := if_t T hm
    refine CW_seq (CW_region (V (R_assign rfl) (LW_nil (sq_n (CW_ret (sq_r ?_))))))
    replace hm := Option.some.inj hm; subst hm
    exact retQ_1 (v := (.bool false)) rfl rfl ⟨_, _, rfl, (hST.bkM (Kb (Kr Sn))), i, g, rfl, rfl, x⟩
  replace hm := if_f T hm
  refine CW_skip (sq_n (CW_seq (CW_block (CW_loop (fun m E W => ∃ (f : Int) (y : Value) (Y : List Int) (t : List (Nat × Obj)) (a3 : List (Nat × Obj)), ST true (keys ((j, Obj.cells (#[i] : Array Value) 221 (0, 0)) :: (g ++ []))) w W μ0 ((j, Obj.cells (#[y] : Array Value) 221 (0, 0)) :: (t ++ a3)) ∧ E 0 = (.pointer (some ⟨j, 0, none⟩)) ∧ E 1 = (.int .i64 f) ∧ Row 5 (encIk .u8) 1 y Y t ∧ m_tape_Pen_Number_w_L1 m f Y = some r) FUEL ⟨Z, i, D, g, _, (hST.sel St), rfl, rfl, x, hm⟩ ?_))))
  rintro m E W ⟨f, y, Y, t, a3, hST, u, K, U, c⟩
  cases m with
  | zero => rw [m_tape_Pen_Number_w_L1] at c; cases c
  | succ a9 =>
    rw [m_tape_Pen_Number_w_L1] at c
    refine CW_seq (CW_seq (CW_region (V (R_move K) (V (R_int rfl rfl rfl) (LW_nil (sq_n (CW_if (b := (decide (f ≥ 128))) rfl (fun I => ?_) (fun I => ?_))))))))
    · replace c := if_t I c
      refine CW_skip (sq_n (CW_seq (CW_block (CW_region (V (R_move u) (V (R_move u) (V (R_nilCheck rfl) (V (R_field fa221_0 rfl) (V (R_load rfl (load_box1 hST.has Mh rfl Tryz.isAgg189)) (V (R_move K) (V (R_convInt (k' := .i64) (a := f) Tryz.underlying3 Tryz.underlying5 rfl) (V (R_div (k := .u8) (a := ((IntKind.u8.wrap f))) (b := 128) (v := (.int .u8 ((IntKind.u8.wrap (BitVec.ofInt (IntKind.bits .u8) ((IntKind.u8.wrap f)) ||| BitVec.ofInt (IntKind.bits .u8) 128).toNat)))) rfl rfl (by decide) rfl) (VE (E_buildSlice (qs := #[(0, (.int .u8 ((IntKind.u8.wrap (BitVec.ofInt (IntKind.bits .u8) ((IntKind.u8.wrap f)) ||| BitVec.ofInt (IntKind.bits .u8) 128).toNat))))]) (cs := [(.int .u8 ((IntKind.u8.wrap (BitVec.ofInt (IntKind.bits .u8) ((IntKind.u8.wrap f)) ||| BitVec.ofInt (IntKind.bits .u8) 128).toNat)))].toArray) hST (parts1 rfl) (run_lit [(.int .u8 ((IntKind.u8.wrap (BitVec.ofInt (IntKind.bits .u8) ((IntKind.u8.wrap f)) ||| BitVec.ofInt (IntKind.bits .u8) 128).toNat)))] Tryz.underlying189 Tryz.sizeOf5 Tryz.zeroValue5 (by decide) rfl (by intro v hv; simp only [List.mem_cons, List.not_mem_nil, or_false] at hv; rcases hv with rfl <;> rfl) rfl rfl) (fun c1 a8 hST => ?_)))))))))))))))
      replace hST := hST.perm (Nr (Qb (Qb Qz)) Nz)
      obtain ⟨Q, a0, c⟩ := bind_some c
      refine VE (F_append (enc := (encIk .u8)) (v := y) (vs := (.slice (some ⟨a8, 0, none⟩) 1 1)) (R := t) hST (fun _ => rfl) (by decide) (oneI _) Tryz.underlying189 info5.1 info5.2.1 rfl info5.2.2.1 info5.2.2.2 rfl rfl U (Sl.lit (enc := (encIk .u8)) (l := [(IntKind.u8.wrap (BitVec.ofInt (IntKind.bits .u8) ((IntKind.u8.wrap f)) ||| BitVec.ofInt (IntKind.bits .u8) 128).toNat)]) (fun _ => rfl) rfl (Nat.le_of_ble_eq_true rfl) rfl (hST.at_ (Ma Mh))) a0 (fun b3 b9 a4 hST M => V (R_nilCheck rfl) (V (R_field fa221_0 rfl) ?_)))
      obtain ⟨z, G, rfl⟩ := M.form
      replace hST := hST.perm (Nb (Pr (Pb Pz)) Nz)
      refine VO (F_store (.slice z Q.length G) (#[(.slice z Q.length G)]) hST rfl rfl Tryz.sizeOf189 (by simp [Value.cells, Value.oneCell']) (Nat.le_of_ble_eq_true rfl) rfl (fun b4 hST => LW_nil (bq_n (sq_n ?_))))
      replace hST := hST.sel (Kb (Kr (Db St)))
      exact CW_region (V (R_move K) (V (R_shr (a := f) (b := 7) rfl rfl (by decide)) (V (R_assign rfl) (LW_nil (sq_n ⟨a9, Nat.lt_succ_self _, ((Int.fdiv f (2 ^ min (Int.toNat 7) (IntKind.bits .i64)))), (.slice z Q.length G), Q, a4, _, (hST.sel St), u, rfl, M, c⟩)))))
    replace c := if_f I c
    refine CW_exit (sq_e (sq_e (bq_e (sq_n (CW_seq (CW_region (V (R_move u) (V (R_move u) (V (R_nilCheck rfl) (V (R_field fa221_0 rfl) (V (R_load rfl (load_box1 hST.has Mh rfl Tryz.isAgg189)) (V (R_move K) (V (R_convInt (k' := .i64) (a := f) Tryz.underlying3 Tryz.underlying5 rfl) (VE (E_buildSlice (qs := #[(0, (.int .u8 ((IntKind.u8.wrap f))))]) (cs := [(.int .u8 ((IntKind.u8.wrap f)))].toArray) hST (parts1 rfl) (run_lit [(.int .u8 ((IntKind.u8.wrap f)))] Tryz.underlying189 Tryz.sizeOf5 Tryz.zeroValue5 (by decide) rfl (by intro v hv; simp only [List.mem_cons, List.not_mem_nil, or_false] at hv; rcases hv with rfl <;> rfl) rfl rfl) (fun b5 a6 hST => ?_))))))))))))))))
    replace hST := hST.perm (Nr (Qb (Qb Qz)) Nz)
    obtain ⟨J, a2, c⟩ := bind_some c
    refine VE (F_append (enc := (encIk .u8)) (v := y) (vs := (.slice (some ⟨a6, 0, none⟩) 1 1)) (R := t) hST (fun _ => rfl) (by decide) (oneI _) Tryz.underlying189 info5.1 info5.2.1 rfl info5.2.2.1 info5.2.2.2 rfl rfl U (Sl.lit (enc := (encIk .u8)) (l := [(IntKind.u8.wrap f)]) (fun _ => rfl) rfl (Nat.le_of_ble_eq_true rfl) rfl (hST.at_ (Ma Mh))) a2 (fun b6 c0 a5 hST N => V (R_nilCheck rfl) (V (R_field fa221_0 rfl) ?_)))
    obtain ⟨B, H, rfl⟩ := N.form
    replace hST := hST.perm (Nb (Pr (Pb Pz)) Nz)
    refine VO (F_store (.slice B J.length H) (#[(.slice B J.length H)]) hST rfl rfl Tryz.sizeOf189 (by simp [Value.cells, Value.oneCell']) (Nat.le_of_ble_eq_true rfl) rfl (fun b7 hST => LW_nil (sq_n ?_)))
    replace hST := hST.sel (Kb (Kr (Db St)))
    refine CW_seq (CW_region (V (R_assign rfl) (LW_nil (sq_n (CW_ret ?_)))))
    replace c := Option.some.inj c; subst c
    exact retQ_1 (v := (.bool true)) rfl rfl ⟨_, _, rfl, (hST.bkM (Kb (Kr Sn))), (.slice B J.length H), a5, rfl, rfl, N⟩
theorem w_tape_Pen_Text_w (f : Nat) (c : Value) (i : List Int) (a : List (Nat × Obj)) (t : Value) (x : List Int) (r : (Bool × (List Int))) (w : World) {Y : Mem} (h0 : Ent Y ((f, Obj.cells (#[c] : Array Value) 221 (0, 0)) :: (a ++ [])) w) (g : Row 5 (encIk .u8) 1 c i a) (j : Sl (Pl (encIk .u8)) 1 Y t x) (hm : m_tape_Pen_Text_w i x = some r) :
    GivesM true Tryz.prog 239 [(.pointer (some ⟨f, 0, none⟩)), t] w ((f, Obj.cells (#[c] : Array Value) 221 (0, 0)) :: (a ++ [])) (fun v Z W' => ∃ (T : Value) (M : List (Nat × Obj)), v = (.bool (r.1)) ∧ Z = ((f, Obj.cells (#[T] : Array Value) 221 (0, 0)) :: (M ++ [])) ∧ Row 5 (encIk .u8) 1 T r.2 M) := by
  have hST := ST.startE (dd := true) h0
  unfold m_tape_Pen_Text_w at hm
  refine calls_of_CW (n := 25) Tryz.func239 rfl rfl (Nat.le_of_ble_eq_true rfl) (CW_seq (CW_region (V (R_assign rfl) (LW_nil (sq_n (CW_seq (CW_seq (CW_region (V (R_move rfl) (V (R_ptrEqNil Tryz.underlying219 rfl rfl) (V (R_move rfl) (Vg rfl rfl (R_move rfl) (Vg rfl rfl (R_len Tryz.underlying189 rfl j) (Vg rfl rfl (R_int rfl rfl rfl) ?_))))))))))))))
  refine V (R_pickF rfl rfl) (LW_nil (sq_n (CW_if (b := (decide (((x.length : Int)) > 2048))) rfl (fun B => ?_) (fun B => ?_))))
  · replace hm := if_t B hm
    refine CW_seq (CW_region (V (R_assign rfl) (LW_nil (sq_n (CW_ret (sq_r ?_))))))
    replace hm := Option.some.inj hm; subst hm
    exact retQ_1 (v := (.bool false)) rfl rfl ⟨_, _, rfl, (hST.bkM (Kb (Kr Sn))), c, a, rfl, rfl, g⟩
  replace hm := if_f B hm
  refine CW_skip (sq_n (CW_seq (CW_region (V (R_move rfl) (V (R_move rfl) (V (R_len Tryz.underlying189 rfl j) ?_))))))
  obtain ⟨r2, Q, hm⟩ := bind_some hm
  have hsz := hST.size
  refine VE (E_callM (args := [(.pointer (some ⟨f, 0, none⟩)), (.int .i64 ((x.length : Int)))]) (caps := #[]) _ _ hST (Cb Pz (Cr Qz Cn)) rfl Tryz.call203 (by exact args2 rfl rfl) (fun hH hN hsb hmm => (w_tape_Pen_Number_w f c i a ((x.length : Int)) _ _ ⟨hH, hN, Sub.refl _⟩ g Q)) (fun W4 v7 μ5 L9 hST H hlift N => ?_))
  obtain ⟨U, K, k, rfl, I⟩ := N
  replace k := k.symm; subst k
  replace hST := hST.perm (Tb (Tr Tn))
  refine LW_nil (sq_n (CW_seq (CW_region (V (R_move rfl) (V (R_move rfl) (V (R_nilCheck rfl) (V (R_field fa221_0 rfl) (V (R_load rfl (load_box1 hST.has Mh rfl Tryz.isAgg189)) (V (R_move rfl) ?_)))))))))
  replace hST := hST.perm (Nr (Qb Qz) Nz)
  obtain ⟨D, G, hm⟩ := bind_some hm
  refine VE (F_append (enc := (encIk .u8)) (v := U) (vs := t) (R := K) hST (fun _ => rfl) (by decide) (oneI _) Tryz.underlying189 info5.1 info5.2.1 rfl info5.2.2.1 info5.2.2.2 rfl rfl I (j.mono (Pl.mono _) (H.trans hST.sub_hp)) G (fun a2 a4 J hST z => V (R_nilCheck rfl) (V (R_field fa221_0 rfl) ?_)))
  obtain ⟨u, y, rfl⟩ := z.form
  replace hST := hST.perm (Nb (Pr Pz) Nz)
  refine VO (F_store (.slice u D.length y) (#[(.slice u D.length y)]) hST rfl rfl Tryz.sizeOf189 (by simp [Value.cells, Value.oneCell']) (Nat.le_of_ble_eq_true rfl) rfl (fun a3 hST => LW_nil (sq_n (CW_seq (CW_region (V (R_assign rfl) (LW_nil (sq_n (CW_ret ?_)))))))))
  replace hm := Option.some.inj hm; subst hm
  exact retQ_1 (v := (.bool true)) rfl rfl ⟨_, _, rfl, (hST.bkM (Kb (Kr Sn))), (.slice u D.length y), J, rfl, rfl, z⟩
theorem w_name_Put_w (i : Nat) (g : Value) (j : List Int) (c : List (Nat × Obj)) (I : ByteArray) (r : (Bool × (List Int))) (w : World) {μ0 : Mem} (h0 : Ent μ0 ((i, Obj.cells (#[g] : Array Value) 221 (0, 0)) :: (c ++ [])) w) (k : Row 5 (encIk .u8) 1 g j c) (hm : m_name_Put_w j I = some r) :
    GivesM true Tryz.prog 205 [(.pointer (some ⟨i, 0, none⟩)), (.string I)] w ((i, Obj.cells (#[g] : Array Value) 221 (0, 0)) :: (c ++ [])) (fun v L1 W' => ∃ (y1 : Value) (S2 : List (Nat × Obj)), v = (.bool (r.1)) ∧ L1 = ((i, Obj.cells (#[y1] : Array Value) 221 (0, 0)) :: (S2 ++ [])) ∧ Row 5 (encIk .u8) 1 y1 r.2 S2) := by
  have hST := ST.startE (dd := true) h0
  unfold m_name_Put_w at hm
  refine calls_of_CW (n := 17) Tryz.func205 rfl rfl (Nat.le_of_ble_eq_true rfl) (CW_seq (CW_region (V (R_assign rfl) (LW_nil (sq_n (CW_seq (CW_region (V (R_move rfl) (V (R_ptrNeNil Tryz.underlying219 rfl rfl) (V (R_move rfl) (Vg rfl rfl (R_move rfl) ?_)))))))))))
  obtain ⟨r1, a8, hm⟩ := bind_some hm
  refine VgE rfl rfl (E_gives (args := [(.string I)]) hST rfl Tryz.call134 (by exact args1 rfl) ((w_name_Right I _ _  a8)) (fun W3 hST => V (R_pickT rfl rfl) (V (R_move rfl) ?_)))
  obtain ⟨c2, a, D⟩ := bind_some hm
  refine LW_join (J := fun E W => ∃ (B : Bool) (z : Value) (G : List Int) (x : List (Nat × Obj)) (H : Mem) (N : List (Nat × Obj)), Sub μ0 H ∧ ST true (keys ((i, Obj.cells (#[g] : Array Value) 221 (0, 0)) :: (c ++ []))) w W H ((i, Obj.cells (#[z] : Array Value) 221 (0, 0)) :: (x ++ N)) ∧ E 4 = (.bool false) ∧ E 16 = (.bool B) ∧ Row 5 (encIk .u8) 1 z G x ∧ some (B, G) = some r) 5 ?_ (fun y => ?_)
  · rintro E W ⟨B, z, G, x, H, N, b3, hST, c1, a7, a0, t⟩
    refine V (R_assign a7) (LW_nil (sq_n (CW_ret ?_)))
    replace t := Option.some.inj t; subst t
    exact retQ_1 (v := (.bool B)) rfl rfl ⟨_, _, rfl, (hST.bkM (Kb (Kr Sn))), z, x, rfl, rfl, a0⟩
  rcases bool_cases r1 with f | f
  · replace a := if_t f a
    refine Vg rfl (congrArg Value.bool f) (R_move rfl) (Vg rfl (congrArg Value.bool f) (R_move rfl) ?_)
    obtain ⟨a9, Y, a⟩ := bind_some a
    refine VgE rfl (congrArg Value.bool f) (E_bytesOf hST Tryz.underlying9 Tryz.underlying189 Tryz.underlying5 rfl Y (fun b9 T c4 hST K a2 b6 => ?_))
    obtain ⟨Q, Z, a⟩ := bind_some a
    have hsz := hST.size
    refine VgE rfl (congrArg Value.bool f) (E_callM (args := [(.pointer (some ⟨i, 0, none⟩)), T]) (caps := #[]) _ _ hST (Cb Pz (Cr Qz Cn)) rfl Tryz.call239 (by exact args2 rfl rfl) (fun hH hN hsb hmm => (w_tape_Pen_Text_w i g j c T a9 _ _ ⟨hH, hN, Sub.refl _⟩ k (a2.mono (Pl.mono _) hsb) Z)) (fun c0 c3 b2 b8 hST M hlift U => ?_))
    obtain ⟨b1, a6, u, rfl, a3⟩ := U
    replace u := u.symm; subst u
    replace hST := hST.perm (Tb (Tr Tn))
    refine V (R_pickT (congrArg Value.bool f) rfl) ?_
    replace a := Option.some.inj a; subst a
    exact y _ _ ⟨Q.1, b1, Q.2, a6, b2, _, (K.trans M), (hST.sel St), rfl, rfl, a3, D⟩
  replace a := if_f f a
  refine Vn rfl (congrArg Value.bool f) (Vn rfl (congrArg Value.bool f) (Vn rfl (congrArg Value.bool f) (Vn rfl (congrArg Value.bool f) (V (R_pickF (congrArg Value.bool f) rfl) ?_))))
  replace a := Option.some.inj a; subst a
  exact y _ _ ⟨false, g, j, c, μ0, _, (Sub.refl _), (hST.sel St), rfl, rfl, k, D⟩
theorem w_role_Put_w (a : Nat) (j : Value) (y : List Int) (i : List (Nat × Obj)) (t : Role) (r : (Bool × (List Int))) (w : World) {μ0 : Mem} (h0 : Ent μ0 ((a, Obj.cells (#[j] : Array Value) 221 (0, 0)) :: (i ++ [])) w) (B : Row 5 (encIk .u8) 1 j y i) (hm : m_role_Put_w y t = some r) :
    GivesM true Tryz.prog 204 [(.pointer (some ⟨a, 0, none⟩)), (.agg (encRole t).toArray)] w ((a, Obj.cells (#[j] : Array Value) 221 (0, 0)) :: (i ++ [])) (fun v L1 W' => ∃ (y1 : Value) (S2 : List (Nat × Obj)), v = (.bool (r.1)) ∧ L1 = ((a, Obj.cells (#[y1] : Array Value) 221 (0, 0)) :: (S2 ++ [])) ∧ Row 5 (encIk .u8) 1 y1 r.2 S2) := by
  have hST := ST.startE (dd := true) h0
  unfold m_role_Put_w at hm
  refine calls_of_CW (n := 23) Tryz.func204 rfl rfl (Nat.le_of_ble_eq_true rfl) (CW_seq (CW_region (VE (E_box (v := (.agg (encRole t).toArray)) hST rfl (fun W2 b1 hST => V (R_assign rfl) (LW_nil (sq_n (CW_seq (CW_region (V (R_move rfl) (V (R_ptrNeNil Tryz.underlying219 rfl rfl) (V (R_move rfl) (Vg rfl rfl (R_load rfl (load_boxA hST.has Mh (encRole t) rfl Tryz.isAgg47 Tryz.sizeOf47)) ?_)))))))))))))
  obtain ⟨r3, c9, hm⟩ := bind_some hm
  refine VgE rfl rfl (E_gives (args := [(.agg (encRole t).toArray)]) hST rfl Tryz.call131 (by exact args1 rfl) ((w_role_Right t _ _  c9)) (fun W5 hST => V (R_pickT rfl rfl) (V (R_move rfl) ?_)))
  obtain ⟨e6, g, a2⟩ := bind_some hm
  refine LW_join (J := fun E W => ∃ (Z : Bool) (H : Value) (u : List Int) (z : List (Nat × Obj)) (I : Mem) (a7 : List (Nat × Obj)), Sub μ0 I ∧ ST true (keys ((a, Obj.cells (#[j] : Array Value) 221 (0, 0)) :: (i ++ []))) w W I ((b1, Obj.cells ((encRole t).toArray : Array Value) 47 (0, 0)) :: ((a, Obj.cells (#[H] : Array Value) 221 (0, 0)) :: (z ++ a7))) ∧ E 0 = (.pointer (some ⟨a, 0, none⟩)) ∧ E 3 = (.pointer (some ⟨b1, 0, none⟩)) ∧ E 4 = (.bool false) ∧ E 16 = (.bool Z) ∧ Row 5 (encIk .u8) 1 H u z ∧ (((if Z then (((m_name_Put_w u t.Word)).bind fun G => some (G.1, G.2)) else some (false, u)) : Option ((Bool × (List Int)))).bind fun (x, D) => some (x, D)) = some r) 5 ?_ (fun U => ?_)
  · rintro E W ⟨Z, H, u, z, I, a7, d5, hST, c5, c6, a9, c7, a3, b4⟩
    refine V (R_move c7) ?_
    obtain ⟨e5, f, a0⟩ := bind_some b4
    refine LW_join (J := fun E W => ∃ (x : Bool) (Y : Value) (D : List Int) (Q : List (Nat × Obj)) (a4 : Mem) (a8 : List (Nat × Obj)), Sub I a4 ∧ ST true (keys ((a, Obj.cells (#[j] : Array Value) 221 (0, 0)) :: (i ++ []))) w W a4 ((a, Obj.cells (#[Y] : Array Value) 221 (0, 0)) :: (Q ++ a8)) ∧ E 4 = (.bool false) ∧ E 22 = (.bool x) ∧ Row 5 (encIk .u8) 1 Y D Q ∧ some (x, D) = some r) 5 ?_ (fun T => ?_)
    · rintro E W ⟨x, Y, D, Q, a4, a8, d6, hST, e4, c8, b7, K⟩
      refine V (R_assign c8) (LW_nil (sq_n (CW_ret ?_)))
      replace K := Option.some.inj K; subst K
      exact retQ_1 (v := (.bool x)) rfl rfl ⟨_, _, rfl, (hST.bkM (Kb (Kr Sn))), Y, Q, rfl, rfl, b7⟩
    rcases bool_cases Z with c | c
    · replace f := if_t c f
      refine Vg rfl (congrArg Value.bool c) (R_move c5) (Vg rfl (congrArg Value.bool c) (R_field fa47_1 c6) (Vg rfl (congrArg Value.bool c) (R_load rfl (load_box1 hST.has Mh rfl Tryz.isAgg9)) ?_))
      obtain ⟨G, b5, f⟩ := bind_some f
      have hsz := hST.size
      refine VgE rfl (congrArg Value.bool c) (E_callM (args := [(.pointer (some ⟨a, 0, none⟩)), (.string t.Word)]) (caps := #[]) _ _ hST (Cb (Pb Pz) (Cr (Qb Qz) Cn)) rfl Tryz.call205 (by exact args2 rfl rfl) (fun hH hN hsb hmm => (w_name_Put_w a H u z t.Word _ _ ⟨hH, hN, Sub.refl _⟩ a3 b5)) (fun e2 e7 d3 e0 hST a5 hlift b2 => ?_))
      obtain ⟨d1, c2, M, rfl, b8⟩ := b2
      replace M := M.symm; subst M
      replace hST := hST.perm (Tb (Tr Tn))
      refine V (R_pickT (congrArg Value.bool c) rfl) ?_
      replace f := Option.some.inj f; subst f
      exact T _ _ ⟨G.1, d1, G.2, c2, d3, _, a5, (hST.sel (Kb (Kr (Db St)))), a9, rfl, b8, a0⟩
    replace f := if_f c f
    refine Vn rfl (congrArg Value.bool c) (Vn rfl (congrArg Value.bool c) (Vn rfl (congrArg Value.bool c) (Vn rfl (congrArg Value.bool c) (V (R_pickF (congrArg Value.bool c) rfl) ?_))))
    replace f := Option.some.inj f; subst f
    exact T _ _ ⟨false, H, u, z, I, _, (Sub.refl _), (hST.sel (Db St)), a9, rfl, a3, a0⟩
  rcases bool_cases r3 with k | k
  · replace g := if_t k g
    refine Vg rfl (congrArg Value.bool k) (R_move rfl) (Vg rfl (congrArg Value.bool k) (R_field fa47_0 rfl) (Vg rfl (congrArg Value.bool k) (R_load rfl (load_box1 hST.has Mh rfl Tryz.isAgg9)) ?_))
    obtain ⟨b0, b6, g⟩ := bind_some g
    have hsz := hST.size
    refine VgE rfl (congrArg Value.bool k) (E_callM (args := [(.pointer (some ⟨a, 0, none⟩)), (.string t.Owner)]) (caps := #[]) _ _ hST (Cb (Pb Pz) (Cr (Qb Qz) Cn)) rfl Tryz.call205 (by exact args2 rfl rfl) (fun hH hN hsb hmm => (w_name_Put_w a j y i t.Owner _ _ ⟨hH, hN, Sub.refl _⟩ B b6)) (fun e3 e8 d4 e1 hST a6 hlift b3 => ?_))
    obtain ⟨d2, c3, N, rfl, b9⟩ := b3
    replace N := N.symm; subst N
    replace hST := hST.perm (Tb (Tr Tn))
    refine V (R_pickT (congrArg Value.bool k) rfl) ?_
    replace g := Option.some.inj g; subst g
    exact U _ _ ⟨b0.1, d2, b0.2, c3, d4, _, a6, (hST.sel (Sb (Pb (Pr Pz)) St)), rfl, rfl, rfl, rfl, b9, a2⟩
  replace g := if_f k g
  refine Vn rfl (congrArg Value.bool k) (Vn rfl (congrArg Value.bool k) (Vn rfl (congrArg Value.bool k) (Vn rfl (congrArg Value.bool k) (V (R_pickF (congrArg Value.bool k) rfl) ?_))))
  replace g := Option.some.inj g; subst g
  exact U _ _ ⟨false, j, y, i, μ0, _, (Sub.refl _), (hST.sel St), rfl, rfl, rfl, rfl, B, a2⟩
theorem w_bytes_Clone (f : Value) (g : List Int) (r : List Int) (w : World) (a : Sl (Pl (encIk .u8)) 1 (hp w) f g) (hm : m_bytes_Clone g = some r) :
    GivesRow true Tryz.prog 240 [f] w 5 (encIk .u8) 1 r := by
  have hST := ST.start (dd := true) w
  unfold m_bytes_Clone at hm
  refine calls_of_CW (n := 8) Tryz.func240 rfl rfl (Nat.le_of_ble_eq_true rfl) (CW_seq (CW_region (V (R_assign rfl) (LW_nil (sq_n (CW_seq (CW_seq (CW_region (V (R_move rfl) ?_)))))))))
  obtain ⟨x, z, rfl⟩ := a.form
  refine V (R_slEqNil Tryz.underlying189 rfl rfl) (LW_nil (sq_n ?_))
  rcases x with _ | y
  · have t := a.isNil
    replace hm : some [] = some r := by rw [t] at hm; simpa [appB, maxLen] using hm
    refine CW_if_true (rfl) (CW_seq (CW_region (V (R_assign rfl) (LW_nil (sq_n (CW_ret (sq_r ?_)))))))
    replace hm := Option.some.inj hm; subst hm
    exact retQ_1 (v := (.slice none 0 0)) rfl rfl ⟨_, [], rfl, hST.backRow (fun p hq => by cases hq) (by simp), Row.nil _ _ _⟩
  · refine CW_if_false (rfl) (CW_skip (sq_n (CW_seq (CW_region (VE (E_buildSlice (qs := #[]) (cs := #[]) hST parts0 (run_lit [] Tryz.underlying189 Tryz.sizeOf5 Tryz.zeroValue5 (by decide) rfl (by simp) rfl rfl) (fun D j hST => V (R_move rfl) ?_)))))))
    obtain ⟨G, k, hm⟩ := bind_some hm
    refine VE (F_append (enc := (encIk .u8)) (v := (.slice (some ⟨j, 0, none⟩) 0 0)) (vs := (.slice (some y) g.length z)) (R := [(j, Obj.cells (#[] : Array Value) 5 (0, 0))]) hST (fun _ => rfl) (by decide) (oneI _) Tryz.underlying189 info5.1 info5.2.1 rfl info5.2.2.1 info5.2.2.2 rfl rfl (Row.lit (l := []) (enc := (encIk .u8)) rfl (by decide) rfl rfl) (a.mono (Pl.mono _) hST.sub_hp) k (fun B u i hST c => V (R_assign rfl) (LW_nil (sq_n (CW_ret ?_)))))
    replace hm := Option.some.inj hm; subst hm
    exact retQ_1 (v := u) rfl rfl ⟨_, i, rfl, hST.backRow (fun p hq => (Ml hq)) c.nd, c⟩
theorem w_tape_Pen_Bytes (f : Nat) (a : Value) (c : List Int) (r : List Int) (w : World) (i : Sl (Pl (encIk .u8)) 1 (hp w) a c) (j : At (hp w) (.pointer (some ⟨f, 0, none⟩)) [a]) (hm : m_tape_Pen_Bytes c = some r) :
    GivesRow true Tryz.prog 206 [(.pointer (some ⟨f, 0, none⟩))] w 5 (encIk .u8) 1 r := by
  have hST := ST.start (dd := true) w
  unfold m_tape_Pen_Bytes at hm
  refine calls_of_CW (n := 10) Tryz.func206 rfl rfl (Nat.le_of_ble_eq_true rfl) (CW_seq (CW_region (V (R_assign rfl) (LW_nil (sq_n (CW_seq (CW_seq (CW_region (V (R_move rfl) (V (R_ptrEqNil Tryz.underlying219 rfl rfl) (LW_nil (sq_n (CW_if_false rfl (CW_skip ?_))))))))))))))
  refine sq_n (CW_seq (CW_region (V (R_move rfl) (V (R_nilCheck rfl) (VQ (R_fieldAt [a] fa221_0 rfl j rfl) (fun D t => V (R_load rfl (load_at1 hST.has (y := a) t Tryz.isAgg189)) ?_))))))
  obtain ⟨G, u, hm⟩ := bind_some hm
  refine VE (F_givesRow (args := [a]) _ hST rfl Tryz.call240 (by exact args1 rfl) ((w_bytes_Clone a c _ _ (i.mono (Pl.mono _) hST.sub_hp) u)) (fun B z H k hST x g => V (R_assign rfl) (LW_nil (sq_n (CW_ret ?_)))))
  replace hm := Option.some.inj hm; subst hm
  exact retQ_1 (v := z) rfl rfl ⟨_, k, rfl, hST.backRow (fun p hq => (Ml hq)) g.nd, g⟩
theorem w_cred_Bytes (c : Cred) (r : List Int) (w : World)  (hm : m_cred_Bytes c = some r) :
    GivesRow true Tryz.prog 166 [(.agg (encCred c).toArray)] w 5 (encIk .u8) 1 r := by
  have hST := ST.start (dd := true) w
  unfold m_cred_Bytes at hm
  refine calls_of_CW (n := 53) Tryz.func166 rfl rfl (Nat.le_of_ble_eq_true rfl) (CW_seq (CW_region (VE (E_box (v := (.agg (encCred c).toArray)) hST rfl (fun W2 b1 hST => V (R_assign rfl) (LW_nil (sq_n (CW_seq (CW_seq (CW_region (V (R_load rfl (load_boxA hST.has Mh (encCred c) rfl Tryz.isAgg83 Tryz.sizeOf83)) ?_)))))))))))
  obtain ⟨r3, g6, hm⟩ := bind_some hm
  refine VE (E_gives (args := [(.agg (encCred c).toArray)]) hST rfl Tryz.call98 (by exact args1 rfl) ((w_cred_Right c _ _  g6)) (fun W5 hST => V (R_not rfl) (LW_nil (sq_n (CW_if (b := (!r3)) rfl (fun a2 => ?_) (fun a2 => ?_))))))
  · replace hm := if_t a2 hm
    refine CW_seq (CW_region (V (R_assign rfl) (LW_nil (sq_n ?_))))
    replace hST := hST.sel (Db St)
    refine CW_ret (sq_r ?_)
    replace hm := Option.some.inj hm; subst hm
    exact retQ_1 (v := (.slice none 0 0)) rfl rfl ⟨_, [], rfl, hST.backRow (fun p hq => by cases hq) (by simp), Row.nil _ _ _⟩
  replace hm := if_f a2 hm
  refine CW_skip (sq_n (CW_seq (CW_region (V (R_build (qs := #[]) (v := (.agg #[(.slice none 0 0)])) parts0 (run_build Tryz.zeroValue221 Tryz.underlying221 (pl221 _ Tryz.underlying221) (by kernel_rfl))) (VE (E_box (v := (.agg #[(.slice none 0 0)])) hST rfl (fun W8 f hST => V (R_assign rfl) (LW_nil (sq_n (CW_seq (CW_region (V (R_move rfl) (V (R_field fa83_0 rfl) (V (R_load rfl (load_box1 hST.has (Mt Mh) rfl Tryz.isAgg3)) ?_))))))))))))))
  obtain ⟨r9, e3, hm⟩ := bind_some hm
  have hsz := hST.size
  refine VE (E_callM (args := [(.pointer (some ⟨f, 0, none⟩)), (.int .i64 c.Kind)]) (caps := #[]) _ _ hST (Cb Pz (C0 Cn)) rfl Tryz.call203 (by exact args2 rfl rfl) (fun hH hN hsb hmm => (w_tape_Pen_Number_w f (.slice none 0 0) ([]) [] c.Kind _ _ ⟨hH, hN, Sub.refl _⟩ (Row.nil _ _ _) e3)) (fun j7 j9 k1 j5 hST g8 hlift e1 => ?_))
  obtain ⟨g7, g3, T, rfl, e5⟩ := e1
  replace T := T.symm; subst T
  replace hST := hST.perm (Tb (Tr Tn))
  refine LW_nil (sq_n (CW_seq (CW_region (V (R_move rfl) (V (R_field fa83_1 rfl) (V (R_load rfl (load_boxA hST.has (Mt (Ma Mh)) (encRole c.Head) rfl Tryz.isAgg47 Tryz.sizeOf47)) ?_))))))
  obtain ⟨M, e4, hm⟩ := bind_some hm
  have hsz := hST.size
  refine VE (E_callM (args := [(.pointer (some ⟨f, 0, none⟩)), (.agg (encRole c.Head).toArray)]) (caps := #[]) _ _ hST (Cb Pz (Cr Qz Cn)) rfl Tryz.call204 (by exact args2 rfl rfl) (fun hH hN hsb hmm => (w_role_Put_w f g7 r9.2 g3 c.Head _ _ ⟨hH, hN, Sub.refl _⟩ e5 e4)) (fun j8 k0 d2 j6 hST g9 hlift e2 => ?_))
  obtain ⟨N, K, U, rfl, j⟩ := e2
  replace U := U.symm; subst U
  replace hST := hST.perm (Tb (Tr Tn))
  refine LW_nil (sq_n (CW_seq ?_))
  obtain ⟨i5, a, i⟩ := bind_some hm
  refine CW_cut (fun E W => ∃ (J : Value) (I : List Int) (Q : List (Nat × Obj)) (Y : Mem) (a1 : List (Nat × Obj)), Sub d2 Y ∧ ST true NoF w W Y ((f, Obj.cells (#[J] : Array Value) 221 (0, 0)) :: (Q ++ a1)) ∧ E 3 = (.pointer (some ⟨f, 0, none⟩)) ∧ Row 5 (encIk .u8) 1 J I Q ∧ (((m_tape_Pen_Bytes I)).bind fun a9 => some a9) = some r) ?_ ?_
  · refine CW_seq (CW_region (V (R_field fa83_0 rfl) (V (R_load rfl (load_box1 hST.has (Mt (Ma Mh)) rfl Tryz.isAgg3)) (LW_nil (sq_n (CW_block (CW_seq (CW_region (V (R_int rfl rfl rfl) (V (R_assign rfl) (LW_nil (sq_n (CW_if (b := (c.Kind == 1)) rfl (fun k => ?_) (fun k => ?_))))))))))))))
    · replace a := if_t k a
      refine CW_region (V (R_move rfl) (V (R_field fa83_2 rfl) (V (R_load rfl (load_box1 hST.has (Mt (Ma Mh)) rfl Tryz.isAgg9)) ?_)))
      obtain ⟨e6, b9, a⟩ := bind_some a
      have hsz := hST.size
      refine VE (E_callM (args := [(.pointer (some ⟨f, 0, none⟩)), (.string c.Who)]) (caps := #[]) _ _ hST (Cb Pz (Cr Qz Cn)) rfl Tryz.call205 (by exact args2 rfl rfl) (fun hH hN hsb hmm => (w_name_Put_w f N M.2 K c.Who _ _ ⟨hH, hN, Sub.refl _⟩ j b9)) (fun h7 i6 f9 h0 hST a3 hlift b0 => ?_))
      obtain ⟨f3, d4, y, rfl, c6⟩ := b0
      replace y := y.symm; subst y
      replace hST := hST.perm (Tb (Tr Tn))
      refine LW_nil (bq_n (sq_n ?_))
      replace a := Option.some.inj a; subst a
      exact ⟨f3, e6.2, d4, f9, _, a3, (hST.sel (Kb (Kr (Db St)))), rfl, c6, i⟩
    replace a := if_f k a
    refine CW_seq (CW_region (V (R_int rfl rfl rfl) (V (R_assign rfl) (LW_nil (sq_n (CW_if (b := (c.Kind == 2)) rfl (fun t => ?_) (fun t => ?_)))))))
    · replace a := if_t t a
      refine CW_region (V (R_move rfl) (V (R_field fa83_3 rfl) (V (R_load rfl (load_boxA hST.has (Mt (Ma Mh)) (encRole c.B) rfl Tryz.isAgg47 Tryz.sizeOf47)) ?_)))
      obtain ⟨e7, c0, a⟩ := bind_some a
      have hsz := hST.size
      refine VE (E_callM (args := [(.pointer (some ⟨f, 0, none⟩)), (.agg (encRole c.B).toArray)]) (caps := #[]) _ _ hST (Cb Pz (Cr Qz Cn)) rfl Tryz.call204 (by exact args2 rfl rfl) (fun hH hN hsb hmm => (w_role_Put_w f N M.2 K c.B _ _ ⟨hH, hN, Sub.refl _⟩ j c0)) (fun h8 i7 g0 h1 hST a4 hlift b2 => ?_))
      obtain ⟨f4, d5, z, rfl, c7⟩ := b2
      replace z := z.symm; subst z
      replace hST := hST.perm (Tb (Tr Tn))
      refine LW_nil (bq_n (sq_n ?_))
      replace a := Option.some.inj a; subst a
      exact ⟨f4, e7.2, d5, g0, _, a4, (hST.sel (Kb (Kr (Db St)))), rfl, c7, i⟩
    replace a := if_f t a
    refine CW_seq (CW_region (V (R_int rfl rfl rfl) (V (R_assign rfl) (LW_nil (sq_n (CW_if (b := (c.Kind == 3)) rfl (fun u => ?_) (fun u => ?_)))))))
    · replace a := if_t u a
      refine CW_seq (CW_region (V (R_move rfl) (V (R_field fa83_3 rfl) (V (R_load rfl (load_boxA hST.has (Mt (Ma Mh)) (encRole c.B) rfl Tryz.isAgg47 Tryz.sizeOf47)) ?_))))
      obtain ⟨e8, c1, a⟩ := bind_some a
      have hsz := hST.size
      refine VE (E_callM (args := [(.pointer (some ⟨f, 0, none⟩)), (.agg (encRole c.B).toArray)]) (caps := #[]) _ _ hST (Cb Pz (Cr Qz Cn)) rfl Tryz.call204 (by exact args2 rfl rfl) (fun hH hN hsb hmm => (w_role_Put_w f N M.2 K c.B _ _ ⟨hH, hN, Sub.refl _⟩ j c1)) (fun h9 i8 j3 h2 hST a5 hlift b3 => ?_))
      obtain ⟨f5, d6, B, rfl, c8⟩ := b3
      replace B := B.symm; subst B
      replace hST := hST.perm (Tb (Tr Tn))
      refine LW_nil (sq_n (CW_region (V (R_move rfl) (V (R_field fa83_5 rfl) (V (R_load rfl (load_box1 hST.has (Mt (Ma Mh)) rfl Tryz.isAgg9)) ?_)))))
      obtain ⟨e9, c2, a⟩ := bind_some a
      have hsz := hST.size
      refine VE (E_callM (args := [(.pointer (some ⟨f, 0, none⟩)), (.string c.Word2)]) (caps := #[]) _ _ hST (Cb Pz (Cr Qz Cn)) rfl Tryz.call205 (by exact args2 rfl rfl) (fun hH hN hsb hmm => (w_name_Put_w f f5 e8.2 d6 c.Word2 _ _ ⟨hH, hN, Sub.refl _⟩ c8 c2)) (fun i0 i9 g1 h3 hST a6 hlift b4 => ?_))
      obtain ⟨f6, d7, D, rfl, c9⟩ := b4
      replace D := D.symm; subst D
      replace hST := hST.perm (Tb (Tr Tn))
      refine LW_nil (bq_n (sq_n ?_))
      replace a := Option.some.inj a; subst a
      exact ⟨f6, e9.2, d7, g1, _, (a5.trans a6), (hST.sel (Kb (Kr (Db St)))), rfl, c9, i⟩
    replace a := if_f u a
    refine CW_seq (CW_region (V (R_int rfl rfl rfl) (V (R_assign rfl) (LW_nil (sq_n (CW_if (b := (c.Kind == 4)) rfl (fun x => ?_) (fun x => ?_)))))))
    · replace a := if_t x a
      refine CW_seq (CW_region (V (R_move rfl) (V (R_field fa83_3 rfl) (V (R_load rfl (load_boxA hST.has (Mt (Ma Mh)) (encRole c.B) rfl Tryz.isAgg47 Tryz.sizeOf47)) ?_))))
      obtain ⟨f0, c3, a⟩ := bind_some a
      have hsz := hST.size
      refine VE (E_callM (args := [(.pointer (some ⟨f, 0, none⟩)), (.agg (encRole c.B).toArray)]) (caps := #[]) _ _ hST (Cb Pz (Cr Qz Cn)) rfl Tryz.call204 (by exact args2 rfl rfl) (fun hH hN hsb hmm => (w_role_Put_w f N M.2 K c.B _ _ ⟨hH, hN, Sub.refl _⟩ j c3)) (fun i1 j0 j4 h4 hST a7 hlift b5 => ?_))
      obtain ⟨f7, d8, G, rfl, d0⟩ := b5
      replace G := G.symm; subst G
      replace hST := hST.perm (Tb (Tr Tn))
      refine LW_nil (sq_n (CW_region (V (R_move rfl) (V (R_field fa83_4 rfl) (V (R_load rfl (load_boxA hST.has (Mt (Ma Mh)) (encRole c.C) rfl Tryz.isAgg47 Tryz.sizeOf47)) ?_)))))
      obtain ⟨f1, c4, a⟩ := bind_some a
      have hsz := hST.size
      refine VE (E_callM (args := [(.pointer (some ⟨f, 0, none⟩)), (.agg (encRole c.C).toArray)]) (caps := #[]) _ _ hST (Cb Pz (Cr Qz Cn)) rfl Tryz.call204 (by exact args2 rfl rfl) (fun hH hN hsb hmm => (w_role_Put_w f f7 f0.2 d8 c.C _ _ ⟨hH, hN, Sub.refl _⟩ d0 c4)) (fun i2 j1 g2 h5 hST a8 hlift b6 => ?_))
      obtain ⟨f8, d9, H, rfl, d1⟩ := b6
      replace H := H.symm; subst H
      replace hST := hST.perm (Tb (Tr Tn))
      refine LW_nil (bq_n (sq_n ?_))
      replace a := Option.some.inj a; subst a
      exact ⟨f8, f1.2, d9, g2, _, (a7.trans a8), (hST.sel (Kb (Kr (Db St)))), rfl, d1, i⟩
    replace a := if_f x a
    refine CW_skip (bq_n (sq_n ?_))
    replace a := Option.some.inj a; subst a
    exact ⟨N, M.2, K, d2, _, (Sub.refl _), (hST.sel (Kb (Kr (Db St)))), rfl, j, i⟩
  rintro E W ⟨J, I, Q, Y, a1, g4, hST, e0, c5, g⟩
  refine CW_seq (CW_region (V (R_move e0) ?_))
  obtain ⟨a9, b8, g⟩ := bind_some g
  refine VE (F_givesRow (args := [(.pointer (some ⟨f, 0, none⟩))]) _ hST rfl Tryz.call206 (by exact args1 rfl) ((w_tape_Pen_Bytes f J I _ _ (c5.sl (fun _ => rfl) (fun b o hq => hST.at_ (Mt (Ml hq)))) (At.of (hST.at_ Mh) _ rfl) b8)) (fun h6 f2 j2 d3 hST g5 Z => V (R_assign rfl) (LW_nil (sq_n ?_))))
  replace hST := hST.sel (Kr (Db (Dr St)))
  refine CW_ret ?_
  replace g := Option.some.inj g; subst g
  exact retQ_1 (v := f2) rfl rfl ⟨_, d3, rfl, hST.backRow (fun p hq => (Ml hq)) Z.nd, Z⟩
theorem ext202 (w : World) {va vb : Value} {a b : List Int} (h1 : Sl (Pl (encIk .u8)) 1 (hp w) va a) (h2 : Sl (Pl (encIk .u8)) 1 (hp w) vb b) : (callFunc 202 [va, vb].toArray).run Tryz.prog w = .ok (.value (.int .i64 (xCompareB a b))) w := run_cmpB Tryz.func202 (by kernel_rfl) (by kernel_rfl) (by kernel_rfl) (by kernel_rfl) h1 h2
theorem w_bytes_Compare (a : Value) (f : List Int) (c : Value) (g : List Int) (r : Int) (w : World) (i : Sl (Pl (encIk .u8)) 1 (hp w) a f) (j : Sl (Pl (encIk .u8)) 1 (hp w) c g) (hm : m_bytes_Compare f g = some r) :
    Gives true Tryz.prog 165 [a, c] w (.int .i64 r) := by
  have hST := ST.start (dd := true) w
  unfold m_bytes_Compare at hm
  refine calls_of_CW (n := 8) Tryz.func165 rfl rfl (Nat.le_of_ble_eq_true rfl) (CW_seq (CW_region (V (R_assign rfl) (LW_nil (sq_n (CW_seq (CW_region (V (R_move rfl) (V (R_move rfl) (VE (E_ext (args := [a, c]) (v := .int .i64 (xCompareB f g)) rfl (by exact args2 rfl rfl) (ext202 _ (i.mono (Pl.mono _) hST.sub_hp) (j.mono (Pl.mono _) hST.sub_hp)) (V (R_assign rfl) (LW_nil (sq_n (CW_ret ?_)))))))))))))))
  replace hm := Option.some.inj hm; subst hm
  exact retQ_1 (v := (.int .i64 ((xCompareB f g)))) rfl rfl ⟨rfl, hST.ex⟩
theorem w_cred_Compare (f : Cred) (g : Cred) (r : Int) (w : World)  (hm : m_cred_Compare f g = some r) :
    Gives true Tryz.prog 126 [(.agg (encCred f).toArray), (.agg (encCred g).toArray)] w (.int .i64 r) := by
  have hST := ST.start (dd := true) w
  unfold m_cred_Compare at hm
  refine calls_of_CW (n := 10) Tryz.func126 rfl rfl (Nat.le_of_ble_eq_true rfl) (CW_seq (CW_region (VE (E_box (v := (.agg (encCred f).toArray)) hST rfl (fun Q U hST => VE (E_box (v := (.agg (encCred g).toArray)) hST rfl (fun T Y hST => V (R_assign rfl) (LW_nil (sq_n (CW_seq ?_))))))))))
  replace hST := hST.drew
  have hS0 := hST.has.sel (Kb (Kb Sn))
  refine PX_start1 hS0 Tryz_mixed (XH 0 rfl hS0 (fun _ hS => R_load rfl (load_boxA hS (Mt Mh) (encCred f) rfl Tryz.isAgg83 Tryz.sizeOf83)) (XH 2 rfl hS0 (fun _ hS => R_load rfl (load_boxA hS Mh (encCred g) rfl Tryz.isAgg83 Tryz.sizeOf83)) ?_))
  obtain ⟨z, u, hm⟩ := bind_some hm
  refine XE 1 rfl (F_givesRow (args := [(.agg (encCred f).toArray)]) _ hST rfl Tryz.call166 (by exact args1 rfl) ((w_cred_Bytes f _ _  u)) (fun I i M G hST a k => ?_))
  have hS0 := hST.has.selS a (Dr (Kb (Kb Sn)))
  refine ⟨hS0, ?_⟩
  obtain ⟨B, x, hm⟩ := bind_some hm
  refine XE 3 rfl (F_givesRow (args := [(.agg (encCred g).toArray)]) _ hST rfl Tryz.call166 (by exact args1 rfl) ((w_cred_Bytes g _ _  x)) (fun J j N H hST c t => ?_))
  have hS0 := hST.has.selS (a.trans c) (Dr (Dr (Kb (Kb Sn))))
  refine ⟨hS0, ?_⟩
  obtain ⟨D, y, hm⟩ := bind_some hm
  refine XE 4 rfl (E_gives (args := [i, j]) hST rfl Tryz.call165 (by exact args2 rfl rfl) ((w_bytes_Compare i z j B _ _ (k.sl (fun _ => rfl) (fun b o hq => hST.at_ (Ma (Ml hq)))) (t.sl (fun _ => rfl) (fun b o hq => hST.at_ (Ml hq))) y)) (fun K hST => ?_))
  have hS0 := hST.has.selS (a.trans c) (Dr (Dr (Kb (Kb Sn))))
  refine ⟨hS0, (X 5 rfl hS0 (R_assign rfl) (PX_done (by kernel_rfl) (sq_n ?_)))⟩
  replace hST := hST.sel (Dr (Dr (Db (Db St))))
  refine CW_ret ?_
  replace hm := Option.some.inj hm; subst hm
  exact retQ_1 (v := (.int .i64 D)) rfl rfl ⟨rfl, hST.ex⟩
theorem w_slices_Compact_Cred (t : Value) (a0 : List Cred) (y : List (Nat × Obj)) (r : List Cred) (w : World) {μ0 : Mem} (h0 : Ent μ0 (y ++ []) w) (G : Row 83 encCred 9 t a0 y) (hm : m_slices_Compact_Cred a0 = some r) :
    GivesM true Tryz.prog 127 [t] w (y ++ []) (fun v L1 W' => ∃ (y1 : Value) (S2 : List (Nat × Obj)), v = y1 ∧ L1 = (S2 ++ []) ∧ Row 83 encCred 9 y1 r S2) := by
  have hST := ST.startE (dd := true) h0
  unfold m_slices_Compact_Cred at hm
  refine calls_of_CW (n := 61) Tryz.func127 rfl rfl (Nat.le_of_ble_eq_true rfl) (CW_seq (CW_region (V (R_assign rfl) (LW_nil (sq_n (CW_seq (CW_seq (CW_region (V (R_move rfl) (V (R_lenRow Tryz.underlying22 rfl G) (V (R_int rfl rfl rfl) (LW_nil (sq_n (CW_if (b := (decide (((a0.length : Int)) < 2))) rfl (fun d7 => ?_) (fun d7 => ?_)))))))))))))))
  · replace hm := if_t d7 hm
    refine CW_seq (CW_region (V (R_move rfl) (V (R_assign rfl) (LW_nil (sq_n (CW_ret (sq_r ?_)))))))
    replace hm := Option.some.inj hm; subst hm
    exact retQ_1 (v := t) rfl rfl ⟨_, _, rfl, (hST.bkM (Kr Sn)), t, y, rfl, rfl, G⟩
  replace hm := if_f d7 hm
  refine CW_skip (sq_n (CW_seq (CW_seq (CW_region (V (R_assign rfl) (LW_nil (sq_n (CW_block (CW_loop (fun m E W => ∃ (j : Int) (c4 : List (Nat × Obj)), ST true (keys (y ++ [])) w W μ0 (y ++ c4) ∧ E 0 = t ∧ E 3 = (.int .i64 j) ∧ m_slices_Compact_Cred_L1 a0 m j = some r) FUEL ⟨1, _, (hST.sel St), rfl, rfl, hm⟩ ?_)))))))))
  rintro m E W ⟨j, c4, hST, H, J, a⟩
  cases m with
  | zero => rw [m_slices_Compact_Cred_L1] at a; cases a
  | succ f8 =>
    rw [m_slices_Compact_Cred_L1] at a
    refine CW_seq (CW_seq (CW_region (V (R_move J) (V (R_move H) (V (R_lenRow Tryz.underlying22 rfl G) (V (R_int rfl rfl rfl) (LW_nil (sq_n (CW_if (b := (decide (j < ((a0.length : Int))))) rfl (fun a4 => ?_) (fun a4 => ?_))))))))))
    · replace a := if_t a4 a
      refine CW_skip (sq_n (CW_seq (CW_block (CW_seq ?_))))
      replace hST := hST.drew
      have hS0 := hST.has.sel (Kr Sn)
      refine PX_start1 hS0 Tryz_mixed (X 0 rfl hS0 (R_move H) (X 1 rfl hS0 (R_move J) ?_))
      obtain ⟨b5, a8, a⟩ := bind_some a
      refine XQ 2 rfl hS0 (R_indexRow (i := j) (x0 := b5) Tryz.underlying22 Tryz.sizeOf83 rfl rfl G (idx_nonneg a8) (idx_get a8)) (fun g4 e1 => XH 3 rfl hS0 (fun _ hS => R_load rfl (load_ixA hS (fun p hq => (Ml hq)) G lenCred e1 (idx_get a8) Tryz.isAgg83 Tryz.sizeOf83)) (X 4 rfl hS0 (R_move H) (X 5 rfl hS0 (R_move J) (X 6 rfl hS0 (R_int rfl rfl rfl) ?_))))
      obtain ⟨b6, a9, a⟩ := bind_some a
      refine XQ 7 rfl hS0 (R_indexRow (i := (IntKind.i64.wrap (j - 1))) (x0 := b6) Tryz.underlying22 Tryz.sizeOf83 rfl rfl G (idx_nonneg a9) (idx_get a9)) (fun g5 e2 => XH 8 rfl hS0 (fun _ hS => R_load rfl (load_ixA hS (fun p hq => (Ml hq)) G lenCred e2 (idx_get a9) Tryz.isAgg83 Tryz.sizeOf83)) (X 9 rfl hS0 (R_eql rfl rfl (guard_agg Tryz.eqGuardType83) (bin_eql (eqInCred _ b5 b6))) (PX_done (by kernel_rfl) (sq_n (CW_if (b := (beqCred b5 b6)) rfl (fun a5 => ?_) (fun a5 => ?_))))))
      · replace a := if_t a5 a
        refine CW_seq (CW_region (V (R_move H) (V (R_move J) ?_)))
        obtain ⟨_, b9, a⟩ := bind_some a
        refine VQ (R_sliceTail (i := j) Tryz.underlying22 Tryz.sizeOf83 rfl rfl G (chk_1 b9) (chk_2 b9)) (fun d2 Q => V (R_assign rfl) (LW_nil (sq_n (CW_seq (CW_seq (CW_region (V (R_assign rfl) (LW_nil (sq_n ?_)))))))))
        obtain ⟨d1, d8, d9⟩ := bind_some a
        refine CW_cut (fun E W => ∃ (T : List Cred) (b4 : List (Nat × Obj)) (k : Int) (c5 : List (Nat × Obj)), ST true (keys (y ++ [])) w W μ0 (b4 ++ c5) ∧ E 0 = t ∧ E 3 = (.int .i64 k) ∧ Row 83 encCred 9 t T b4 ∧ (((chk (decide (0 ≤ k) && decide (k ≤ (T.length : Int))))).bind fun _ => (((chk (decide (0 ≤ k) && decide (k ≤ (((clearT T (Int.toNat k) (⟨0, (⟨zS, zS⟩ : Role), zS, (⟨zS, zS⟩ : Role), (⟨zS, zS⟩ : Role), zS⟩ : Cred))).length : Int))))).bind fun _ => some (((clearT T (Int.toNat k) (⟨0, (⟨zS, zS⟩ : Role), zS, (⟨zS, zS⟩ : Role), (⟨zS, zS⟩ : Role), zS⟩ : Cred))).take (Int.toNat k)))) = some r) ?_ ?_
        · refine CW_block (CW_loop (fun m E W => ∃ (I : List Cred) (N : List (Nat × Obj)) (D : Int) (x : Int) (c6 : List (Nat × Obj)), ST true (keys (y ++ [])) w W μ0 (N ++ c6) ∧ E 0 = t ∧ E 3 = (.int .i64 D) ∧ E 4 = d2 ∧ E 5 = (.int .i64 x) ∧ Row 83 encCred 9 t I N ∧ m_slices_Compact_Cred_L2 j m I D x = some d1) FUEL ⟨a0, y, j, 1, _, (hST.sel St), H, J, rfl, rfl, G, d8⟩ ?_)
          rintro m E W ⟨I, N, D, x, c6, hST, Y, Z, K, M, g, f⟩
          cases m with
          | zero => rw [m_slices_Compact_Cred_L2] at f; cases f
          | succ d0 =>
            rw [m_slices_Compact_Cred_L2] at f
            refine CW_seq (CW_seq (CW_region (V (R_move M) (V (R_move K) (V (R_lenTail Tryz.underlying22 rfl Q g) (V (R_int rfl rfl rfl) (LW_nil (sq_n (CW_if (b := (decide (x < (((I.length - (Int.toNat j) : Nat) : Int))))) rfl (fun a6 => ?_) (fun a6 => ?_))))))))))
            · replace f := if_t a6 f
              refine CW_skip (sq_n (CW_seq ?_))
              obtain ⟨h1, c, c2⟩ := bind_some f
              refine CW_cut (fun E W => ∃ (a1 : List Cred) (U : List (Nat × Obj)) (a2 : Int) (c7 : List (Nat × Obj)), ST true (keys (y ++ [])) w W μ0 (U ++ c7) ∧ E 0 = t ∧ E 3 = (.int .i64 a2) ∧ E 4 = d2 ∧ E 5 = (.int .i64 x) ∧ Row 83 encCred 9 t a1 U ∧ (m_slices_Compact_Cred_L2 j d0 a1 a2 ((IntKind.i64.wrap (x + 1)))) = some d1) ?_ ?_
              · refine CW_block (CW_seq ?_)
                replace hST := hST.drew
                have hS0 := hST.has.sel (Kr Sn)
                refine PX_start1 hS0 Tryz_mixed (X 0 rfl hS0 (R_move K) (X 1 rfl hS0 (R_move M) ?_))
                obtain ⟨b7, b0, c⟩ := bind_some c
                refine XQ 2 rfl hS0 (R_indexTail (i := x) (x0 := b7) Tryz.underlying22 Tryz.sizeOf83 rfl rfl g Q (idx_nonneg b0) (idx_get b0)) (fun g6 e3 => XH 3 rfl hS0 (fun _ hS => R_load rfl (load_ixA hS (fun p hq => (Ml hq)) g lenCred e3 (tail_get (idx_get b0)) Tryz.isAgg83 Tryz.sizeOf83)) (X 4 rfl hS0 (R_move K) (X 5 rfl hS0 (R_move M) (X 6 rfl hS0 (R_int rfl rfl rfl) ?_))))
                obtain ⟨b8, b1, c⟩ := bind_some c
                refine XQ 7 rfl hS0 (R_indexTail (i := (IntKind.i64.wrap (x - 1))) (x0 := b8) Tryz.underlying22 Tryz.sizeOf83 rfl rfl g Q (idx_nonneg b1) (idx_get b1)) (fun g7 e4 => XH 8 rfl hS0 (fun _ hS => R_load rfl (load_ixA hS (fun p hq => (Ml hq)) g lenCred e4 (tail_get (idx_get b1)) Tryz.isAgg83 Tryz.sizeOf83)) (X 9 rfl hS0 (R_neq rfl rfl (guard_agg Tryz.eqGuardType83) (bin_neq (eqInCred _ b7 b8))) (PX_done (by kernel_rfl) (sq_n (CW_if (b := (!(beqCred b7 b8))) rfl (fun a7 => ?_) (fun a7 => ?_))))))
                · replace c := if_t a7 c
                  refine CW_seq (CW_region (V (R_move Y) (V (R_move Z) (V (R_move K) (V (R_move M) ?_)))))
                  obtain ⟨a3, b2, c⟩ := bind_some c
                  refine VQ (R_indexTail (i := x) (x0 := a3) Tryz.underlying22 Tryz.sizeOf83 rfl rfl g Q (idx_nonneg b2) (idx_get b2)) (fun g8 e5 => V (R_load rfl (load_ixA hST.has (fun p hq => (Ml hq)) g lenCred e5 (tail_get (idx_get b2)) Tryz.isAgg83 Tryz.sizeOf83)) ?_)
                  obtain ⟨f9, b3, c⟩ := bind_some c
                  refine VQ (R_indexRow (i := D) (x0 := f9) Tryz.underlying22 Tryz.sizeOf83 rfl rfl g (idx_nonneg b3) (idx_get b3)) (fun g9 e6 => VO (F_storeRow (u := (.agg (encCred a3).toArray)) (x1 := a3)  hST g lenCred oneCred rfl rfl rfl e6 (idx_get b3) Tryz.sizeOf83 (fun g3 f3 hST d6 => LW_nil (sq_n (CW_region (V (R_move Z) (V (R_int rfl rfl rfl) (V (R_assign rfl) (LW_nil (bq_n (sq_n ?_)))))))))))
                  replace c := Option.some.inj c; subst c
                  exact ⟨((I.set (Int.toNat D) a3)), f3, ((IntKind.i64.wrap (D + 1))), _, (hST.sel St), Y, rfl, K, M, d6, c2⟩
                replace c := if_f a7 c
                refine CW_skip (bq_n (sq_n ?_))
                replace c := Option.some.inj c; subst c
                exact ⟨I, N, D, _, (hST.sel St), Y, Z, K, M, g, c2⟩
              rintro E W ⟨a1, U, a2, c7, hST, f4, f5, f6, f7, e9, e0⟩
              exact CW_region (V (R_move f7) (V (R_int rfl rfl rfl) (V (R_assign rfl) (LW_nil (sq_n ⟨d0, Nat.lt_succ_self _, a1, U, a2, ((IntKind.i64.wrap (x + 1))), _, (hST.sel St), f4, f5, f6, rfl, e9, e0⟩)))))
            replace f := if_f a6 f
            refine CW_exit (sq_e (sq_e (bq_e (sq_n ?_))))
            replace f := Option.some.inj f; subst f
            exact ⟨I, N, D, _, (hST.sel St), Y, Z, g, d9⟩
        rintro E W ⟨T, b4, k, c5, hST, c8, c9, c3, B⟩
        refine CW_seq (CW_region (V (R_move c8) (V (R_move c9) ?_)))
        obtain ⟨_, c0, B⟩ := bind_some B
        refine VQ (R_sliceTail (i := k) Tryz.underlying22 Tryz.sizeOf83 rfl rfl c3 (chk_1 c0) (chk_2 c0)) (fun h2 e7 => VO (F_clearTail (z := (⟨0, (⟨zS, zS⟩ : Role), zS, (⟨zS, zS⟩ : Role), (⟨zS, zS⟩ : Role), zS⟩ : Cred))  hST c3 lenCred oneCred Tryz.underlying22 Tryz.zeroValue83 e7 rfl rfl (fun g2 f2 hST d5 => LW_nil (sq_n (CW_seq (CW_region (V (R_move c8) (V (R_move c9) ?_))))))))
        obtain ⟨_, c1, B⟩ := bind_some B
        refine VQ (R_sliceTo (i := k) Tryz.underlying22 Tryz.sizeOf83 rfl rfl d5 lenCred (chk_1 c1) (chk_2 c1)) (fun d3 e8 => V (R_assign rfl) (LW_nil (sq_n (CW_ret (bq_r (sq_r (sq_r (bq_r (sq_r ?_)))))))))
        replace B := Option.some.inj B; subst B
        exact retQ_1 (v := d3) rfl rfl ⟨_, _, rfl, (hST.bkM (Kr Sn)), d3, f2, rfl, rfl, e8⟩
      replace a := if_f a5 a
      exact CW_skip (bq_n (sq_n (CW_region (V (R_move J) (V (R_int rfl rfl rfl) (V (R_assign rfl) (LW_nil (sq_n ⟨f8, Nat.lt_succ_self _, ((IntKind.i64.wrap (j + 1))), _, (hST.sel St), H, rfl, a⟩))))))))
    replace a := if_f a4 a
    refine CW_exit (sq_e (sq_e (bq_e (sq_n (CW_seq (CW_region (V (R_move H) (V (R_assign rfl) (LW_nil (sq_n (CW_ret ?_)))))))))))
    replace a := Option.some.inj a; subst a
    exact retQ_1 (v := t) rfl rfl ⟨_, _, rfl, (hST.bkM (Kr Sn)), t, y, rfl, rfl, G⟩
theorem w_cred_Set (a : Value) (k : List Cred) (r : List Cred) (w : World) (z : Sl (Pl encCred) 9 (hp w) a k) (hm : m_cred_Set k = some r) :
    GivesRow true Tryz.prog 77 [a] w 83 encCred 9 r := by
  have hST := ST.start (dd := true) w
  unfold m_cred_Set at hm
  refine calls_of_CW (n := 11) Tryz.func77 rfl rfl (Nat.le_of_ble_eq_true rfl) (CW_seq (CW_region (V (R_assign rfl) (LW_nil (sq_n (CW_seq (CW_region (V (R_move rfl) ?_))))))))
  obtain ⟨r1, Q, hm⟩ := bind_some hm
  refine VE (F_givesRow (args := [a]) _ hST rfl Tryz.call81 (by exact args1 rfl) ((w_slices_Clone_Cred a k _ _ (z.mono (Pl.mono _) hST.sub_hp) Q)) (fun W3 U μ4 R7 hST a4 N => ?_))
  obtain ⟨r9, B, hm⟩ := bind_some hm
  have hsz := hST.size
  refine VE (E_callM (args := [U, (.func (.func 124) #[] #[])]) (caps := #[]) _ _ hST (Cr Qz Cn) rfl Tryz.call80 (by exact args2 rfl rfl) (fun hH hN hsb hmm => (w_slices_DeleteFunc_Cred U r1 R7 (.func (.func 124) #[] #[]) (fun (x : Cred) => m_cred_Set_c1 x) _ _ ⟨hH, hN, Sub.refl _⟩ N ⟨124, #[], #[], rfl, Tryz.call124, fun W x r hs hm => w_cred_Set_c1 x r W  hm⟩ B)) (fun b0 b4 b7 a7 hST Z hlift t => ?_))
  obtain ⟨i, J, c, rfl, H⟩ := t
  replace c := c.symm; subst c
  replace hST := hST.perm (Tr Tn)
  refine V (R_assign rfl) (LW_nil (sq_n (CW_seq (CW_region (V (R_move rfl) ?_)))))
  obtain ⟨T, D, hm⟩ := bind_some hm
  have hsz := hST.size
  refine VE (E_callM (args := [i, (.func (.func 126) #[] #[])]) (caps := #[]) _ _ hST (Cr Qz Cn) rfl Tryz.call125 (by exact args2 rfl rfl) (fun hH hN hsb hmm => (w_sortF125 i r9 J (.func (.func 126) #[] #[]) (fun (x : (Cred × Cred)) => m_cred_Compare x.1 x.2) _ _ ⟨hH, hN, Sub.refl _⟩ H ⟨126, #[], rfl, Tryz.call126, fun W x r hs hm => w_cred_Compare x.1 x.2 r W  hm⟩ D)) (fun b1 b5 b8 a8 hST a1 hlift u => ?_))
  obtain ⟨K, f, rfl, I⟩ := u
  replace f := f.symm; subst f
  replace hST := hST.perm (Tr Tn)
  refine LW_nil (sq_n (CW_seq (CW_region (V (R_move rfl) ?_))))
  obtain ⟨b3, G, hm⟩ := bind_some hm
  have hsz := hST.size
  refine VE (E_callM (args := [i]) (caps := #[]) _ _ hST (Cr Qz Cn) rfl Tryz.call127 (by exact args1 rfl) (fun hH hN hsb hmm => (w_slices_Compact_Cred i T K _ _ ⟨hH, hN, Sub.refl _⟩ I G)) (fun b2 b6 b9 a9 hST a2 hlift y => ?_))
  obtain ⟨Y, M, g, rfl, j⟩ := y
  replace g := g.symm; subst g
  replace hST := hST.perm (Tr Tn)
  refine V (R_assign rfl) (LW_nil (sq_n (CW_ret ?_)))
  replace hm := Option.some.inj hm; subst hm
  exact retQ_1 (v := Y) rfl rfl ⟨_, M, rfl, hST.backRow (fun p hq => (Ml hq)) j.nd, j⟩
theorem w_cred_Roles (a : Cred) (r : List Role) (w : World)  (hm : m_cred_Roles a = some r) :
    GivesRow true Tryz.prog 86 [(.agg (encCred a).toArray)] w 47 encRole 2 r := by
  have hST := ST.start (dd := true) w
  unfold m_cred_Roles at hm
  refine calls_of_CW (n := 27) Tryz.func86 rfl rfl (Nat.le_of_ble_eq_true rfl) (CW_seq (CW_region (VE (E_box (v := (.agg (encCred a).toArray)) hST rfl (fun W2 b1 hST => V (R_assign rfl) (LW_nil (sq_n (CW_seq (CW_seq (CW_region (V (R_load rfl (load_boxA hST.has Mh (encCred a) rfl Tryz.isAgg83 Tryz.sizeOf83)) ?_)))))))))))
  obtain ⟨r3, a9, hm⟩ := bind_some hm
  refine VE (E_gives (args := [(.agg (encCred a).toArray)]) hST rfl Tryz.call98 (by exact args1 rfl) ((w_cred_Right a _ _  a9)) (fun W5 hST => V (R_not rfl) (LW_nil (sq_n (CW_if (b := (!r3)) rfl (fun D => ?_) (fun D => ?_))))))
  · replace hm := if_t D hm
    refine CW_seq (CW_region (V (R_assign rfl) (LW_nil (sq_n ?_))))
    replace hST := hST.sel (Db St)
    refine CW_ret (sq_r ?_)
    replace hm := Option.some.inj hm; subst hm
    exact retQ_1 (v := (.slice none 0 0)) rfl rfl ⟨_, [], rfl, hST.backRow (fun p hq => by cases hq) (by simp), Row.nil _ _ _⟩
  replace hm := if_f D hm
  refine CW_skip (sq_n (CW_seq (CW_region (V (R_field fa83_1 rfl) (V (R_load rfl (load_boxA hST.has Mh (encRole a.Head) rfl Tryz.isAgg47 Tryz.sizeOf47)) (VE (E_buildSlice (qs := #[(0, (.agg (encRole a.Head).toArray))]) (cs := (encRole a.Head).toArray) hST (parts1 rfl) (run_lit [(.agg (encRole a.Head).toArray)] Tryz.underlying23 Tryz.sizeOf47 Tryz.zeroValue47 (by decide) rfl (by intro v hv; simp only [List.mem_cons, List.not_mem_nil, or_false] at hv; rcases hv with rfl <;> rfl) rfl rfl) (fun W8 B hST => V (R_assign rfl) (LW_nil (sq_n (CW_seq ?_)))))))))))
  obtain ⟨c1, f, H⟩ := bind_some hm
  refine CW_cut (fun E W => ∃ (k : Value) (i : List Role) (g : List (Nat × Obj)) (M : List (Nat × Obj)), ST true NoF w W (hp w) ((b1, Obj.cells ((encCred a).toArray : Array Value) 83 (0, 0)) :: (g ++ M)) ∧ E 1 = (.pointer (some ⟨b1, 0, none⟩)) ∧ E 3 = k ∧ Row 47 encRole 2 k i g ∧ (((if (a.Kind == 4) then (((appB 32 i ([a.C]))).bind fun K => some K) else some i) : Option (List Role)).bind fun j => some j) = some r) ?_ ?_
  · refine CW_seq (CW_region (V (R_field fa83_0 rfl) (V (R_load rfl (load_box1 hST.has (Mt Mh) rfl Tryz.isAgg3)) (V (R_int rfl rfl rfl) (LW_nil (sq_n (CW_if (b := (a.Kind != 1)) rfl (fun u => ?_) (fun u => ?_))))))))
    · replace f := if_t u f
      refine CW_region (V (R_move rfl) (V (R_field fa83_3 rfl) (V (R_load rfl (load_boxA hST.has (Mt Mh) (encRole a.B) rfl Tryz.isAgg47 Tryz.sizeOf47)) (VE (E_buildSlice (qs := #[(0, (.agg (encRole a.B).toArray))]) (cs := (encRole a.B).toArray) hST (parts1 rfl) (run_lit [(.agg (encRole a.B).toArray)] Tryz.underlying23 Tryz.sizeOf47 Tryz.zeroValue47 (by decide) rfl (by intro v hv; simp only [List.mem_cons, List.not_mem_nil, or_false] at hv; rcases hv with rfl <;> rfl) rfl rfl) (fun b8 a7 hST => ?_))))))
      replace hST := hST.perm (Nb (Pb Pz) Nz)
      obtain ⟨b0, a1, f⟩ := bind_some f
      refine VE (F_append (enc := encRole) (v := (.slice (some ⟨B, 0, none⟩) 1 1)) (vs := (.slice (some ⟨a7, 0, none⟩) 1 1)) (R := [(B, Obj.cells ((encRole a.Head).toArray : Array Value) 47 (0, 0))]) hST lenRole (by decide) oneRole Tryz.underlying23 info47.1 info47.2.1 rfl info47.2.2.1 info47.2.2.2 rfl rfl (Row.lit (l := [a.Head]) (enc := encRole) rfl (by decide) rfl rfl) (Sl.lit (enc := encRole) (l := [a.B]) lenRole rfl (Nat.le_of_ble_eq_true rfl) rfl (hST.at_ (Mt Mh))) a1 (fun b9 b3 a4 hST Y => V (R_assign rfl) (LW_nil (sq_n ?_))))
      replace f := Option.some.inj f; subst f
      exact ⟨b3, b0, a4, _, (hST.sel (Sb (Pr (Pb Pz)) (Kr (Db St)))), rfl, rfl, Y, H⟩
    replace f := if_f u f
    refine CW_skip (sq_n ?_)
    replace f := Option.some.inj f; subst f
    replace hST : ST true _ _ _ _ ([(B, Obj.cells ((encRole a.Head).toArray : Array Value) 47 (0, 0))] ++ _) := hST
    exact ⟨(.slice (some ⟨B, 0, none⟩) 1 1), ([a.Head]), [(B, Obj.cells ((encRole a.Head).toArray : Array Value) 47 (0, 0))], _, (hST.sel (Sb (Pr Pz) St)), rfl, rfl, (Row.lit (l := [a.Head]) (enc := encRole) rfl (by decide) rfl rfl), H⟩
  rintro E W ⟨k, i, g, M, hST, Q, T, I, a2⟩
  refine CW_seq ?_
  obtain ⟨c0, c, G⟩ := bind_some a2
  refine CW_cut (fun E W => ∃ (z : Value) (j : List Role) (y : List (Nat × Obj)) (N : List (Nat × Obj)), ST true NoF w W (hp w) (y ++ N) ∧ E 3 = z ∧ Row 47 encRole 2 z j y ∧ some j = some r) ?_ ?_
  · refine CW_seq (CW_region (V (R_field fa83_0 Q) (V (R_load rfl (load_box1 hST.has Mh rfl Tryz.isAgg3)) (V (R_int rfl rfl rfl) (LW_nil (sq_n (CW_if (b := (a.Kind == 4)) rfl (fun t => ?_) (fun t => ?_))))))))
    · replace c := if_t t c
      refine CW_region (V (R_move T) (V (R_field fa83_4 Q) (V (R_load rfl (load_boxA hST.has Mh (encRole a.C) rfl Tryz.isAgg47 Tryz.sizeOf47)) (VE (E_buildSlice (qs := #[(0, (.agg (encRole a.C).toArray))]) (cs := (encRole a.C).toArray) hST (parts1 rfl) (run_lit [(.agg (encRole a.C).toArray)] Tryz.underlying23 Tryz.sizeOf47 Tryz.zeroValue47 (by decide) rfl (by intro v hv; simp only [List.mem_cons, List.not_mem_nil, or_false] at hv; rcases hv with rfl <;> rfl) rfl rfl) (fun b5 a6 hST => ?_))))))
      replace hST := hST.perm (Nr (Qb (Qb Qz)) Nz)
      obtain ⟨K, Z, c⟩ := bind_some c
      refine VE (F_append (enc := encRole) (v := k) (vs := (.slice (some ⟨a6, 0, none⟩) 1 1)) (R := g) hST lenRole (by decide) oneRole Tryz.underlying23 info47.1 info47.2.1 rfl info47.2.2.1 info47.2.2.2 rfl rfl I (Sl.lit (enc := encRole) (l := [a.C]) lenRole rfl (Nat.le_of_ble_eq_true rfl) rfl (hST.at_ (Ma Mh))) Z (fun b6 b2 a3 hST U => V (R_assign rfl) (LW_nil (sq_n ?_))))
      replace c := Option.some.inj c; subst c
      exact ⟨b2, K, a3, _, (hST.sel (Kr (Db (Db St)))), rfl, U, G⟩
    replace c := if_f t c
    refine CW_skip (sq_n ?_)
    replace c := Option.some.inj c; subst c
    exact ⟨k, i, g, _, (hST.sel (Db St)), T, I, G⟩
  rintro E W ⟨z, j, y, N, hST, a8, J, x⟩
  refine CW_seq (CW_region (V (R_move a8) (V (R_assign rfl) (LW_nil (sq_n (CW_ret ?_))))))
  replace x := Option.some.inj x; subst x
  exact retQ_1 (v := z) rfl rfl ⟨_, y, rfl, hST.backRow (fun p hq => (Ml hq)) J.nd, J⟩
theorem w_sortS135 (c : Value) (g : List ByteArray) (a : List (Nat × Obj)) (r : List ByteArray) (w : World) {k : Mem} (j : Ent k (a ++ []) w) (f : Row 9 encSk 1 c g a) (hm : sortS g = some r) :
    GivesM true Tryz.prog 135 [c] w (a ++ []) (fun v i W' => ∃ (S : List (Nat × Obj)), v = (.tuple #[]) ∧ i = (S ++ []) ∧ Row 9 encSk 1 c r S) := sortS_gives (P := Tryz.prog) (ρ := ren135) lay135 j.H f hm
theorem w_slices_Compact_string (t : Value) (a0 : List ByteArray) (B : List (Nat × Obj)) (r : List ByteArray) (w : World) {μ0 : Mem} (h0 : Ent μ0 (B ++ []) w) (H : Row 9 encSk 1 t a0 B) (hm : m_slices_Compact_string a0 = some r) :
    GivesM true Tryz.prog 136 [t] w (B ++ []) (fun v L1 W' => ∃ (y1 : Value) (S2 : List (Nat × Obj)), v = y1 ∧ L1 = (S2 ++ []) ∧ Row 9 encSk 1 y1 r S2) := by
  have hST := ST.startE (dd := true) h0
  unfold m_slices_Compact_string at hm
  refine calls_of_CW (n := 61) Tryz.func136 rfl rfl (Nat.le_of_ble_eq_true rfl) (CW_seq (CW_region (V (R_assign rfl) (LW_nil (sq_n (CW_seq (CW_seq (CW_region (V (R_move rfl) (V (R_lenRow Tryz.underlying27 rfl H) (V (R_int rfl rfl rfl) (LW_nil (sq_n (CW_if (b := (decide (((a0.length : Int)) < 2))) rfl (fun d8 => ?_) (fun d8 => ?_)))))))))))))))
  · replace hm := if_t d8 hm
    refine CW_seq (CW_region (V (R_move rfl) (V (R_assign rfl) (LW_nil (sq_n (CW_ret (sq_r ?_)))))))
    replace hm := Option.some.inj hm; subst hm
    exact retQ_1 (v := t) rfl rfl ⟨_, _, rfl, (hST.bkM (Kr Sn)), t, B, rfl, rfl, H⟩
  replace hm := if_f d8 hm
  refine CW_skip (sq_n (CW_seq (CW_seq (CW_region (V (R_assign rfl) (LW_nil (sq_n (CW_block (CW_loop (fun m E W => ∃ (j : Int) (c5 : List (Nat × Obj)), ST true (keys (B ++ [])) w W μ0 (B ++ c5) ∧ E 0 = t ∧ E 3 = (.int .i64 j) ∧ m_slices_Compact_string_L1 a0 m j = some r) FUEL ⟨1, _, (hST.sel St), rfl, rfl, hm⟩ ?_)))))))))
  rintro m E W ⟨j, c5, hST, I, K, a⟩
  cases m with
  | zero => rw [m_slices_Compact_string_L1] at a; cases a
  | succ f9 =>
    rw [m_slices_Compact_string_L1] at a
    refine CW_seq (CW_seq (CW_region (V (R_move K) (V (R_move I) (V (R_lenRow Tryz.underlying27 rfl H) (V (R_int rfl rfl rfl) (LW_nil (sq_n (CW_if (b := (decide (j < ((a0.length : Int))))) rfl (fun a5 => ?_) (fun a5 => ?_))))))))))
    · replace a := if_t a5 a
      refine CW_skip (sq_n (CW_seq (CW_block (CW_seq ?_))))
      replace hST := hST.drew
      have hS0 := hST.has.sel (Kr Sn)
      refine PX_start1 hS0 Tryz_mixed (X 0 rfl hS0 (R_move I) (X 1 rfl hS0 (R_move K) ?_))
      obtain ⟨b6, a9, a⟩ := bind_some a
      refine XQ 2 rfl hS0 (R_indexRow (i := j) (x0 := b6) Tryz.underlying27 Tryz.sizeOf9 rfl rfl H (idx_nonneg a9) (idx_get a9)) (fun g5 e2 => XH 3 rfl hS0 (fun _ hS => R_load rfl (load_ix1 hS (fun p hq => (Ml hq)) H (fun _ => rfl) e2 (idx_get a9) (y := (.string b6)) rfl Tryz.isAgg9)) (X 4 rfl hS0 (R_move I) (X 5 rfl hS0 (R_move K) (X 6 rfl hS0 (R_int rfl rfl rfl) ?_))))
      obtain ⟨b7, b0, a⟩ := bind_some a
      refine XQ 7 rfl hS0 (R_indexRow (i := (IntKind.i64.wrap (j - 1))) (x0 := b7) Tryz.underlying27 Tryz.sizeOf9 rfl rfl H (idx_nonneg b0) (idx_get b0)) (fun g6 e3 => XH 8 rfl hS0 (fun _ hS => R_load rfl (load_ix1 hS (fun p hq => (Ml hq)) H (fun _ => rfl) e3 (idx_get b0) (y := (.string b7)) rfl Tryz.isAgg9)) (X 9 rfl hS0 (R_str rfl rfl rfl) (PX_done (by kernel_rfl) (sq_n (CW_if (b := (beqS b6 b7)) rfl (fun a6 => ?_) (fun a6 => ?_))))))
      · replace a := if_t a6 a
        refine CW_seq (CW_region (V (R_move I) (V (R_move K) ?_)))
        obtain ⟨_, c0, a⟩ := bind_some a
        refine VQ (R_sliceTail (i := j) Tryz.underlying27 Tryz.sizeOf9 rfl rfl H (chk_1 c0) (chk_2 c0)) (fun d3 T => V (R_assign rfl) (LW_nil (sq_n (CW_seq (CW_seq (CW_region (V (R_assign rfl) (LW_nil (sq_n ?_)))))))))
        obtain ⟨d2, d9, e0⟩ := bind_some a
        refine CW_cut (fun E W => ∃ (U : List ByteArray) (b5 : List (Nat × Obj)) (k : Int) (c6 : List (Nat × Obj)), ST true (keys (B ++ [])) w W μ0 (b5 ++ c6) ∧ E 0 = t ∧ E 3 = (.int .i64 k) ∧ Row 9 encSk 1 t U b5 ∧ (((chk (decide (0 ≤ k) && decide (k ≤ (U.length : Int))))).bind fun _ => (((chk (decide (0 ≤ k) && decide (k ≤ (((clearT U (Int.toNat k) zS)).length : Int))))).bind fun _ => some (((clearT U (Int.toNat k) zS)).take (Int.toNat k)))) = some r) ?_ ?_
        · refine CW_block (CW_loop (fun m E W => ∃ (J : List ByteArray) (Q : List (Nat × Obj)) (G : Int) (x : Int) (c7 : List (Nat × Obj)), ST true (keys (B ++ [])) w W μ0 (Q ++ c7) ∧ E 0 = t ∧ E 3 = (.int .i64 G) ∧ E 4 = d3 ∧ E 5 = (.int .i64 x) ∧ Row 9 encSk 1 t J Q ∧ m_slices_Compact_string_L2 j m J G x = some d2) FUEL ⟨a0, B, j, 1, _, (hST.sel St), I, K, rfl, rfl, H, d9⟩ ?_)
          rintro m E W ⟨J, Q, G, x, c7, hST, a1, a2, M, N, g, f⟩
          cases m with
          | zero => rw [m_slices_Compact_string_L2] at f; cases f
          | succ d1 =>
            rw [m_slices_Compact_string_L2] at f
            refine CW_seq (CW_seq (CW_region (V (R_move N) (V (R_move M) (V (R_lenTail Tryz.underlying27 rfl T g) (V (R_int rfl rfl rfl) (LW_nil (sq_n (CW_if (b := (decide (x < (((J.length - (Int.toNat j) : Nat) : Int))))) rfl (fun a7 => ?_) (fun a7 => ?_))))))))))
            · replace f := if_t a7 f
              refine CW_skip (sq_n (CW_seq ?_))
              obtain ⟨h2, c, c3⟩ := bind_some f
              refine CW_cut (fun E W => ∃ (a3 : List ByteArray) (Z : List (Nat × Obj)) (a4 : Int) (c8 : List (Nat × Obj)), ST true (keys (B ++ [])) w W μ0 (Z ++ c8) ∧ E 0 = t ∧ E 3 = (.int .i64 a4) ∧ E 4 = d3 ∧ E 5 = (.int .i64 x) ∧ Row 9 encSk 1 t a3 Z ∧ (m_slices_Compact_string_L2 j d1 a3 a4 ((IntKind.i64.wrap (x + 1)))) = some d2) ?_ ?_
              · refine CW_block (CW_seq ?_)
                replace hST := hST.drew
                have hS0 := hST.has.sel (Kr Sn)
                refine PX_start1 hS0 Tryz_mixed (X 0 rfl hS0 (R_move M) (X 1 rfl hS0 (R_move N) ?_))
                obtain ⟨b8, b1, c⟩ := bind_some c
                refine XQ 2 rfl hS0 (R_indexTail (i := x) (x0 := b8) Tryz.underlying27 Tryz.sizeOf9 rfl rfl g T (idx_nonneg b1) (idx_get b1)) (fun g7 e4 => XH 3 rfl hS0 (fun _ hS => R_load rfl (load_ix1 hS (fun p hq => (Ml hq)) g (fun _ => rfl) e4 (tail_get (idx_get b1)) (y := (.string b8)) rfl Tryz.isAgg9)) (X 4 rfl hS0 (R_move M) (X 5 rfl hS0 (R_move N) (X 6 rfl hS0 (R_int rfl rfl rfl) ?_))))
                obtain ⟨b9, b2, c⟩ := bind_some c
                refine XQ 7 rfl hS0 (R_indexTail (i := (IntKind.i64.wrap (x - 1))) (x0 := b9) Tryz.underlying27 Tryz.sizeOf9 rfl rfl g T (idx_nonneg b2) (idx_get b2)) (fun g8 e5 => XH 8 rfl hS0 (fun _ hS => R_load rfl (load_ix1 hS (fun p hq => (Ml hq)) g (fun _ => rfl) e5 (tail_get (idx_get b2)) (y := (.string b9)) rfl Tryz.isAgg9)) (X 9 rfl hS0 (R_str rfl rfl rfl) (PX_done (by kernel_rfl) (sq_n (CW_if (b := (!(beqS b8 b9))) rfl (fun a8 => ?_) (fun a8 => ?_))))))
                · replace c := if_t a8 c
                  refine CW_seq (CW_region (V (R_move a1) (V (R_move a2) (V (R_move M) (V (R_move N) ?_)))))
                  obtain ⟨Y, b3, c⟩ := bind_some c
                  refine VQ (R_indexTail (i := x) (x0 := Y) Tryz.underlying27 Tryz.sizeOf9 rfl rfl g T (idx_nonneg b3) (idx_get b3)) (fun g9 e6 => V (R_load rfl (load_ix1 hST.has (fun p hq => (Ml hq)) g (fun _ => rfl) e6 (tail_get (idx_get b3)) (y := (.string Y)) rfl Tryz.isAgg9)) ?_)
                  obtain ⟨g0, b4, c⟩ := bind_some c
                  refine VQ (R_indexRow (i := G) (x0 := g0) Tryz.underlying27 Tryz.sizeOf9 rfl rfl g (idx_nonneg b4) (idx_get b4)) (fun h1 e7 => VO (F_storeRow (u := (.string Y)) (x1 := Y)  hST g (fun _ => rfl) oneS rfl rfl rfl e7 (idx_get b4) Tryz.sizeOf9 (fun g4 f4 hST d7 => LW_nil (sq_n (CW_region (V (R_move a2) (V (R_int rfl rfl rfl) (V (R_assign rfl) (LW_nil (bq_n (sq_n ?_)))))))))))
                  replace c := Option.some.inj c; subst c
                  exact ⟨((J.set (Int.toNat G) Y)), f4, ((IntKind.i64.wrap (G + 1))), _, (hST.sel St), a1, rfl, M, N, d7, c3⟩
                replace c := if_f a8 c
                refine CW_skip (bq_n (sq_n ?_))
                replace c := Option.some.inj c; subst c
                exact ⟨J, Q, G, _, (hST.sel St), a1, a2, M, N, g, c3⟩
              rintro E W ⟨a3, Z, a4, c8, hST, f5, f6, f7, f8, f0, e1⟩
              exact CW_region (V (R_move f8) (V (R_int rfl rfl rfl) (V (R_assign rfl) (LW_nil (sq_n ⟨d1, Nat.lt_succ_self _, a3, Z, a4, ((IntKind.i64.wrap (x + 1))), _, (hST.sel St), f5, f6, f7, rfl, f0, e1⟩)))))
            replace f := if_f a7 f
            refine CW_exit (sq_e (sq_e (bq_e (sq_n ?_))))
            replace f := Option.some.inj f; subst f
            exact ⟨J, Q, G, _, (hST.sel St), a1, a2, g, e0⟩
        rintro E W ⟨U, b5, k, c6, hST, c9, d0, c4, D⟩
        refine CW_seq (CW_region (V (R_move c9) (V (R_move d0) ?_)))
        obtain ⟨_, c1, D⟩ := bind_some D
        refine VQ (R_sliceTail (i := k) Tryz.underlying27 Tryz.sizeOf9 rfl rfl c4 (chk_1 c1) (chk_2 c1)) (fun h3 e8 => VO (F_clearTail (z := zS)  hST c4 (fun _ => rfl) oneS Tryz.underlying27 Tryz.zeroValue9 e8 rfl rfl (fun g3 f3 hST d6 => LW_nil (sq_n (CW_seq (CW_region (V (R_move c9) (V (R_move d0) ?_))))))))
        obtain ⟨_, c2, D⟩ := bind_some D
        refine VQ (R_sliceTo (i := k) Tryz.underlying27 Tryz.sizeOf9 rfl rfl d6 (fun _ => rfl) (chk_1 c2) (chk_2 c2)) (fun d4 e9 => V (R_assign rfl) (LW_nil (sq_n (CW_ret (bq_r (sq_r (sq_r (bq_r (sq_r ?_)))))))))
        replace D := Option.some.inj D; subst D
        exact retQ_1 (v := d4) rfl rfl ⟨_, _, rfl, (hST.bkM (Kr Sn)), d4, f3, rfl, rfl, e9⟩
      replace a := if_f a6 a
      exact CW_skip (bq_n (sq_n (CW_region (V (R_move K) (V (R_int rfl rfl rfl) (V (R_assign rfl) (LW_nil (sq_n ⟨f9, Nat.lt_succ_self _, ((IntKind.i64.wrap (j + 1))), _, (hST.sel St), I, rfl, a⟩))))))))
    replace a := if_f a5 a
    refine CW_exit (sq_e (sq_e (bq_e (sq_n (CW_seq (CW_region (V (R_move I) (V (R_assign rfl) (LW_nil (sq_n (CW_ret ?_)))))))))))
    replace a := Option.some.inj a; subst a
    exact retQ_1 (v := t) rfl rfl ⟨_, _, rfl, (hST.bkM (Kr Sn)), t, B, rfl, rfl, H⟩
theorem w_name_Set (H : Value) (J : List ByteArray) (r : List ByteArray) (w : World) (G : Sl (Pl encSk) 1 (hp w) H J) (hm : m_name_Set J = some r) :
    GivesRow true Tryz.prog 79 [H] w 9 encSk 1 r := by
  have hST := ST.start (dd := true) w
  unfold m_name_Set at hm
  refine calls_of_CW (n := 23) Tryz.func79 rfl rfl (Nat.le_of_ble_eq_true rfl) (CW_seq (CW_region (V (R_assign rfl) (LW_nil (sq_n (CW_seq (CW_region (V (R_assign rfl) (LW_nil (sq_n (CW_seq (CW_seq (CW_region (V (R_move rfl) ?_))))))))))))))
  refine V (R_len Tryz.underlying27 rfl G) (V (R_move rfl) (LW_nil (sq_n (CW_range (fun i E W => ∃ (c : Value) (k : List ByteArray) (g : List (Nat × Obj)) (D : List (Nat × Obj)), (E 8 = .int .i64 (i : Nat) ∧ E 7 = .int .i64 (J.length : Nat)) ∧ ST true NoF w W (hp w) (g ++ D) ∧ E 3 = c ∧ E 6 = H ∧ Row 9 encSk 1 c k g ∧ m_name_Set_L1 (J.drop i) k = some r) J.length G.len ⟨(.slice none 0 0), ([]), [], _, ⟨rfl, rfl⟩, (hST.sel St), rfl, rfl, (Row.nil _ _ _), hm⟩ (by decide) (by decide) (by decide) (fun _ _ _ h => by obtain ⟨_, _, _, _, eIN, _⟩ := h; exact eIN) ?_ ?_))))
  · rintro b7 E W a7 ⟨c, k, g, D, ⟨eI, eN⟩, hST, j, t, x, a⟩
    obtain ⟨f, c9, a9, a8, K⟩ := drop_cons a7
    rw [a9] at a
    rw [m_name_Set_L1] at a
    refine CW_block (CW_seq (CW_region (VQ (R_indexP (enc := encSk) (i := (b7 : Int)) (x0 := f) Tryz.underlying27 Tryz.sizeOf9 t eI G (Int.natCast_nonneg _) a8) (fun c5 U => V (R_load rfl (load_at1 hST.has (y := (.string f)) U Tryz.isAgg9)) (V (R_assign rfl) (LW_nil (sq_n (CW_seq (CW_region (V (R_move rfl) ?_))))))))))
    obtain ⟨b1, Y, a⟩ := bind_some a
    refine VE (E_gives (args := [(.string f)]) hST rfl Tryz.call134 (by exact args1 rfl) ((w_name_Right f _ _  Y)) (fun c0 hST => LW_nil (sq_n (CW_if (b := b1) rfl (fun u => ?_) (fun u => ?_)))))
    · replace a := if_t u a
      refine CW_region (V (R_move j) (V (R_move rfl) (VE (E_buildSlice (qs := #[(0, (.string f))]) (cs := [(.string f)].toArray) hST (parts1 rfl) (run_lit [(.string f)] Tryz.underlying27 Tryz.sizeOf9 Tryz.zeroValue9 (by decide) rfl (by intro v hv; simp only [List.mem_cons, List.not_mem_nil, or_false] at hv; rcases hv with rfl <;> rfl) rfl rfl) (fun c1 a6 hST => ?_)))))
      replace hST := hST.perm (Nr (Qb Qz) Nz)
      obtain ⟨b0, T, a⟩ := bind_some a
      refine VE (F_append (enc := encSk) (v := c) (vs := (.slice (some ⟨a6, 0, none⟩) 1 1)) (R := g) hST (fun _ => rfl) (by decide) oneS Tryz.underlying27 info9.1 info9.2.1 rfl info9.2.2.1 info9.2.2.2 rfl rfl x (Sl.lit (enc := encSk) (l := [f]) (fun _ => rfl) rfl (Nat.le_of_ble_eq_true rfl) rfl (hST.at_ (Ma Mh))) T (fun c2 b3 a3 hST Q => V (R_assign rfl) (LW_nil (bq_n (sq_n ?_)))))
      replace hST := hST.sel (Kr (Db St))
      exact ⟨eI, b3, b0, a3, _, ⟨rfl, eN⟩, (hST.sel St), rfl, t, Q, (by rw [K]; exact a)⟩
    replace a := if_f u a
    exact CW_skip (bq_n (sq_n ⟨eI, c, k, g, _, ⟨rfl, eN⟩, (hST.sel St), j, t, x, (by rw [K]; exact a)⟩))
  rintro E W ⟨c, k, g, D, ⟨eI, eN⟩, hST, j, t, x, a⟩
  rw [List.drop_length] at a
  rw [m_name_Set_L1] at a
  refine sq_n (CW_seq (CW_region (V (R_move j) ?_)))
  obtain ⟨b2, Z, a⟩ := bind_some a
  have hsz := hST.size
  refine VE (E_callM (args := [c]) (caps := #[]) _ _ hST (Cr Qz Cn) rfl Tryz.call135 (by exact args1 rfl) (fun hH hN hsb hmm => (w_sortS135 c k g _ _ ⟨hH, hN, Sub.refl _⟩ x Z)) (fun c3 c7 d0 b8 hST b5 hlift M => ?_))
  obtain ⟨a4, z, rfl, a2⟩ := M
  replace z := z.symm; subst z
  replace hST := hST.perm (Tr Tn)
  refine LW_nil (sq_n (CW_seq (CW_region (V (R_move j) ?_))))
  obtain ⟨c6, a1, a⟩ := bind_some a
  have hsz := hST.size
  refine VE (E_callM (args := [c]) (caps := #[]) _ _ hST (Cr Qz Cn) rfl Tryz.call136 (by exact args1 rfl) (fun hH hN hsb hmm => (w_slices_Compact_string c b2 a4 _ _ ⟨hH, hN, Sub.refl _⟩ a2 a1)) (fun c4 c8 d1 b9 hST b6 hlift N => ?_))
  obtain ⟨b4, a5, B, rfl, I⟩ := N
  replace B := B.symm; subst B
  replace hST := hST.perm (Tr Tn)
  refine V (R_assign rfl) (LW_nil (sq_n (CW_ret ?_)))
  replace a := Option.some.inj a; subst a
  exact retQ_1 (v := b4) rfl rfl ⟨_, a5, rfl, hST.backRow (fun p hq => (Ml hq)) I.nd, I⟩
theorem w_census_names (J : Value) (a0 : List Cred) (r : List ByteArray) (w : World) (a7 : Sl (Pl encCred) 9 (hp w) J a0) (hm : m_census_names a0 = some r) :
    GivesRow true Tryz.prog 119 [J] w 9 encSk 1 r := by
  have hST := ST.start (dd := true) w
  unfold m_census_names at hm
  refine calls_of_CW (n := 35) Tryz.func119 rfl rfl (Nat.le_of_ble_eq_true rfl) (CW_seq (CW_region (V (R_assign rfl) (LW_nil (sq_n (CW_seq (CW_region (V (R_assign rfl) (LW_nil (sq_n (CW_seq (CW_seq (CW_region (V (R_move rfl) ?_))))))))))))))
  refine V (R_len Tryz.underlying22 rfl a7) (V (R_move rfl) (LW_nil (sq_n (CW_range (fun i E W => ∃ (t : Value) (I : List ByteArray) (D : List (Nat × Obj)) (Z : Mem) (a3 : List (Nat × Obj)), (E 10 = .int .i64 (i : Nat) ∧ E 9 = .int .i64 (a0.length : Nat)) ∧ Sub (hp w) Z ∧ ST true NoF w W Z (D ++ a3) ∧ E 3 = t ∧ E 8 = J ∧ Row 9 encSk 1 t I D ∧ m_census_names_L1 (a0.drop i) I = some r) a0.length a7.len ⟨(.slice none 0 0), ([]), [], (hp w), _, ⟨rfl, rfl⟩, (Sub.refl _), (hST.sel St), rfl, rfl, (Row.nil _ _ _), hm⟩ (by decide) (by decide) (by decide) (fun _ _ _ h => by obtain ⟨_, _, _, _, _, eIN, _⟩ := h; exact eIN) ?_ ?_))))
  · rintro a8 E W d3 ⟨t, I, D, Z, a3, ⟨eI, eN⟩, G, hST, a5, a6, Y, a⟩
    obtain ⟨f, e4, d7, d6, d8⟩ := drop_cons d3
    rw [d7] at a
    rw [m_census_names_L1] at a
    refine CW_block (CW_seq (CW_region (VQ (R_indexP (enc := encCred) (i := (a8 : Int)) (x0 := f) Tryz.underlying22 Tryz.sizeOf83 a6 eI (a7.mono (Pl.mono _) G) (Int.natCast_nonneg _) d6) (fun g8 d4 => V (R_load rfl (load_atA hST.has d4 Tryz.isAgg83 Tryz.sizeOf83)) (VE (E_alloc hST Tryz.zeroValue83 (fun g2 g7 hST => VO (F_store (.agg (encCred f).toArray) ((encCred f).toArray) hST rfl rfl Tryz.sizeOf83 (oneCred f) (Nat.le_of_ble_eq_true rfl) rfl (fun g3 hST => LW_nil (sq_n (CW_seq (CW_region (V (R_move a5) (V (R_field fa83_2 rfl) (V (R_load rfl (load_box1 hST.has Mh rfl Tryz.isAgg9)) (VE (E_buildSlice (qs := #[(0, (.string f.Who))]) (cs := [(.string f.Who)].toArray) hST (parts1 rfl) (run_lit [(.string f.Who)] Tryz.underlying27 Tryz.sizeOf9 Tryz.zeroValue9 (by decide) rfl (by intro v hv; simp only [List.mem_cons, List.not_mem_nil, or_false] at hv; rcases hv with rfl <;> rfl) rfl rfl) (fun g4 e7 hST => ?_))))))))))))))))))
    replace hST := hST.perm (Nr (Qb (Qb Qz)) Nz)
    obtain ⟨e8, d2, a⟩ := bind_some a
    refine VE (F_append (enc := encSk) (v := t) (vs := (.slice (some ⟨e7, 0, none⟩) 1 1)) (R := D) hST (fun _ => rfl) (by decide) oneS Tryz.underlying27 info9.1 info9.2.1 rfl info9.2.2.1 info9.2.2.2 rfl rfl Y (Sl.lit (enc := encSk) (l := [f.Who]) (fun _ => rfl) rfl (Nat.le_of_ble_eq_true rfl) rfl (hST.at_ (Ma Mh))) d2 (fun g5 e9 e5 hST d1 => V (R_assign rfl) (LW_nil (sq_n ?_))))
    replace hST := hST.sel (Kr (Db St))
    refine CW_seq (CW_region (V (R_load rfl (load_boxA hST.has (Ma Mh) (encCred f) rfl Tryz.isAgg83 Tryz.sizeOf83)) ?_))
    obtain ⟨a9, d5, a⟩ := bind_some a
    refine VE (F_givesRow (args := [(.agg (encCred f).toArray)]) _ hST rfl Tryz.call86 (by exact args1 rfl) ((w_cred_Roles f _ _  d5)) (fun g6 f0 b0 e6 hST b5 y => V (R_lenRow Tryz.underlying23 rfl y) (V (R_move rfl) (LW_nil (sq_n ?_)))))
    replace hST := hST.sel (Kr (Kr (Db St)))
    refine CW_tail ?_
    obtain ⟨e1, b7, b8⟩ := bind_some a
    refine CW_cut (fun E W => ∃ (B : Value) (z : List ByteArray) (x : List (Nat × Obj)) (b1 : List (Nat × Obj)), ST true NoF w W b0 (x ++ b1) ∧ E 3 = B ∧ E 8 = J ∧ E 9 = (.int .i64 ((a0.length : Int))) ∧ E 10 = (.int .i64 ((a8 : Int))) ∧ Row 9 encSk 1 B z x ∧ (m_census_names_L1 e4 z) = some r) ?_ ?_
    · refine CW_range (fun i E W => ∃ (k : Value) (u : List ByteArray) (j : List (Nat × Obj)) (K : List (Nat × Obj)), (E 22 = .int .i64 (i : Nat) ∧ E 21 = .int .i64 (a9.length : Nat)) ∧ ST true NoF w W b0 (j ++ (e6 ++ K)) ∧ E 3 = k ∧ E 8 = J ∧ E 9 = (.int .i64 ((a0.length : Int))) ∧ E 10 = (.int .i64 ((a8 : Int))) ∧ E 20 = f0 ∧ Row 9 encSk 1 k u j ∧ m_census_names_L2 (a9.drop i) u = some e1) a9.length y.len ⟨e9, e8, e5, _, ⟨rfl, rfl⟩, (hST.sel (Sr (Qr Qz) St)), rfl, a6, eN, eI, rfl, d1, b7⟩ (by decide) (by decide) (by decide) (fun _ _ _ h => by obtain ⟨_, _, _, _, eIN, _⟩ := h; exact eIN) ?_ ?_
      · rintro d9 E W b4 ⟨k, u, j, K, ⟨eI, eN⟩, hST, M, N, Q, T, U, H, c⟩
        obtain ⟨g, f2, c2, a2, c3⟩ := drop_cons b4
        rw [c2] at c
        rw [m_census_names_L2] at c
        refine CW_block (CW_seq (CW_region (VQ (R_indexRow (i := (d9 : Int)) (x0 := g) Tryz.underlying23 Tryz.sizeOf47 U eI y (Int.natCast_nonneg _) a2) (fun f9 b9 => V (R_load rfl (load_ixA hST.has (fun p hq => (Ma (Ml hq))) y lenRole b9 a2 Tryz.isAgg47 Tryz.sizeOf47)) (VE (E_alloc hST Tryz.zeroValue47 (fun f3 f8 hST => VO (F_store (.agg (encRole g).toArray) ((encRole g).toArray) hST rfl rfl Tryz.sizeOf47 (oneRole g) (Nat.le_of_ble_eq_true rfl) rfl (fun f4 hST => LW_nil (sq_n (CW_region (V (R_move M) (V (R_field fa47_0 rfl) (V (R_load rfl (load_box1 hST.has Mh rfl Tryz.isAgg9)) (VE (E_buildSlice (qs := #[(0, (.string g.Owner))]) (cs := [(.string g.Owner)].toArray) hST (parts1 rfl) (run_lit [(.string g.Owner)] Tryz.underlying27 Tryz.sizeOf9 Tryz.zeroValue9 (by decide) rfl (by intro v hv; simp only [List.mem_cons, List.not_mem_nil, or_false] at hv; rcases hv with rfl <;> rfl) rfl rfl) (fun f5 c6 hST => ?_)))))))))))))))))
        replace hST := hST.perm (Nr (Qb (Qb Qz)) Nz)
        obtain ⟨e0, b3, c⟩ := bind_some c
        refine VE (F_append (enc := encSk) (v := k) (vs := (.slice (some ⟨c6, 0, none⟩) 1 1)) (R := j) hST (fun _ => rfl) (by decide) oneS Tryz.underlying27 info9.1 info9.2.1 rfl info9.2.2.1 info9.2.2.2 rfl rfl H (Sl.lit (enc := encSk) (l := [g.Owner]) (fun _ => rfl) rfl (Nat.le_of_ble_eq_true rfl) rfl (hST.at_ (Ma Mh))) b3 (fun f6 e2 c4 hST b2 => V (R_assign rfl) (LW_nil (bq_n (sq_n ?_)))))
        replace hST := hST.sel (Kr (Db (Db St)))
        exact ⟨eI, e2, e0, c4, _, ⟨rfl, eN⟩, (hST.sel St), rfl, N, Q, T, U, b2, (by rw [c3]; exact c)⟩
      rintro E W ⟨k, u, j, K, ⟨eI, eN⟩, hST, M, N, Q, T, U, H, c⟩
      rw [List.drop_length] at c
      rw [m_census_names_L2] at c
      refine sq_n ?_
      replace c := Option.some.inj c; subst c
      exact ⟨k, u, j, _, (hST.sel (Kr (Dr St))), M, N, Q, T, H, b8⟩
    rintro E W ⟨B, z, x, b1, hST, c7, c8, c9, d0, c1, b6⟩
    exact bq_n (sq_n ⟨d0, B, z, x, b0, _, ⟨rfl, c9⟩, (G.trans b5), (hST.sel St), c7, c8, c1, (by rw [d8]; exact b6)⟩)
  rintro E W ⟨t, I, D, Z, a3, ⟨eI, eN⟩, G, hST, a5, a6, Y, a⟩
  rw [List.drop_length] at a
  rw [m_census_names_L1] at a
  refine sq_n (CW_seq (CW_region (V (R_move a5) ?_)))
  obtain ⟨g0, c0, a⟩ := bind_some a
  refine VE (F_givesRow (args := [t]) _ hST rfl Tryz.call79 (by exact args1 rfl) ((w_name_Set t I _ _ (Y.sl (fun _ => rfl) (fun b o hq => hST.at_ (Ml hq))) c0)) (fun f7 e3 g1 c5 hST f1 a1 => V (R_assign rfl) (LW_nil (sq_n ?_))))
  replace hST := hST.sel (Kr (Dr St))
  refine CW_ret ?_
  replace a := Option.some.inj a; subst a
  exact retQ_1 (v := e3) rfl rfl ⟨_, c5, rfl, hST.backRow (fun p hq => (Ml hq)) a1.nd, a1⟩
theorem w_slices_Index_Cred (j : Value) (t : List Cred) (c : Cred) (r : Int) (w : World) (f : Sl (Pl encCred) 9 (hp w) j t) (hm : m_slices_Index_Cred t c = some r) :
    Gives true Tryz.prog 186 [j, (.agg (encCred c).toArray)] w (.int .i64 r) := by
  have hST := ST.start (dd := true) w
  unfold m_slices_Index_Cred at hm
  refine calls_of_CW (n := 19) Tryz.func186 rfl rfl (Nat.le_of_ble_eq_true rfl) (CW_seq (CW_region (VE (E_box (v := (.agg (encCred c).toArray)) hST rfl (fun N J hST => V (R_assign rfl) (LW_nil (sq_n (CW_seq (CW_seq (CW_region (V (R_move rfl) (V (R_len Tryz.underlying22 rfl f) (V (R_move rfl) (LW_nil (sq_n ?_)))))))))))))))
  refine CW_range (fun i E W => ∃  (k : List (Nat × Obj)), (E 8 = .int .i64 (i : Nat) ∧ E 7 = .int .i64 (t.length : Nat)) ∧ ST true NoF w W (hp w) ((J, Obj.cells ((encCred c).toArray : Array Value) 83 (0, 0)) :: k) ∧ E 0 = j ∧ E 3 = (.pointer (some ⟨J, 0, none⟩)) ∧ m_slices_Index_Cred_L1 c (t.drop i) i = some r) t.length f.len ⟨_, ⟨rfl, rfl⟩, (hST.sel St), rfl, rfl, hm⟩ (by decide) (by decide) (by decide) (fun _ _ _ h => by obtain ⟨_, eIN, _⟩ := h; exact eIN) ?_ ?_
  · rintro z E W B ⟨k, ⟨eI, eN⟩, hST, u, x, a⟩
    obtain ⟨y, K, H, G, I⟩ := drop_cons B
    rw [H] at a
    rw [m_slices_Index_Cred_L1] at a
    refine CW_block (CW_seq (CW_region (V (R_move eI) (V (R_assign rfl) (LW_nil (sq_n (CW_seq ?_)))))))
    replace hST := hST.drew
    have hS0 := hST.has.sel (Kb Sn)
    refine PX_start1 hS0 Tryz_mixed (XH 0 rfl hS0 (fun _ hS => R_load x (load_boxA hS Mh (encCred c) rfl Tryz.isAgg83 Tryz.sizeOf83)) (X 1 rfl hS0 (R_move u) (X 2 rfl hS0 (R_move rfl) (XQ 3 rfl hS0 (R_indexP (enc := encCred) (i := (z : Int)) (x0 := y) Tryz.underlying22 Tryz.sizeOf83 rfl rfl f (Int.natCast_nonneg _) G) (fun M D => XH 4 rfl hS0 (fun _ hS => R_load rfl (load_atA hS D Tryz.isAgg83 Tryz.sizeOf83)) (X 5 rfl hS0 (R_eql rfl rfl (guard_agg Tryz.eqGuardType83) (bin_eql (eqInCred _ c y))) (PX_done (by kernel_rfl) (sq_n (CW_if (b := (beqCred c y)) rfl (fun g => ?_) (fun g => ?_))))))))))
    · replace a := if_t g a
      refine CW_seq (CW_region (V (R_move rfl) (V (R_assign rfl) (LW_nil (sq_n ?_)))))
      replace hST := hST.sel (Db St)
      refine CW_ret (bq_r (sq_r (bq_r (sq_r ?_))))
      replace a := Option.some.inj a; subst a
      exact retQ_1 (v := (.int .i64 ((z : Int)))) rfl rfl ⟨rfl, hST.ex⟩
    replace a := if_f g a
    exact CW_skip (bq_n (sq_n ⟨eI, _, ⟨rfl, eN⟩, (hST.sel St), u, x, (by rw [I]; exact a)⟩))
  rintro E W ⟨k, ⟨eI, eN⟩, hST, u, x, a⟩
  rw [List.drop_length] at a
  rw [m_slices_Index_Cred_L1] at a
  refine sq_n ?_
  replace hST := hST.sel (Db St)
  refine CW_seq (CW_region (V (R_assign rfl) (LW_nil (sq_n (CW_ret ?_)))))
  replace a := Option.some.inj a; subst a
  exact retQ_1 (v := (.int .i64 ((-1)))) rfl rfl ⟨rfl, hST.ex⟩
theorem w_slices_Contains_Cred (a : Value) (f : List Cred) (c : Cred) (r : Bool) (w : World) (g : Sl (Pl encCred) 9 (hp w) a f) (hm : m_slices_Contains_Cred f c = some r) :
    Gives true Tryz.prog 145 [a, (.agg (encCred c).toArray)] w (.bool r) := by
  have hST := ST.start (dd := true) w
  unfold m_slices_Contains_Cred at hm
  refine calls_of_CW (n := 9) Tryz.func145 rfl rfl (Nat.le_of_ble_eq_true rfl) (CW_seq (CW_region (VE (E_box (v := (.agg (encCred c).toArray)) hST rfl (fun k u hST => V (R_assign rfl) (LW_nil (sq_n (CW_seq (CW_region (V (R_move rfl) (V (R_load rfl (load_boxA hST.has Mh (encCred c) rfl Tryz.isAgg83 Tryz.sizeOf83)) ?_)))))))))))
  obtain ⟨j, i, hm⟩ := bind_some hm
  refine VE (E_gives (args := [a, (.agg (encCred c).toArray)]) hST rfl Tryz.call186 (by exact args2 rfl rfl) ((w_slices_Index_Cred a f c _ _ (g.mono (Pl.mono _) hST.sub_hp) i)) (fun t hST => V (R_int rfl rfl rfl) (V (R_assign rfl) (LW_nil (sq_n ?_)))))
  replace hST := hST.sel (Db St)
  refine CW_ret ?_
  replace hm := Option.some.inj hm; subst hm
  exact retQ_1 (v := (.bool ((decide (j ≥ 0))))) rfl rfl ⟨rfl, hST.ex⟩
theorem w_cred_Has (a : Value) (f : List Cred) (c : Cred) (r : Bool) (w : World) (g : Sl (Pl encCred) 9 (hp w) a f) (hm : m_cred_Has f c = some r) :
    Gives true Tryz.prog 99 [a, (.agg (encCred c).toArray)] w (.bool r) := by
  have hST := ST.start (dd := true) w
  unfold m_cred_Has at hm
  refine calls_of_CW (n := 8) Tryz.func99 rfl rfl (Nat.le_of_ble_eq_true rfl) (CW_seq (CW_region (VE (E_box (v := (.agg (encCred c).toArray)) hST rfl (fun k u hST => V (R_assign rfl) (LW_nil (sq_n (CW_seq (CW_region (V (R_move rfl) (V (R_load rfl (load_boxA hST.has Mh (encCred c) rfl Tryz.isAgg83 Tryz.sizeOf83)) ?_)))))))))))
  obtain ⟨j, i, hm⟩ := bind_some hm
  refine VE (E_gives (args := [a, (.agg (encCred c).toArray)]) hST rfl Tryz.call145 (by exact args2 rfl rfl) ((w_slices_Contains_Cred a f c _ _ (g.mono (Pl.mono _) hST.sub_hp) i)) (fun t hST => V (R_assign rfl) (LW_nil (sq_n ?_))))
  replace hST := hST.sel (Db St)
  refine CW_ret ?_
  replace hm := Option.some.inj hm; subst hm
  exact retQ_1 (v := (.bool j)) rfl rfl ⟨rfl, hST.ex⟩
theorem w_model_Model_note_w (K : Nat) (t : Value) (a9 : List (Role × (List (ByteArray × Bool)))) (G : List (Nat × Obj)) (D : Value) (Z : List Cred) (y : List (Nat × Obj)) (c : Value) (U : List (Role × (List Cred))) (H : List (Nat × Obj)) (f : Value) (J : List (ByteArray × (List Cred))) (j : List (Nat × Obj)) (g : Value) (a3 : List Fact) (u : List (Nat × Obj)) (I : Int) (B : Cred) (r : ((List Cred) × (List (Role × (List Cred))) × (List (ByteArray × (List Cred))))) (w : World) {μ0 : Mem} (h0 : Ent μ0 ((K, Obj.cells (#[t, D, c, f, g, (.int .i64 I)] : Array Value) 134 (0, 0)) :: (G ++ (y ++ (H ++ (j ++ (u ++ [])))))) w) (e7 : DeepE (fun (x : Role) => (.agg (encRole x).toArray)) (MapRow Value.string (fun (x : Bool) => (Value.bool x))) t a9 G) (a5 : Row 83 encCred 9 D Z y) (b2 : DeepE (fun (x : Role) => (.agg (encRole x).toArray)) (Row 83 encCred 9) c U H) (Q : DeepE Value.string (Row 83 encCred 9) f J j) (d9 : Que 78 encFact 3 g a3 u) (hm : m_model_Model_note_w a9 Z U J a3 I B = some r) :
    GivesM true Tryz.prog 100 [(.pointer (some ⟨K, 0, none⟩)), (.agg (encCred B).toArray)] w ((K, Obj.cells (#[t, D, c, f, g, (.int .i64 I)] : Array Value) 134 (0, 0)) :: (G ++ (y ++ (H ++ (j ++ (u ++ [])))))) (fun v L1 W' => ∃ (y1 : Value) (S2 : List (Nat × Obj)) (S4 : List (Nat × Obj)) (S6 : List (Nat × Obj)), v = (.tuple #[]) ∧ L1 = ((K, Obj.cells (#[t, y1, c, f, g, (.int .i64 I)] : Array Value) 134 (0, 0)) :: (G ++ (S2 ++ (S4 ++ (S6 ++ (u ++ [])))))) ∧ Row 83 encCred 9 y1 r.1 S2 ∧ DeepE (fun (x : Role) => (.agg (encRole x).toArray)) (Row 83 encCred 9) c r.2.1 S4 ∧ DeepE Value.string (Row 83 encCred 9) f r.2.2 S6) := by
  have hST := ST.startE (dd := true) h0
  unfold m_model_Model_note_w at hm
  refine calls_of_CW (n := 55) Tryz.func100 rfl rfl (Nat.le_of_ble_eq_true rfl) (CW_seq (CW_region (VE (E_box (v := (.agg (encCred B).toArray)) hST rfl (fun W2 b1 hST => LW_nil (sq_n (CW_seq ?_)))))))
  replace hST := hST.drew
  have hS0 := hST.has.sel (Kb Sn)
  have hS1 := hST.has.sel (Db (Kb Sn))
  refine PX_start2 10 hS0 hS1 Tryz_mixed (PX_v 0 rfl (by kernel_rfl) (.inl rfl) rfl (by decide) (fun _ _ h => ⟨h.1, til (by rfl) h.2⟩) ⟨hS0, fun _ => hS1⟩ (fun _ _ _ _ => R_move rfl) (PX_v 1 rfl (by kernel_rfl) (.inl rfl) rfl (by decide) (fun _ _ h => ⟨h.1, til (by rfl) h.2⟩) ⟨hS0, fun _ => hS1⟩ (fun _ _ _ _ => R_move rfl) (PX_v 2 rfl (by kernel_rfl) (.inl rfl) rfl (by decide) (fun _ _ h => ⟨h.1, til (by rfl) h.2⟩) ⟨hS0, fun _ => hS1⟩ (fun _ _ _ _ => R_nilCheck rfl) (PX_v 3 rfl (by kernel_rfl) (.inl rfl) rfl (by decide) (fun _ _ h => ⟨h.1, til (by rfl) h.2⟩) ⟨hS0, fun _ => hS1⟩ (fun _ _ _ _ => R_field fa134_1 rfl) (PX_v 4 rfl (by kernel_rfl) (.inl rfl) rfl (by decide) (fun _ _ h => ⟨h.1, til (by rfl) h.2⟩) ⟨hS0, fun _ => hS1⟩ (fun l W hpd hs => have hS := (hs.2 (hpd.bar 10 [4] (by kernel_rfl) rfl)); R_load rfl (load_box1 hS Mh rfl Tryz.isAgg22)) (PX_v 5 rfl (by kernel_rfl) (.inl rfl) rfl (by decide) (fun _ _ h => ⟨h.1, til (by rfl) h.2⟩) ⟨hS0, fun _ => hS1⟩ (fun l W hpd hs => have hS := hs.1; R_load rfl (load_boxA hS Mh (encCred B) rfl Tryz.isAgg83 Tryz.sizeOf83)) (XE 6 rfl (E_buildSlice (qs := #[(0, (.agg (encCred B).toArray))]) (cs := (encCred B).toArray) hST (parts1 rfl) (run_lit [(.agg (encCred B).toArray)] Tryz.underlying22 Tryz.sizeOf83 Tryz.zeroValue83 (by decide) rfl (by intro v hv; simp only [List.mem_cons, List.not_mem_nil, or_false] at hv; rcases hv with rfl <;> rfl) rfl rfl) (fun j4 f8 hST => ?_)))))))))
  have hS0 := hST.has.sel (Db (Kb Sn))
  have hS1 := hST.has.sel (Db (Db (Kb Sn)))
  refine ⟨⟨hS0, fun _ => hS1⟩, ?_⟩
  replace hST := hST.perm (Nr (Qb (Qb (Qb (Qr Qz)))) Nz)
  obtain ⟨a4, e8, hm⟩ := bind_some hm
  refine XE 7 rfl (F_append (enc := encCred) (v := D) (vs := (.slice (some ⟨f8, 0, none⟩) 1 1)) (R := y) hST lenCred (by decide) oneCred Tryz.underlying22 info83.1 info83.2.1 rfl info83.2.2.1 info83.2.2.2 rfl rfl a5 (Sl.lit (enc := encCred) (l := [B]) lenCred rfl (Nat.le_of_ble_eq_true rfl) rfl (hST.at_ (Ma Mh))) e8 (fun j5 j8 b7 hST b5 => ?_))
  have hS0 := hST.has.sel (Dr (Db (Kb Sn)))
  have hS1 := hST.has.sel (Dr (Db (Db (Kb Sn))))
  refine ⟨⟨hS0, fun _ => hS1⟩, (PX_v 8 rfl (by kernel_rfl) (.inl rfl) rfl (by decide) (fun _ _ h => ⟨h.1, til (by rfl) h.2⟩) ⟨hS0, fun _ => hS1⟩ (fun _ _ _ _ => R_nilCheck rfl) (PX_v 9 rfl (by kernel_rfl) (.inl rfl) rfl (by decide) (fun _ _ h => ⟨h.1, til (by rfl) h.2⟩) ⟨hS0, fun _ => hS1⟩ (fun _ _ _ _ => R_field fa134_1 rfl) ?_))⟩
  obtain ⟨a8, b0, rfl⟩ := b5.form
  replace hST := hST.perm (Nb (Pr (Pb (Pb Pz))) Nz)
  refine XO 10 rfl (F_store (.slice a8 a4.length b0) (#[t, (.slice a8 a4.length b0), c, f, g, (.int .i64 I)]) hST rfl rfl Tryz.sizeOf22 (by simp [Value.cells, Value.oneCell']) (Nat.le_of_ble_eq_true rfl) rfl (fun j6 hST => ?_))
  have hS0 := hST.has.sel (Db (Dr (Db (Kb Sn))))
  refine ⟨⟨hS0, fun h => ffl (by kernel_rfl) h⟩, (PX_done (by kernel_rfl) (sq_n ?_))⟩
  replace hST := hST.sel (Kb (Kr (Db St)))
  refine CW_seq (CW_seq (CW_region (V (R_load rfl (load_boxA hST.has (Mt (Ma Mh)) (encCred B) rfl Tryz.isAgg83 Tryz.sizeOf83)) ?_)))
  obtain ⟨c0, e9, hm⟩ := bind_some hm
  refine VE (F_givesRow (args := [(.agg (encCred B).toArray)]) _ hST rfl Tryz.call86 (by exact args1 rfl) ((w_cred_Roles B _ _  e9)) (fun j7 j9 k0 j3 hST g2 e6 => ?_))
  obtain ⟨g1, hST, g3, f0⟩ := ST.pub1 hST e6 lenRole
  obtain ⟨_, b8, hm⟩ := bind_some hm
  refine VQ (R_sliceFrom (i := 1) Tryz.underlying23 Tryz.sizeOf47 rfl rfl f0 (chk_1 b8) (chk_2 b8)) (fun f9 b6 => V (R_len Tryz.underlying23 rfl b6.1) (V (R_move rfl) (LW_nil (sq_n (CW_range (fun i E W => ∃ (a2 : List (Role × (List Cred))) (T : List (Nat × Obj)) (b3 : List (Nat × Obj)), (E 20 = .int .i64 (i : Nat) ∧ E 19 = .int .i64 (((c0.drop (Int.toNat 1))).length : Nat)) ∧ ST true (keys ((K, Obj.cells (#[t, D, c, f, g, (.int .i64 I)] : Array Value) 134 (0, 0)) :: (G ++ (y ++ (H ++ (j ++ (u ++ []))))))) w W g1 ((K, Obj.cells (#[t, (.slice a8 a4.length b0), c, f, g, (.int .i64 I)] : Array Value) 134 (0, 0)) :: ((b1, Obj.cells ((encCred B).toArray : Array Value) 83 (0, 0)) :: (T ++ (b7 ++ (G ++ (j ++ (u ++ b3))))))) ∧ E 0 = (.pointer (some ⟨K, 0, none⟩)) ∧ E 3 = (.pointer (some ⟨b1, 0, none⟩)) ∧ E 18 = f9 ∧ DeepE (fun (x : Role) => (.agg (encRole x).toArray)) (Row 83 encCred 9) c a2 T ∧ m_model_Model_note_w_L1 B J a4 (((c0.drop (Int.toNat 1))).drop i) a2 = some r) ((c0.drop (Int.toNat 1))).length b6.1.len ⟨U, H, _, ⟨rfl, rfl⟩, (hST.sel (Kb (Sb (Pr Pz) (Sr (Qr (Qr Qz)) St)))), rfl, rfl, rfl, b2, hm⟩ (by decide) (by decide) (by decide) (fun _ _ _ h => by obtain ⟨_, _, _, eIN, _⟩ := h; exact eIN) ?_ ?_)))))
  · rintro f1 E W d1 ⟨a2, T, b3, ⟨eI, eN⟩, hST, a0, M, b4, Y, a⟩
    obtain ⟨N, g9, d6, d5, d7⟩ := drop_cons d1
    rw [d6] at a
    rw [m_model_Model_note_w_L1] at a
    refine CW_block (CW_seq (CW_region (VQ (R_indexP (enc := encRole) (i := (f1 : Int)) (x0 := N) Tryz.underlying23 Tryz.sizeOf47 b4 eI b6.1 (Int.natCast_nonneg _) d5) (fun i8 d2 => V (R_load rfl (load_atA hST.has d2 Tryz.isAgg47 Tryz.sizeOf47)) (VE (E_alloc hST Tryz.zeroValue47 (fun h7 i6 hST => VO (F_store (.agg (encRole N).toArray) ((encRole N).toArray) hST rfl rfl Tryz.sizeOf47 (oneRole N) (Nat.le_of_ble_eq_true rfl) rfl (fun h8 hST => LW_nil (sq_n ?_))))))))))
    replace hST := hST.drew
    have hS0 := hST.has.sel (Kb (Kb (Kb Sn)))
    refine PX_start1 hS0 Tryz_mixed (X 0 rfl hS0 (R_move a0) (X 1 rfl hS0 (R_nilCheck rfl) (X 2 rfl hS0 (R_field fa134_2 rfl) (XH 3 rfl hS0 (fun _ hS => R_load rfl (load_box1 hS (Mt Mh) rfl Tryz.isAgg131)) (XH 4 rfl hS0 (fun _ hS => R_load rfl (load_boxA hS Mh (encRole N) rfl Tryz.isAgg47 Tryz.sizeOf47)) (XH 5 rfl hS0 (fun _ hS => R_load M (load_boxA hS (Mt (Mt Mh)) (encCred B) rfl Tryz.isAgg83 Tryz.sizeOf83)) (XE 6 rfl (E_buildSlice (qs := #[(0, (.agg (encCred B).toArray))]) (cs := (encCred B).toArray) hST (parts1 rfl) (run_lit [(.agg (encCred B).toArray)] Tryz.underlying22 Tryz.sizeOf83 Tryz.zeroValue83 (by decide) rfl (by intro v hv; simp only [List.mem_cons, List.not_mem_nil, or_false] at hv; rcases hv with rfl <;> rfl) rfl rfl) (fun h9 e4 hST => ?_)))))))))
    have hS0 := hST.has.sel (Db (Kb (Kb (Kb Sn))))
    refine ⟨hS0, ?_⟩
    obtain ⟨g6, c9⟩ := Y
    replace hST := hST.perm (Nr (Qb (Qb (Qb (Qb Qz)))) Nz)
    refine XE 7 rfl (F_mapEntry (k := N) (x0 := [])  beqRole_iff kl47 Tryz.underlying131 Tryz.zeroValue22 (Row.nil _ _ _) hST c9 rfl rfl (fun i0 f3 g8 h2 e0 hST c2 c1 => ?_))
    have hS0 := hST.has.sel (Dr (Dr (Db (Kb (Kb (Kb Sn))))))
    refine ⟨hS0, (X 8 rfl hS0 (R_extract rfl rfl) (X 10 rfl hS0 (R_extract rfl rfl) ?_))⟩
    replace hST := hST.perm (Nr (Qr Qz) Nz)
    obtain ⟨b9, c7, a⟩ := bind_some a
    refine XE 9 rfl (F_append (enc := encCred) (v := f3) (vs := (.slice (some ⟨e4, 0, none⟩) 1 1)) (R := e0) hST lenCred (by decide) oneCred Tryz.underlying22 info83.1 info83.2.1 rfl info83.2.2.1 info83.2.2.2 rfl rfl c2 (Sl.lit (enc := encCred) (l := [B]) lenCred rfl (Nat.le_of_ble_eq_true rfl) rfl (hST.at_ (Ma (Ma Mh)))) c7 (fun i1 i9 h3 hST c3 => ?_))
    have hS0 := hST.has.sel (Dr (Dr (Db (Kb (Kb (Kb Sn))))))
    refine ⟨hS0, ?_⟩
    replace hST := hST.perm (Nr (Qr Qz) Nz)
    refine XO 11 rfl (F_entryStore (e := 0) (z := b9)  beqRole_iff kl47 hST c1 rfl rfl rfl c3 (fun i2 g7 e1 hST c4 => ?_))
    have hS0 := hST.has.sel (Dr (Db (Kb (Kb (Kb Sn)))))
    refine ⟨hS0, (PX_done (by kernel_rfl) (bq_n (sq_n ?_)))⟩
    replace hST := hST.sel (Kr (Db (Db St)))
    exact ⟨eI, ((mput beqRole a2 N b9)), e1, _, ⟨rfl, eN⟩, (hST.sel (Sb (Pr Pz) (Sb (Pr Pz) St))), a0, M, b4, c4.e, (by rw [d7]; exact a)⟩
  rintro E W ⟨a2, T, b3, ⟨eI, eN⟩, hST, a0, M, b4, Y, a⟩
  rw [List.drop_length] at a
  rw [m_model_Model_note_w_L1] at a
  refine sq_n (CW_seq (CW_region (V (R_field fa83_0 M) (V (R_load rfl (load_box1 hST.has (Mt Mh) rfl Tryz.isAgg3)) (V (R_int rfl rfl rfl) (LW_nil (sq_n (CW_if (b := (B.Kind == 3)) rfl (fun a6 => ?_) (fun a6 => ?_)))))))))
  · replace a := if_t a6 a
    replace hST := hST.drew
    have hS0 := hST.has.sel (Kb (Kb Sn))
    have hS1 := hST.has.sel (Db (Db (Dr (Dr (Dr (Kr Sn))))))
    refine PX_start2 15 hS0 hS1 Tryz_mixed (PX_v 0 rfl (by kernel_rfl) (.inl rfl) rfl (by decide) (fun _ _ h => ⟨h.1, til (by rfl) h.2⟩) ⟨hS0, fun _ => hS1⟩ (fun _ _ _ _ => R_move a0) (PX_v 1 rfl (by kernel_rfl) (.inl rfl) rfl (by decide) (fun _ _ h => ⟨h.1, til (by rfl) h.2⟩) ⟨hS0, fun _ => hS1⟩ (fun _ _ _ _ => R_nilCheck rfl) (PX_v 2 rfl (by kernel_rfl) (.inl rfl) rfl (by decide) (fun _ _ h => ⟨h.1, til (by rfl) h.2⟩) ⟨hS0, fun _ => hS1⟩ (fun _ _ _ _ => R_field fa134_3 rfl) (PX_v 3 rfl (by kernel_rfl) (.inl rfl) rfl (by decide) (fun _ _ h => ⟨h.1, til (by rfl) h.2⟩) ⟨hS0, fun _ => hS1⟩ (fun l W hpd hs => have hS := hs.1; R_load rfl (load_box1 hS Mh rfl Tryz.isAgg132)) (PX_v 4 rfl (by kernel_rfl) (.inl rfl) rfl (by decide) (fun _ _ h => ⟨h.1, til (by rfl) h.2⟩) ⟨hS0, fun _ => hS1⟩ (fun _ _ _ _ => R_field fa83_5 M) (PX_v 5 rfl (by kernel_rfl) (.inl rfl) rfl (by decide) (fun _ _ h => ⟨h.1, til (by rfl) h.2⟩) ⟨hS0, fun _ => hS1⟩ (fun l W hpd hs => have hS := hs.1; R_load rfl (load_box1 hS (Mt Mh) rfl Tryz.isAgg9)) (PX_v 6 rfl (by kernel_rfl) (.inl rfl) rfl (by decide) (fun _ _ h => ⟨h.1, til (by rfl) h.2⟩) ⟨hS0, fun _ => hS1⟩ (fun _ _ _ _ => R_move a0) (PX_v 7 rfl (by kernel_rfl) (.inl rfl) rfl (by decide) (fun _ _ h => ⟨h.1, til (by rfl) h.2⟩) ⟨hS0, fun _ => hS1⟩ (fun _ _ _ _ => R_nilCheck rfl) (PX_v 8 rfl (by kernel_rfl) (.inl rfl) rfl (by decide) (fun _ _ h => ⟨h.1, til (by rfl) h.2⟩) ⟨hS0, fun _ => hS1⟩ (fun _ _ _ _ => R_field fa134_3 rfl) (PX_v 9 rfl (by kernel_rfl) (.inl rfl) rfl (by decide) (fun _ _ h => ⟨h.1, til (by rfl) h.2⟩) ⟨hS0, fun _ => hS1⟩ (fun l W hpd hs => have hS := hs.1; R_load rfl (load_box1 hS Mh rfl Tryz.isAgg132)) (PX_v 10 rfl (by kernel_rfl) (.inl rfl) rfl (by decide) (fun _ _ h => ⟨h.1, til (by rfl) h.2⟩) ⟨hS0, fun _ => hS1⟩ (fun _ _ _ _ => R_field fa83_5 M) (PX_v 11 rfl (by kernel_rfl) (.inl rfl) rfl (by decide) (fun _ _ h => ⟨h.1, til (by rfl) h.2⟩) ⟨hS0, fun _ => hS1⟩ (fun l W hpd hs => have hS := hs.1; R_load rfl (load_box1 hS (Mt Mh) rfl Tryz.isAgg9)) ?_))))))))))))
    obtain ⟨d8, a7⟩ := Q
    obtain ⟨h4, g4, g5⟩ := DeepV.rowAt beqS_iff.1 a7 B.Word2
    refine PX_v 12 rfl (by kernel_rfl) (.inl rfl) rfl (by decide) (fun _ _ h => ⟨h.1, til (by rfl) h.2⟩) ⟨hS0, fun _ => hS1⟩ (fun l W hpd hs => have hS := (hs.2 (hpd.bar 15 [12] (by kernel_rfl) rfl)); R_lookupDeep (k := B.Word2) (z := (.slice none 0 0)) kl9 Tryz.underlying132 Tryz.zeroValue22 rfl rfl a7 (fun b o hq => hS.2 b o (Ml hq))) (PX_v 13 rfl (by kernel_rfl) (.inl rfl) rfl (by decide) (fun _ _ h => ⟨h.1, til (by rfl) h.2⟩) ⟨hS0, fun _ => hS1⟩ (fun l W hpd hs => have hS := hs.1; R_load M (load_boxA hS (Mt Mh) (encCred B) rfl Tryz.isAgg83 Tryz.sizeOf83)) (XE 14 rfl (E_buildSlice (qs := #[(0, (.agg (encCred B).toArray))]) (cs := (encCred B).toArray) hST (parts1 rfl) (run_lit [(.agg (encCred B).toArray)] Tryz.underlying22 Tryz.sizeOf83 Tryz.zeroValue83 (by decide) rfl (by intro v hv; simp only [List.mem_cons, List.not_mem_nil, or_false] at hv; rcases hv with rfl <;> rfl) rfl rfl) (fun i3 e5 hST => ?_))))
    have hS0 := hST.has.sel (Db (Kb (Kb Sn)))
    have hS1 := hST.has.sel (Db (Db (Db (Dr (Dr (Dr (Kr Sn)))))))
    refine ⟨⟨hS0, fun _ => hS1⟩, ?_⟩
    replace hST := hST.perm (Nr (Qb (Qb (Qb (Qr (Qr (Qr Qz)))))) Nz)
    obtain ⟨h5, e2, d3, d4, d0⟩ := DeepV.open beqS_iff.1 (Row.nil _ _ _) a7 B.Word2
    replace hST := hST.perm (Opn d3)
    replace hST := hST.perm (Nr (Qr Qz) Nz)
    obtain ⟨f2, c8, a⟩ := bind_some a
    refine XE 15 rfl (F_append (enc := encCred) (v := (valAt beqS d8 B.Word2 (.slice none 0 0))) (vs := (.slice (some ⟨e5, 0, none⟩) 1 1)) (R := e2) hST lenCred (by decide) oneCred Tryz.underlying22 info83.1 info83.2.1 rfl info83.2.2.1 info83.2.2.2 rfl rfl d4 (Sl.lit (enc := encCred) (l := [B]) lenCred rfl (Nat.le_of_ble_eq_true rfl) rfl (hST.at_ (Ma (Ma Mh)))) c8 (fun i4 j0 h6 hST c5 => ?_))
    have hS0 := hST.has.sel (Dr (Dr (Db (Kb (Kb Sn)))))
    refine ⟨⟨hS0, fun h => ffl (by kernel_rfl) h⟩, ?_⟩
    replace hST := hST.perm (Nr (Qr Qz) Nz)
    refine XO 16 rfl (F_fill (k := B.Word2) (z := f2)  kl9 Tryz.underlying132 hST d0 rfl rfl rfl c5 (fun i5 e3 hST c6 => ?_))
    have hS0 := hST.has.sel (Dr (Db (Kb (Kb Sn))))
    refine ⟨⟨hS0, fun h => ffl (by kernel_rfl) h⟩, (PX_done (by kernel_rfl) (retQ_n ?_))⟩
    replace a := Option.some.inj a; subst a
    exact retQ_0 rfl ⟨_, _, rfl, (hST.bkM (Sb (Pr (Pb Pz)) (Sr (Qr (Qb (Qb (Qr (Qr Qz))))) (Sr (Qr (Qb (Qb (Qr Qz)))) (Sr (Qr (Qb (Qb Qz))) (Kr (Db (Db (Kr Sn))))))))), (.slice a8 a4.length b0), b7, T, e3, rfl, rfl, b5, Y, c6.e⟩
  replace a := if_f a6 a
  refine CW_skip (retQ_n ?_)
  replace a := Option.some.inj a; subst a
  exact retQ_0 rfl ⟨_, _, rfl, (hST.bkM (Kb (Db (Sr (Qr (Qr Qz)) (Sr (Qr Qz) (Kr (Kr (Kr Sn)))))))), (.slice a8 a4.length b0), b7, T, j, rfl, rfl, b5, Y, Q⟩
theorem w_model_Model_tell_w (J : Nat) (f : Value) (I : List (Role × (List (ByteArray × Bool)))) (D : List (Nat × Obj)) (a : Value) (T : List Cred) (t : List (Nat × Obj)) (i : Value) (Z : List (Role × (List Cred))) (B : List (Nat × Obj)) (c : Value) (U : List (ByteArray × (List Cred))) (u : List (Nat × Obj)) (g : Value) (M : List Fact) (j : List (Nat × Obj)) (H : Int) (G : Role) (N : ByteArray) (r : ((List (Role × (List (ByteArray × Bool)))) × (List Fact) × Int)) (w : World) {μ0 : Mem} (h0 : Ent μ0 ((J, Obj.cells (#[f, a, i, c, g, (.int .i64 H)] : Array Value) 134 (0, 0)) :: (D ++ (t ++ (B ++ (u ++ (j ++ [])))))) w) (a6 : DeepE (fun (x : Role) => (.agg (encRole x).toArray)) (MapRow Value.string (fun (x : Bool) => (Value.bool x))) f I D) (b7 : Row 83 encCred 9 a T t) (c3 : DeepE (fun (x : Role) => (.agg (encRole x).toArray)) (Row 83 encCred 9) i Z B) (b8 : DeepE Value.string (Row 83 encCred 9) c U u) (Q : Que 78 encFact 3 g M j) (hm : m_model_Model_tell_w I T Z U M H G N = some r) :
    GivesM true Tryz.prog 146 [(.pointer (some ⟨J, 0, none⟩)), (.agg (encRole G).toArray), (.string N)] w ((J, Obj.cells (#[f, a, i, c, g, (.int .i64 H)] : Array Value) 134 (0, 0)) :: (D ++ (t ++ (B ++ (u ++ (j ++ [])))))) (fun v L1 W' => ∃ (S1 : List (Nat × Obj)) (y3 : Value) (S4 : List (Nat × Obj)), v = (.tuple #[]) ∧ L1 = ((J, Obj.cells (#[f, a, i, c, y3, (.int .i64 (r.2.2))] : Array Value) 134 (0, 0)) :: (S1 ++ (t ++ (B ++ (u ++ (S4 ++ [])))))) ∧ DeepE (fun (x : Role) => (.agg (encRole x).toArray)) (MapRow Value.string (fun (x : Bool) => (Value.bool x))) f r.1 S1 ∧ Que 78 encFact 3 y3 r.2.1 S4) := by
  have hST := ST.startE (dd := true) h0
  unfold m_model_Model_tell_w at hm
  refine calls_of_CW (n := 53) Tryz.func146 rfl rfl (Nat.le_of_ble_eq_true rfl) (CW_seq (CW_region (VE (E_box (v := (.agg (encRole G).toArray)) hST rfl (fun W2 b1 hST => LW_nil (sq_n (CW_seq (CW_seq ?_))))))))
  replace hST := hST.drew
  have hS0 := hST.has.sel (Kb (Kb (Kr Sn)))
  refine PX_start1 hS0 Tryz_mixed (X 0 rfl hS0 (R_move rfl) (X 1 rfl hS0 (R_nilCheck rfl) (X 2 rfl hS0 (R_field fa134_0 rfl) (XH 3 rfl hS0 (fun _ hS => R_load rfl (load_box1 hS (Mt Mh) rfl Tryz.isAgg130)) (XH 4 rfl hS0 (fun _ hS => R_load rfl (load_boxA hS Mh (encRole G) rfl Tryz.isAgg47 Tryz.sizeOf47)) ?_)))))
  obtain ⟨f3, Y⟩ := a6
  refine XH 5 rfl hS0 (fun _ hS => R_lookupDeep (k := G) (z := (.map none)) kl47 Tryz.underlying130 Tryz.zeroValue119 rfl rfl Y (fun b o hq => hS.2 b o (Mt (Mt (Ml hq))))) (X 6 rfl hS0 (R_move rfl) (XH 7 rfl hS0 (fun _ hS => R_lookupD (k := N) (z := false) (vf := (fun (x : Bool) => (Value.bool x))) kl9 Tryz.underlying119 Tryz.zeroValue4 rfl rfl (DeepV.mapAt (μ := hp _) beqRole_iff.1 Y G (fun b o hq => hS.2 b o (Mt (Mt (Ml hq)))))) (PX_done (by kernel_rfl) (sq_n (CW_if (b := (mgetD beqS (((mget beqRole I G).getD [])) N false)) rfl (fun b2 => ?_) (fun b2 => ?_))))))
  · replace hm := if_t b2 hm
    refine CW_ret (sq_r ?_)
    replace hm := Option.some.inj hm; subst hm
    exact retQ_0 rfl ⟨_, _, rfl, (hST.bkM (Db (Kb (Kr (Kr (Kr (Kr (Kr Sn)))))))), D, g, j, rfl, rfl, Y.e, Q⟩
  replace hm := if_f b2 hm
  refine CW_skip (sq_n (CW_seq ?_))
  obtain ⟨e6, y, a9⟩ := bind_some hm
  refine CW_cut (fun E W => ∃ (b4 : List (Role × (List (ByteArray × Bool)))) (b0 : List (Nat × Obj)) (c0 : List (Nat × Obj)), ST true (keys ((J, Obj.cells (#[f, a, i, c, g, (.int .i64 H)] : Array Value) 134 (0, 0)) :: (D ++ (t ++ (B ++ (u ++ (j ++ []))))))) w W μ0 ((b1, Obj.cells ((encRole G).toArray : Array Value) 47 (0, 0)) :: ((J, Obj.cells (#[f, a, i, c, g, (.int .i64 H)] : Array Value) 134 (0, 0)) :: (b0 ++ (t ++ (B ++ (u ++ (j ++ c0))))))) ∧ E 0 = (.pointer (some ⟨J, 0, none⟩)) ∧ E 2 = (.string N) ∧ E 4 = (.pointer (some ⟨b1, 0, none⟩)) ∧ DeepE (fun (x : Role) => (.agg (encRole x).toArray)) (MapRow Value.string (fun (x : Bool) => (Value.bool x))) f b4 b0 ∧ (((mupd beqRole beqS b4 G N true)).bind fun c4 => (((appB 48 M ([(⟨G, N⟩ : Fact)]))).bind fun a3 => some (c4, a3, (IntKind.i64.wrap (H + 1))))) = some r) ?_ ?_
  · refine CW_seq ?_
    replace hST := hST.drew
    have hS0 := hST.has.sel (Kb (Kb (Kr Sn)))
    refine PX_start1 hS0 Tryz_mixed (X 0 rfl hS0 (R_move rfl) (X 1 rfl hS0 (R_nilCheck rfl) (X 2 rfl hS0 (R_field fa134_0 rfl) (XH 3 rfl hS0 (fun _ hS => R_load rfl (load_box1 hS (Mt Mh) rfl Tryz.isAgg130)) (XH 4 rfl hS0 (fun _ hS => R_load rfl (load_boxA hS Mh (encRole G) rfl Tryz.isAgg47 Tryz.sizeOf47)) (XH 5 rfl hS0 (fun _ hS => R_lookupDeep (k := G) (z := (.map none)) kl47 Tryz.underlying130 Tryz.zeroValue119 rfl rfl Y (fun b o hq => hS.2 b o (Mt (Mt (Ml hq))))) (X 6 rfl hS0 (R_mapEqNilD beqRole_iff.1 Tryz.underlying119 Y rfl rfl) (PX_done (by kernel_rfl) (sq_n (CW_if (b := (mget beqRole I G).isNone) rfl (fun a0 => ?_) (fun a0 => ?_)))))))))))
    · replace y := if_t a0 y
      replace hST := hST.drew
      have hS0 := hST.has.sel (Kb (Kb Sn))
      refine PX_start1 hS0 Tryz_mixed (X 0 rfl hS0 (R_move rfl) (X 1 rfl hS0 (R_nilCheck rfl) (X 2 rfl hS0 (R_field fa134_0 rfl) (XH 3 rfl hS0 (fun _ hS => R_load rfl (load_box1 hS (Mt Mh) rfl Tryz.isAgg130)) (XH 4 rfl hS0 (fun _ hS => R_load rfl (load_boxA hS Mh (encRole G) rfl Tryz.isAgg47 Tryz.sizeOf47)) (XE 5 rfl (E_makeMap (P := Tryz.prog) Value.string (fun (x : Bool) => (Value.bool x)) hST (fun e2 e8 e0 hST b5 => ?_))))))))
      have hS0 := hST.has.sel (Dr (Kb (Kb Sn)))
      refine ⟨hS0, ?_⟩
      replace hST := hST.perm (Nr (Qr (Qb (Qb Qz))) Nz)
      obtain ⟨d0, b9, y⟩ := bind_some y
      refine XO 6 rfl (F_newDeep (k := G) (z := ([]))  kl47 Tryz.underlying130 hST Y rfl rfl rfl b5 b9 (fun e3 c5 hST b6 => ?_))
      have hS0 := hST.has.sel (Dr (Kb (Kb Sn)))
      refine ⟨hS0, (PX_done (by kernel_rfl) (sq_n ?_))⟩
      replace y := Option.some.inj y; subst y
      exact ⟨d0, c5, _, (hST.sel (Sb (Pr Pz) (Sb (Pr Pz) St))), rfl, rfl, rfl, b6.e, a9⟩
    replace y := if_f a0 y
    refine CW_skip (sq_n ?_)
    replace y := Option.some.inj y; subst y
    exact ⟨I, D, _, (hST.sel St), rfl, rfl, rfl, Y.e, a9⟩
  rintro E W ⟨b4, b0, c0, hST, a7, c1, c2, c9, K⟩
  refine CW_seq ?_
  replace hST := hST.drew
  have hS0 := hST.has.sel (Kb (Kb Sn))
  have hS1 := hST.has.sel (Db (Db (Kr Sn)))
  refine PX_start2 7 hS0 hS1 Tryz_mixed (PX_v 0 rfl (by kernel_rfl) (.inl rfl) rfl (by decide) (fun _ _ h => ⟨h.1, til (by rfl) h.2⟩) ⟨hS0, fun _ => hS1⟩ (fun _ _ _ _ => R_move a7) (PX_v 1 rfl (by kernel_rfl) (.inl rfl) rfl (by decide) (fun _ _ h => ⟨h.1, til (by rfl) h.2⟩) ⟨hS0, fun _ => hS1⟩ (fun _ _ _ _ => R_nilCheck rfl) (PX_v 2 rfl (by kernel_rfl) (.inl rfl) rfl (by decide) (fun _ _ h => ⟨h.1, til (by rfl) h.2⟩) ⟨hS0, fun _ => hS1⟩ (fun _ _ _ _ => R_field fa134_0 rfl) (PX_v 3 rfl (by kernel_rfl) (.inl rfl) rfl (by decide) (fun _ _ h => ⟨h.1, til (by rfl) h.2⟩) ⟨hS0, fun _ => hS1⟩ (fun l W hpd hs => have hS := hs.1; R_load rfl (load_box1 hS (Mt Mh) rfl Tryz.isAgg130)) (PX_v 4 rfl (by kernel_rfl) (.inl rfl) rfl (by decide) (fun _ _ h => ⟨h.1, til (by rfl) h.2⟩) ⟨hS0, fun _ => hS1⟩ (fun l W hpd hs => have hS := hs.1; R_load c2 (load_boxA hS Mh (encRole G) rfl Tryz.isAgg47 Tryz.sizeOf47)) ?_)))))
  obtain ⟨e5, b3⟩ := c9
  refine PX_v 5 rfl (by kernel_rfl) (.inl rfl) rfl (by decide) (fun _ _ h => ⟨h.1, til (by rfl) h.2⟩) ⟨hS0, fun _ => hS1⟩ (fun l W hpd hs => have hS := (hs.2 (hpd.bar 7 [5] (by kernel_rfl) rfl)); R_lookupDeep (k := G) (z := (.map none)) kl47 Tryz.underlying130 Tryz.zeroValue119 rfl rfl b3 (fun b o hq => hS.2 b o (Ml hq))) (PX_v 6 rfl (by kernel_rfl) (.inl rfl) rfl (by decide) (fun _ _ h => ⟨h.1, til (by rfl) h.2⟩) ⟨hS0, fun _ => hS1⟩ (fun _ _ _ _ => R_move c1) ?_)
  replace hST := hST.perm (Nr (Qb (Qb Qz)) Nz)
  obtain ⟨c4, c8, K⟩ := bind_some K
  refine XO 7 rfl (F_updDeep (k := G) (v := true) (vf := (fun (x : Bool) => (Value.bool x)))  beqRole_iff.1 kl9 Tryz.underlying119 hST b3 rfl rfl rfl c8 (fun e9 d1 hST c6 => ?_))
  have hS0 := hST.has.sel (Dr (Kb (Kb Sn)))
  refine ⟨⟨hS0, fun h => ffl (by kernel_rfl) h⟩, (PX_done (by kernel_rfl) (sq_n (CW_seq (CW_region (V (R_move a7) (V (R_nilCheck rfl) (V (R_field fa134_5 rfl) (V (R_load rfl (load_box1 hST.has (Ma (Mt Mh)) rfl Tryz.isAgg3)) (V (R_int rfl rfl rfl) (V (R_nilCheck rfl) (V (R_field fa134_5 rfl) ?_)))))))))))⟩
  replace hST := hST.perm (Nb (Pr (Pb Pz)) Nz)
  refine VO (F_store (.int .i64 ((IntKind.i64.wrap (H + 1)))) (#[f, a, i, c, g, (.int .i64 ((IntKind.i64.wrap (H + 1))))]) hST rfl rfl Tryz.sizeOf3 (oneI _ ((IntKind.i64.wrap (H + 1)))) (Nat.le_of_ble_eq_true rfl) rfl (fun f0 hST => LW_nil (sq_n ?_)))
  replace hST := hST.drew
  have hS0 := hST.has.sel (Db (Dr (Kb Sn)))
  have hS1 := hST.has.sel (Kb Sn)
  refine PX_start2 12 hS0 hS1 Tryz_mixed (PX_v 0 rfl (by kernel_rfl) (.inl rfl) rfl (by decide) (fun _ _ h => ⟨h.1, til (by rfl) h.2⟩) ⟨hS0, fun _ => hS1⟩ (fun _ _ _ _ => R_move a7) (PX_v 1 rfl (by kernel_rfl) (.inl rfl) rfl (by decide) (fun _ _ h => ⟨h.1, til (by rfl) h.2⟩) ⟨hS0, fun _ => hS1⟩ (fun _ _ _ _ => R_move a7) (PX_v 2 rfl (by kernel_rfl) (.inl rfl) rfl (by decide) (fun _ _ h => ⟨h.1, til (by rfl) h.2⟩) ⟨hS0, fun _ => hS1⟩ (fun _ _ _ _ => R_nilCheck rfl) (PX_v 3 rfl (by kernel_rfl) (.inl rfl) rfl (by decide) (fun _ _ h => ⟨h.1, til (by rfl) h.2⟩) ⟨hS0, fun _ => hS1⟩ (fun _ _ _ _ => R_field fa134_4 rfl) (PX_v 4 rfl (by kernel_rfl) (.inl rfl) rfl (by decide) (fun _ _ h => ⟨h.1, til (by rfl) h.2⟩) ⟨hS0, fun _ => hS1⟩ (fun l W hpd hs => have hS := (hs.2 (hpd.bar 12 [4] (by kernel_rfl) rfl)); R_load rfl (load_box1 hS Mh rfl Tryz.isAgg53)) (PX_v 5 rfl (by kernel_rfl) (.inl rfl) rfl (by decide) (fun _ _ h => ⟨h.1, til (by rfl) h.2⟩) ⟨hS0, fun _ => hS1⟩ (fun l W hpd hs => have hS := hs.1; R_load c2 (load_boxA hS Mh (encRole G) rfl Tryz.isAgg47 Tryz.sizeOf47)) (PX_v 6 rfl (by kernel_rfl) (.inl rfl) rfl (by decide) (fun _ _ h => ⟨h.1, til (by rfl) h.2⟩) ⟨hS0, fun _ => hS1⟩ (fun _ _ _ _ => R_move c1) (PX_v 7 rfl (by kernel_rfl) (.inl rfl) rfl (by decide) (fun _ _ h => ⟨h.1, til (by rfl) h.2⟩) ⟨hS0, fun _ => hS1⟩ (fun _ _ _ _ => R_build (qs := #[(0, (.agg (encRole G).toArray)), (1, (.string N))]) (v := (.agg (encFact ((⟨G, N⟩ : Fact))).toArray)) (parts2 rfl rfl) (run_build Tryz.zeroValue78 Tryz.underlying78 (pl78 _ Tryz.underlying78) (by kernel_rfl))) (XE 8 rfl (E_buildSlice (qs := #[(0, (.agg (encFact ((⟨G, N⟩ : Fact))).toArray))]) (cs := (encFact ((⟨G, N⟩ : Fact))).toArray) hST (parts1 rfl) (run_lit [(.agg (encFact ((⟨G, N⟩ : Fact))).toArray)] Tryz.underlying53 Tryz.sizeOf78 Tryz.zeroValue78 (by decide) rfl (by intro v hv; simp only [List.mem_cons, List.not_mem_nil, or_false] at hv; rcases hv with rfl <;> rfl) rfl rfl) (fun f1 d6 hST => ?_)))))))))))
  have hS0 := hST.has.sel (Db (Db (Dr (Kb Sn))))
  have hS1 := hST.has.sel (Db (Kb Sn))
  refine ⟨⟨hS0, fun _ => hS1⟩, ?_⟩
  replace hST := hST.perm (Nr (Qb (Qb (Qr (Qb (Qr (Qr (Qr Qz))))))) Nz)
  obtain ⟨a3, c7, K⟩ := bind_some K
  refine XE 9 rfl (F_appendQue (enc := encFact) (v := g) (vs := (.slice (some ⟨d6, 0, none⟩) 1 1)) (R := j) hST lenFact (by decide) oneFact Tryz.underlying53 info78.1 info78.2.1 rfl info78.2.2.1 info78.2.2.2 rfl rfl Q (Sl.lit (enc := encFact) (l := [(⟨G, N⟩ : Fact)]) lenFact rfl (Nat.le_of_ble_eq_true rfl) rfl (hST.at_ (Ma Mh))) c7 (fun f2 e7 d2 hST a8 => ?_))
  have hS0 := hST.has.sel (Dr (Db (Db (Dr (Kb Sn)))))
  have hS1 := hST.has.sel (Dr (Db (Kb Sn)))
  refine ⟨⟨hS0, fun _ => hS1⟩, (PX_v 10 rfl (by kernel_rfl) (.inl rfl) rfl (by decide) (fun _ _ h => ⟨h.1, til (by rfl) h.2⟩) ⟨hS0, fun _ => hS1⟩ (fun _ _ _ _ => R_nilCheck rfl) (PX_v 11 rfl (by kernel_rfl) (.inl rfl) rfl (by decide) (fun _ _ h => ⟨h.1, til (by rfl) h.2⟩) ⟨hS0, fun _ => hS1⟩ (fun _ _ _ _ => R_field fa134_4 rfl) ?_))⟩
  obtain ⟨a4, a5, rfl⟩ := a8.form
  replace hST := hST.perm (Nb (Pr (Pb Pz)) Nz)
  refine XO 12 rfl (F_store (.slice a4 a3.length a5) (#[f, a, i, c, (.slice a4 a3.length a5), (.int .i64 ((IntKind.i64.wrap (H + 1))))]) hST rfl rfl Tryz.sizeOf53 (by simp [Value.cells, Value.oneCell']) (Nat.le_of_ble_eq_true rfl) rfl (fun e1 hST => ?_))
  have hS0 := hST.has.sel (Db (Dr (Db (Dr (Kb Sn)))))
  refine ⟨⟨hS0, fun h => ffl (by kernel_rfl) h⟩, (PX_done (by kernel_rfl) (retQ_n ?_))⟩
  replace K := Option.some.inj K; subst K
  exact retQ_0 rfl ⟨_, _, rfl, (hST.bkM (Kb (Sr (Qr (Qb Qz)) (Sr (Qr (Qb (Qb Qz))) (Sr (Qr (Qb (Qb Qz))) (Sr (Qr (Qb (Qb Qz))) (Kr Sn))))))), d1, (.slice a4 a3.length a5), d2, rfl, rfl, c6.e, a8⟩
theorem w_maps_Keys_map_stringbool_string_bool_ (a : Value) (f : List (ByteArray × Bool)) (r : Unit) (w : World) (c : MapAt Value.string (fun (x : Bool) => (Value.bool x)) (hp w) a f) (hm : m_maps_Keys_map_stringbool_string_bool_ f = some r) :
    GivesM true Tryz.prog 97 [a] w [] (fun v j W' => ∃ (g : Nat), v = (.func (.func 144) #[] #[(.pointer (some ⟨g, 0, none⟩))]) ∧ j = ((g, Obj.cells (#[a] : Array Value) 119 (0, 0)) :: [])) := by
  have hST := ST.start (dd := true) w
  unfold m_maps_Keys_map_stringbool_string_bool_ at hm
  refine calls_of_CW (n := 4) Tryz.func97 rfl rfl (Nat.le_of_ble_eq_true rfl) (CW_seq (CW_region ?_))
  obtain ⟨k, rfl⟩ := c.form
  refine VE (E_box (v := (.map k)) hST rfl (fun t i hST => V (R_assign rfl) (LW_nil (sq_n (CW_seq (CW_region (V (R_makeFuncC (by exact args1 rfl) rfl) (V (R_assign rfl) (LW_nil (sq_n (CW_ret ?_)))))))))))
  replace hm := Option.some.inj hm; subst hm
  exact retQ_1 (v := (.func (.func 144) #[] #[(.pointer (some ⟨i, 0, none⟩))])) rfl rfl ⟨_, _, rfl, (hST.bkL (Kb Sn)), i, rfl, rfl⟩
theorem keysS_gives144 {β : Type} {vf : β → Value} {l : List (ByteArray × β)} {b : Nat} {mv : Value} {W : World} {r : List ByteArray} (hb : W.heap[b]? = some (.cells #[mv] 119 (0, 0))) (hm : MapAt Value.string vf (hp W) mv l) (hk : keysS l = some r) : GivesRow false Tryz.prog 96 [.func (.func 144) #[] #[.pointer (some ⟨b, 0, none⟩)]] W 9 encSk 1 r := keysS_gives (P := Tryz.prog) layK144 layT96 lay135 rfl Tryz.underlying9 Tryz.call144 Tryz.call135 hb hm hk
theorem w_model_Model_Members (Q : Nat) (a : Value) (t : List (Role × (List (ByteArray × Bool)))) (c : Value) (j : List Cred) (i : Value) (G : List (Role × (List Cred))) (f : Value) (u : List (ByteArray × (List Cred))) (g : Value) (D : List Fact) (N : Int) (B : Role) (r : List ByteArray) (w : World) (I : DeepAt (fun (x : Role) => (.agg (encRole x).toArray)) (MapRow Value.string (fun (x : Bool) => (Value.bool x))) (hp w) a t) (Z : Sl (Pl encCred) 9 (hp w) c j) (a4 : DeepAt (fun (x : Role) => (.agg (encRole x).toArray)) (Row 83 encCred 9) (hp w) i G) (a0 : DeepAt Value.string (Row 83 encCred 9) (hp w) f u) (a3 : Sl (Pl encFact) 3 (hp w) g D) (Y : At (hp w) (.pointer (some ⟨Q, 0, none⟩)) [a, c, i, f, g, (.int .i64 N)]) (hm : m_model_Model_Members t j G u D N B = some r) :
    GivesRow false Tryz.prog 37 [(.pointer (some ⟨Q, 0, none⟩)), (.agg (encRole B).toArray)] w 9 encSk 1 r := by
  have hST := ST.start (dd := false) w
  unfold m_model_Model_Members at hm
  refine calls_of_CW (n := 15) Tryz.func37 rfl rfl (Nat.le_of_ble_eq_true rfl) (CW_seq (CW_region (VE (E_box (v := (.agg (encRole B).toArray)) hST rfl (fun W2 b1 hST => V (R_assign rfl) (LW_nil (sq_n (CW_seq (CW_seq (CW_region (V (R_move rfl) (V (R_ptrEqNil Tryz.underlying51 rfl rfl) (LW_nil (sq_n (CW_if_false rfl ?_)))))))))))))))
  refine CW_skip (sq_n (CW_seq ?_))
  replace hST := hST.drew
  have hS0 := hST.has.sel (Kb Sn)
  refine PX_start1 hS0 Tryz_mixed (X 0 rfl hS0 (R_move rfl) (X 1 rfl hS0 (R_nilCheck rfl) (XQ 2 rfl hS0 (R_fieldAt [a] fa134_0 rfl Y rfl) (fun b7 a6 => XH 3 rfl hS0 (fun _ hS => R_load rfl (load_at1 hS (y := a) a6 Tryz.isAgg130)) (XH 4 rfl hS0 (fun _ hS => R_load rfl (load_boxA hS Mh (encRole B) rfl Tryz.isAgg47 Tryz.sizeOf47)) ?_)))))
  obtain ⟨U, b4, J, K⟩ := I
  refine XH 5 rfl hS0 (fun _ hS => R_lookupDeep (k := B) (z := (.map none)) kl47 Tryz.underlying130 Tryz.zeroValue119 rfl rfl J (fun b o hq => hS.1 b o (K b o hq))) ?_
  obtain ⟨b8, a7, hm⟩ := bind_some hm
  have hsz := hST.size
  refine XE 6 rfl (E_callM (args := [(valAt beqRole U B (.map none))]) (caps := #[]) [] _ hST (List.Perm.refl _) rfl Tryz.call97 (by exact args1 rfl) (fun _ _ _ _ => GivesM.weak (w_maps_Keys_map_stringbool_string_bool_ (valAt beqRole U B (.map none)) (((mget beqRole t B).getD [])) _ _ ((DeepV.mapAt beqRole_iff.1 J B K).mono hST.sub_hp) a7)) (fun b5 c0 c1 b3 hST H hlift a5 => ?_))
  obtain ⟨b0, M, rfl⟩ := a5
  replace M := M.symm; subst M
  replace hST := hST.perm (Tb Tn)
  have hS0 := hST.has.selS H (Db (Kb Sn))
  refine ⟨hS0, ?_⟩
  obtain ⟨b9, a8, hm⟩ := bind_some hm
  refine XE 7 rfl (F_givesRow (args := [(.func (.func 144) #[] #[(.pointer (some ⟨b0, 0, none⟩))])]) _ hST rfl Tryz.call96 (by exact args1 rfl) (keysS_gives144 (vf := (fun (x : Bool) => (Value.bool x))) (hST.has.2 _ _ Mh) ((DeepV.mapAt beqRole_iff.1 J B K).mono (fun b o hq => hST.has.1 b o (H b o hq))) a8) (fun b6 b2 c2 a9 hST a2 T => ?_))
  have hS0 := hST.has.selS (H.trans a2) (Dr (Db (Kb Sn)))
  refine ⟨hS0, (X 8 rfl hS0 (R_assign rfl) (PX_done (by kernel_rfl) (sq_n ?_)))⟩
  replace hST := hST.sel (Kr (Db (Db St)))
  refine CW_ret ?_
  replace hm := Option.some.inj hm; subst hm
  exact retQ_1 (v := b2) rfl rfl ⟨_, a9, rfl, hST.backRow (fun p hq => (Ml hq)) T.nd, T⟩
theorem w_model_Model_all_w (I : Nat) (f : Value) (M : List (Role × (List (ByteArray × Bool)))) (D : List (Nat × Obj)) (a : Value) (G : List Cred) (j : List (Nat × Obj)) (g : Value) (J : List (Role × (List Cred))) (t : List (Nat × Obj)) (c : Value) (H : List (ByteArray × (List Cred))) (k : List (Nat × Obj)) (u : Value) (K : List Fact) (B : List (Nat × Obj)) (Y : Int) (a1 : Role) (a2 : Role) (r : ((List (Role × (List (ByteArray × Bool)))) × (List Fact) × Int)) (w : World) {μ0 : Mem} (h0 : Ent μ0 ((I, Obj.cells (#[f, a, g, c, u, (.int .i64 Y)] : Array Value) 134 (0, 0)) :: (D ++ (j ++ (t ++ (k ++ (B ++ [])))))) w) (a4 : DeepE (fun (x : Role) => (.agg (encRole x).toArray)) (MapRow Value.string (fun (x : Bool) => (Value.bool x))) f M D) (N : Row 83 encCred 9 a G j) (a3 : DeepE (fun (x : Role) => (.agg (encRole x).toArray)) (Row 83 encCred 9) g J t) (Q : DeepE Value.string (Row 83 encCred 9) c H k) (a0 : Que 78 encFact 3 u K B) (hm : m_model_Model_all_w M G J H K Y a1 a2 = some r) :
    GivesM false Tryz.prog 187 [(.pointer (some ⟨I, 0, none⟩)), (.agg (encRole a1).toArray), (.agg (encRole a2).toArray)] w ((I, Obj.cells (#[f, a, g, c, u, (.int .i64 Y)] : Array Value) 134 (0, 0)) :: (D ++ (j ++ (t ++ (k ++ (B ++ [])))))) (fun v L1 W' => ∃ (S1 : List (Nat × Obj)) (y3 : Value) (S4 : List (Nat × Obj)), v = (.tuple #[]) ∧ L1 = ((I, Obj.cells (#[f, a, g, c, y3, (.int .i64 (r.2.2))] : Array Value) 134 (0, 0)) :: (S1 ++ (j ++ (t ++ (k ++ (S4 ++ [])))))) ∧ DeepE (fun (x : Role) => (.agg (encRole x).toArray)) (MapRow Value.string (fun (x : Bool) => (Value.bool x))) f r.1 S1 ∧ Que 78 encFact 3 y3 r.2.1 S4) := by
  have hST := ST.startE (dd := false) h0
  unfold m_model_Model_all_w at hm
  refine calls_of_CW (n := 21) Tryz.func187 rfl rfl (Nat.le_of_ble_eq_true rfl) (CW_seq (CW_region (VE (E_box (v := (.agg (encRole a1).toArray)) hST rfl (fun W2 b1 hST => VE (E_box (v := (.agg (encRole a2).toArray)) hST rfl (fun W4 b3 hST => LW_nil (sq_n (CW_seq (CW_region (V (R_move rfl) (V (R_load rfl (load_boxA hST.has (Mt Mh) (encRole a1) rfl Tryz.isAgg47 Tryz.sizeOf47)) ?_))))))))))))
  obtain ⟨r5, e3, hm⟩ := bind_some hm
  refine VE (F_givesRow (args := [(.pointer (some ⟨I, 0, none⟩)), (.agg (encRole a1).toArray)]) _ hST rfl Tryz.call37 (by exact args2 rfl rfl) ((w_model_Model_Members I f M a G g J c H u K Y a1 _ _ (a4.at (fun b o hq => hST.at_ (Mt (Mt (Mt (Ml hq)))))) (N.sl lenCred (fun b o hq => hST.at_ (Mt (Mt (Mt (Ma (Ml hq))))))) (a3.at (fun b o hq => hST.at_ (Mt (Mt (Mt (Ma (Ma (Ml hq)))))))) (Q.at (fun b o hq => hST.at_ (Mt (Mt (Mt (Ma (Ma (Ma (Ml hq))))))))) ((a0.slL lenFact).mono (Pl.mono _) (memL_held (fun b o hq => hST.at_ (Mt (Mt (Mt (Ma (Ma (Ma (Ma (Ml hq))))))))))) (At.of (hST.at_ (Mt (Mt Mh))) _ rfl) e3)) (fun W7 e5 μ8 d9 hST f3 a8 => V (R_lenRow Tryz.underlying27 rfl a8) (V (R_move rfl) (LW_nil (sq_n ?_)))))
  replace hST := hST.sel (Kr (Kb (Db St)))
  refine CW_tail (CW_range (fun i E W => ∃ (a5 : List (Role × (List (ByteArray × Bool)))) (T : List (Nat × Obj)) (Z : Value) (a6 : List Fact) (U : List (Nat × Obj)) (a7 : Int) (b5 : Mem) (b8 : List (Nat × Obj)), (E 12 = .int .i64 (i : Nat) ∧ E 11 = .int .i64 (r5.length : Nat)) ∧ Sub μ8 b5 ∧ ST false (keys ((I, Obj.cells (#[f, a, g, c, u, (.int .i64 Y)] : Array Value) 134 (0, 0)) :: (D ++ (j ++ (t ++ (k ++ (B ++ []))))))) w W b5 ((I, Obj.cells (#[f, a, g, c, Z, (.int .i64 a7)] : Array Value) 134 (0, 0)) :: ((b3, Obj.cells ((encRole a2).toArray : Array Value) 47 (0, 0)) :: (T ++ (j ++ (t ++ (k ++ (U ++ (d9 ++ b8)))))))) ∧ E 0 = (.pointer (some ⟨I, 0, none⟩)) ∧ E 5 = (.pointer (some ⟨b3, 0, none⟩)) ∧ E 10 = e5 ∧ DeepE (fun (x : Role) => (.agg (encRole x).toArray)) (MapRow Value.string (fun (x : Bool) => (Value.bool x))) f a5 T ∧ Que 78 encFact 3 Z a6 U ∧ m_model_Model_all_w_L1 G J H a2 (r5.drop i) a5 a6 a7 = some r) r5.length a8.len ⟨M, D, u, K, B, Y, μ8, _, ⟨rfl, rfl⟩, (Sub.refl _), (hST.sel (Sb (Pr (Pb Pz)) (Sb (Pr Pz) (Sr (Qr Qz) (Sr (Qr Qz) (Sr (Qr Qz) (Sr (Qr Qz) (Sr (Qr Qz) St)))))))), rfl, rfl, rfl, a4, a0, hm⟩ (by decide) (by decide) (by decide) (fun _ _ _ h => by obtain ⟨_, _, _, _, _, _, _, _, eIN, _⟩ := h; exact eIN) ?_ ?_)
  · rintro e4 E W c7 ⟨a5, T, Z, a6, U, a7, b5, b8, ⟨eI, eN⟩, b7, hST, b9, c0, c1, a9, b0, z⟩
    obtain ⟨b4, e8, d0, c3, d1⟩ := drop_cons c7
    rw [d0] at z
    rw [m_model_Model_all_w_L1] at z
    refine CW_block (CW_seq (CW_region (VQ (R_indexRow (i := (e4 : Int)) (x0 := b4) Tryz.underlying27 Tryz.sizeOf9 c1 eI a8 (Int.natCast_nonneg _) c3) (fun f4 c8 => V (R_load rfl (load_ix1 hST.has (fun p hq => (Mt (Mt (Ma (Ma (Ma (Ma (Ma (Ml hq))))))))) a8 (fun _ => rfl) c8 c3 (y := (.string b4)) rfl Tryz.isAgg9)) (V (R_assign rfl) (LW_nil (sq_n (CW_region (V (R_move b9) (V (R_load c0 (load_boxA hST.has (Mt Mh) (encRole a2) rfl Tryz.isAgg47 Tryz.sizeOf47)) (V (R_move rfl) ?_)))))))))))
    obtain ⟨c2, c9, z⟩ := bind_some z
    have hsz := hST.size
    refine VE (E_callM (args := [(.pointer (some ⟨I, 0, none⟩)), (.agg (encRole a2).toArray), (.string b4)]) (caps := #[]) _ _ hST (Cb Pz (Cr (Qb Qz) (Cr (Qb Qz) (Cr (Qb Qz) (Cr (Qb Qz) (Cr (Qb Qz) Cn)))))) rfl Tryz.call146 (by exact args3 rfl rfl rfl) (fun hH hN hsb hmm => GivesM.weak (w_model_Model_tell_w I f a5 T a G j g J t c H k Z a6 U a7 a2 b4 _ _ ⟨hH, hN, Sub.refl _⟩ a9 N a3 Q b0 c9)) (fun f1 f5 d8 f0 hST c5 hlift c6 => ?_))
    obtain ⟨d4, d7, d5, b2, rfl, d2, d3⟩ := c6
    replace b2 := b2.symm; subst b2
    replace hST := hST.perm (Tb (Tr (Tr (Tr (Tr (Tr Tn))))))
    exact LW_nil (bq_n (sq_n ⟨eI, c2.1, d4, d7, c2.2.1, d5, c2.2.2, d8, _, ⟨rfl, eN⟩, (b7.trans c5), (hST.sel (Kb (Sb (Pr (Pr (Pr (Pr (Pr Pz))))) St))), b9, c0, c1, d2, d3, (by rw [d1]; exact z)⟩))
  rintro E W ⟨a5, T, Z, a6, U, a7, b5, b8, ⟨eI, eN⟩, b7, hST, b9, c0, c1, a9, b0, z⟩
  rw [List.drop_length] at z
  rw [m_model_Model_all_w_L1] at z
  refine sq_n ?_
  replace hST := hST.sel (Kb (Db (Kr (Kr (Kr (Kr (Kr (Dr St))))))))
  refine retQ_n ?_
  replace z := Option.some.inj z; subst z
  exact retQ_0 rfl ⟨_, _, rfl, (hST.bkM (Kb (Kr (Kr (Kr (Kr (Kr Sn))))))), T, Z, U, rfl, rfl, a9, b0⟩
theorem w_model_Model_use_w (N : Nat) (D : Value) (G : List (Role × (List (ByteArray × Bool)))) (B : List (Nat × Obj)) (g : Value) (I : List Cred) (c : List (Nat × Obj)) (y : Value) (U : List (Role × (List Cred))) (u : List (Nat × Obj)) (i : Value) (M : List (ByteArray × (List Cred))) (f : List (Nat × Obj)) (t : Value) (K : List Fact) (j : List (Nat × Obj)) (Y : Int) (H : Cred) (a2 : Fact) (r : ((List (Role × (List (ByteArray × Bool)))) × (List Fact) × Int)) (w : World) {μ0 : Mem} (h0 : Ent μ0 ((N, Obj.cells (#[D, g, y, i, t, (.int .i64 Y)] : Array Value) 134 (0, 0)) :: (B ++ (c ++ (u ++ (f ++ (j ++ [])))))) w) (a3 : DeepE (fun (x : Role) => (.agg (encRole x).toArray)) (MapRow Value.string (fun (x : Bool) => (Value.bool x))) D G B) (a0 : Row 83 encCred 9 g I c) (a6 : DeepE (fun (x : Role) => (.agg (encRole x).toArray)) (Row 83 encCred 9) y U u) (a4 : DeepE Value.string (Row 83 encCred 9) i M f) (Q : Que 78 encFact 3 t K j) (hm : m_model_Model_use_w G I U M K Y H a2 = some r) :
    GivesM false Tryz.prog 147 [(.pointer (some ⟨N, 0, none⟩)), (.agg (encCred H).toArray), (.agg (encFact a2).toArray)] w ((N, Obj.cells (#[D, g, y, i, t, (.int .i64 Y)] : Array Value) 134 (0, 0)) :: (B ++ (c ++ (u ++ (f ++ (j ++ [])))))) (fun v L1 W' => ∃ (S1 : List (Nat × Obj)) (y3 : Value) (S4 : List (Nat × Obj)), v = (.tuple #[]) ∧ L1 = ((N, Obj.cells (#[D, g, y, i, y3, (.int .i64 (r.2.2))] : Array Value) 134 (0, 0)) :: (S1 ++ (c ++ (u ++ (f ++ (S4 ++ [])))))) ∧ DeepE (fun (x : Role) => (.agg (encRole x).toArray)) (MapRow Value.string (fun (x : Bool) => (Value.bool x))) D r.1 S1 ∧ Que 78 encFact 3 y3 r.2.1 S4) := by
  have hST := ST.startE (dd := false) h0
  unfold m_model_Model_use_w at hm
  refine calls_of_CW (n := 57) Tryz.func147 rfl rfl (Nat.le_of_ble_eq_true rfl) (CW_seq (CW_region (VE (E_box (v := (.agg (encCred H).toArray)) hST rfl (fun W2 b1 hST => VE (E_box (v := (.agg (encFact a2).toArray)) hST rfl (fun W4 b3 hST => LW_nil (sq_n (CW_seq (CW_region (V (R_field fa83_0 rfl) (V (R_load rfl (load_box1 hST.has (Mt Mh) rfl Tryz.isAgg3)) (LW_nil (sq_n (CW_block (CW_seq ?_))))))))))))))))
  refine CW_region (V (R_int rfl rfl rfl) (V (R_assign rfl) (LW_nil (sq_n (CW_if (b := (H.Kind == 2)) rfl (fun b9 => ?_) (fun b9 => ?_))))))
  · replace hm := if_t b9 hm
    refine CW_region (V (R_move rfl) (V (R_field fa83_1 rfl) (V (R_load rfl (load_boxA hST.has (Mt Mh) (encRole H.Head) rfl Tryz.isAgg47 Tryz.sizeOf47)) (V (R_field fa78_1 rfl) (V (R_load rfl (load_box1 hST.has Mh rfl Tryz.isAgg9)) ?_)))))
    obtain ⟨r6, e7, hm⟩ := bind_some hm
    have hsz := hST.size
    refine VE (E_callM (args := [(.pointer (some ⟨N, 0, none⟩)), (.agg (encRole H.Head).toArray), (.string a2.Who)]) (caps := #[]) _ _ hST (Cb (Pb (Pb Pz)) (Cr (Qb (Qb Qz)) (Cr (Qb (Qb Qz)) (Cr (Qb (Qb Qz)) (Cr (Qb (Qb Qz)) (Cr (Qb (Qb Qz)) Cn)))))) rfl Tryz.call146 (by exact args3 rfl rfl rfl) (fun hH hN hsb hmm => GivesM.weak (w_model_Model_tell_w N D G B g I c y U u i M f t K j Y H.Head a2.Who _ _ ⟨hH, hN, Sub.refl _⟩ a3 a0 a6 a4 Q e7)) (fun W8 g6 μ9 f9 hST f3 hlift c2 => ?_))
    obtain ⟨d4, e8, d5, b2, rfl, c7, c8⟩ := c2
    replace b2 := b2.symm; subst b2
    replace hST := hST.perm (Tb (Tr (Tr (Tr (Tr (Tr Tn))))))
    refine LW_nil (bq_n (retQ_n ?_))
    replace hm := Option.some.inj hm; subst hm
    exact retQ_0 rfl ⟨_, _, rfl, (hST.bkM (Kb (Kr (Kr (Kr (Kr (Kr Sn))))))), d4, e8, d5, rfl, rfl, c7, c8⟩
  replace hm := if_f b9 hm
  refine CW_seq (CW_region (V (R_int rfl rfl rfl) (V (R_assign rfl) (LW_nil (sq_n (CW_if (b := (H.Kind == 3)) rfl (fun a8 => ?_) (fun a8 => ?_)))))))
  · replace hm := if_t a8 hm
    refine CW_region (V (R_move rfl) (V (R_field fa78_1 rfl) (V (R_load rfl (load_box1 hST.has Mh rfl Tryz.isAgg9)) (V (R_field fa83_5 rfl) (V (R_load rfl (load_box1 hST.has (Mt Mh) rfl Tryz.isAgg9)) (V (R_build (qs := #[(0, (.string a2.Who)), (1, (.string H.Word2))]) (v := (.agg (encRole ((⟨a2.Who, H.Word2⟩ : Role))).toArray)) (parts2 rfl rfl) (run_build Tryz.zeroValue47 Tryz.underlying47 (pl47 _ Tryz.underlying47) (by kernel_rfl))) (V (R_field fa83_1 rfl) (V (R_load rfl (load_boxA hST.has (Mt Mh) (encRole H.Head) rfl Tryz.isAgg47 Tryz.sizeOf47)) ?_))))))))
    obtain ⟨g4, c5, hm⟩ := bind_some hm
    have hsz := hST.size
    refine VE (E_callM (args := [(.pointer (some ⟨N, 0, none⟩)), (.agg (encRole ((⟨a2.Who, H.Word2⟩ : Role))).toArray), (.agg (encRole H.Head).toArray)]) (caps := #[]) _ _ hST (Cb (Pb (Pb Pz)) (Cr (Qb (Qb Qz)) (Cr (Qb (Qb Qz)) (Cr (Qb (Qb Qz)) (Cr (Qb (Qb Qz)) (Cr (Qb (Qb Qz)) Cn)))))) rfl Tryz.call187 (by exact args3 rfl rfl rfl) (fun hH hN hsb hmm => (w_model_Model_all_w N D G B g I c y U u i M f t K j Y ((⟨a2.Who, H.Word2⟩ : Role)) H.Head _ _ ⟨hH, hN, Sub.refl _⟩ a3 a0 a6 a4 Q c5)) (fun g2 g7 g9 g0 hST f4 hlift c3 => ?_))
    obtain ⟨d6, f0, d7, b4, rfl, c9, d0⟩ := c3
    replace b4 := b4.symm; subst b4
    replace hST := hST.perm (Tb (Tr (Tr (Tr (Tr (Tr Tn))))))
    refine LW_nil (bq_n (retQ_n ?_))
    replace hm := Option.some.inj hm; subst hm
    exact retQ_0 rfl ⟨_, _, rfl, (hST.bkM (Kb (Kr (Kr (Kr (Kr (Kr Sn))))))), d6, f0, d7, rfl, rfl, c9, d0⟩
  replace hm := if_f a8 hm
  refine CW_seq (CW_region (V (R_int rfl rfl rfl) (V (R_assign rfl) (LW_nil (sq_n (CW_if (b := (H.Kind == 4)) rfl (fun a9 => ?_) (fun a9 => ?_)))))))
  · replace hm := if_t a9 hm
    refine CW_seq ?_
    replace hST := hST.drew
    have hS0 := hST.has.sel (Kb (Kb (Kb (Kr Sn))))
    refine PX_start1 hS0 Tryz_mixed (X 0 rfl hS0 (R_move rfl) (X 1 rfl hS0 (R_nilCheck rfl) (X 2 rfl hS0 (R_field fa134_0 rfl) (XH 3 rfl hS0 (fun _ hS => R_load rfl (load_box1 hS (Mt (Mt Mh)) rfl Tryz.isAgg130)) (X 4 rfl hS0 (R_field fa83_3 rfl) (XH 5 rfl hS0 (fun _ hS => R_load rfl (load_boxA hS (Mt Mh) (encRole H.B) rfl Tryz.isAgg47 Tryz.sizeOf47)) ?_))))))
    obtain ⟨f8, a7⟩ := a3
    refine XH 6 rfl hS0 (fun _ hS => R_lookupDeep (k := H.B) (z := (.map none)) kl47 Tryz.underlying130 Tryz.zeroValue119 rfl rfl a7 (fun b o hq => hS.2 b o (Mt (Mt (Mt (Ml hq)))))) (X 7 rfl hS0 (R_field fa78_1 rfl) (XH 8 rfl hS0 (fun _ hS => R_load rfl (load_box1 hS Mh rfl Tryz.isAgg9)) (XH 9 rfl hS0 (fun _ hS => R_lookupD (k := a2.Who) (z := false) (vf := (fun (x : Bool) => (Value.bool x))) kl9 Tryz.underlying119 Tryz.zeroValue4 rfl rfl (DeepV.mapAt (μ := hp _) beqRole_iff.1 a7 H.B (fun b o hq => hS.2 b o (Mt (Mt (Mt (Ml hq))))))) (X 10 rfl hS0 (R_move rfl) ?_))))
    obtain ⟨g5, Z, c0⟩ := bind_some hm
    refine PX_join (J := fun E W => ∃ (b8 : Bool) (c1 : List (Nat × Obj)), ST false (keys ((N, Obj.cells (#[D, g, y, i, t, (.int .i64 Y)] : Array Value) 134 (0, 0)) :: (B ++ (c ++ (u ++ (f ++ (j ++ []))))))) w W μ0 ((b3, Obj.cells ((encFact a2).toArray : Array Value) 78 (0, 0)) :: ((b1, Obj.cells ((encCred H).toArray : Array Value) 83 (0, 0)) :: ((N, Obj.cells (#[D, g, y, i, t, (.int .i64 Y)] : Array Value) 134 (0, 0)) :: (B ++ (c ++ (u ++ (f ++ (j ++ c1)))))))) ∧ E 0 = (.pointer (some ⟨N, 0, none⟩)) ∧ E 4 = (.pointer (some ⟨b1, 0, none⟩)) ∧ E 5 = (.pointer (some ⟨b3, 0, none⟩)) ∧ E 50 = (.bool b8) ∧ (if b8 then (((m_model_Model_tell_w G I U M K Y H.Head a2.Who)).bind fun b7 => some (b7.1, b7.2.1, b7.2.2)) else some (G, K, Y)) = some r) #[true, true, true, true, true, true, true, true, true, true, true, true, true, true, true, true, true, true, true, true, true, true] 0 ?_ (fun b6 => ?_)
    · rintro E W ⟨b8, c1, hST, e3, e4, e5, e6, T⟩
      have hS0 := hST.has.sel (Kb (Kb (Kb (Kr Sn))))
      refine PX_done (by kernel_rfl) (sq_n (CW_if (b := b8) e6 (fun b0 => ?_) (fun b0 => ?_)))
      · replace T := if_t b0 T
        refine CW_region (V (R_move e3) (V (R_field fa83_1 e4) (V (R_load rfl (load_boxA hST.has (Mt Mh) (encRole H.Head) rfl Tryz.isAgg47 Tryz.sizeOf47)) (V (R_field fa78_1 e5) (V (R_load rfl (load_box1 hST.has Mh rfl Tryz.isAgg9)) ?_)))))
        obtain ⟨b7, c6, T⟩ := bind_some T
        have hsz := hST.size
        refine VE (E_callM (args := [(.pointer (some ⟨N, 0, none⟩)), (.agg (encRole H.Head).toArray), (.string a2.Who)]) (caps := #[]) _ _ hST (Cb (Pb (Pb Pz)) (Cr (Qb (Qb Qz)) (Cr (Qb (Qb Qz)) (Cr (Qb (Qb Qz)) (Cr (Qb (Qb Qz)) (Cr (Qb (Qb Qz)) Cn)))))) rfl Tryz.call146 (by exact args3 rfl rfl rfl) (fun hH hN hsb hmm => GivesM.weak (w_model_Model_tell_w N D G B g I c y U u i M f t K j Y H.Head a2.Who _ _ ⟨hH, hN, Sub.refl _⟩ a7.e a0 a6 a4 Q c6)) (fun g3 g8 h1 g1 hST f5 hlift c4 => ?_))
        obtain ⟨d9, f1, e0, b5, rfl, d1, d2⟩ := c4
        replace b5 := b5.symm; subst b5
        replace hST := hST.perm (Tb (Tr (Tr (Tr (Tr (Tr Tn))))))
        refine LW_nil (bq_n (retQ_n ?_))
        replace T := Option.some.inj T; subst T
        exact retQ_0 rfl ⟨_, _, rfl, (hST.bkM (Kb (Kr (Kr (Kr (Kr (Kr Sn))))))), d9, f1, e0, rfl, rfl, d1, d2⟩
      replace T := if_f b0 T
      refine CW_skip (bq_n (retQ_n ?_))
      replace T := Option.some.inj T; subst T
      exact retQ_0 rfl ⟨_, _, rfl, (hST.bkM (Db (Db (Kb (Kr (Kr (Kr (Kr (Kr Sn))))))))), B, t, j, rfl, rfl, a7.e, Q⟩
    rcases bool_cases ((mgetD beqS (((mget beqRole G H.B).getD [])) a2.Who false)) with a | a
    · replace Z := if_t a Z
      refine Xg 11 rfl rfl (congrArg Value.bool a) hS0 (R_move rfl) (Xg 12 rfl rfl (congrArg Value.bool a) hS0 (R_nilCheck rfl) (Xg 13 rfl rfl (congrArg Value.bool a) hS0 (R_field fa134_0 rfl) (XgH 14 rfl rfl (congrArg Value.bool a) hS0 (fun _ hS => R_load rfl (load_box1 hS (Mt (Mt Mh)) rfl Tryz.isAgg130)) (Xg 15 rfl rfl (congrArg Value.bool a) hS0 (R_field fa83_4 rfl) (XgH 16 rfl rfl (congrArg Value.bool a) hS0 (fun _ hS => R_load rfl (load_boxA hS (Mt Mh) (encRole H.C) rfl Tryz.isAgg47 Tryz.sizeOf47)) (XgH 17 rfl rfl (congrArg Value.bool a) hS0 (fun _ hS => R_lookupDeep (k := H.C) (z := (.map none)) kl47 Tryz.underlying130 Tryz.zeroValue119 rfl rfl a7 (fun b o hq => hS.2 b o (Mt (Mt (Mt (Ml hq)))))) (Xg 18 rfl rfl (congrArg Value.bool a) hS0 (R_field fa78_1 rfl) (XgH 19 rfl rfl (congrArg Value.bool a) hS0 (fun _ hS => R_load rfl (load_box1 hS Mh rfl Tryz.isAgg9)) (XgH 20 rfl rfl (congrArg Value.bool a) hS0 (fun _ hS => R_lookupD (k := a2.Who) (z := false) (vf := (fun (x : Bool) => (Value.bool x))) kl9 Tryz.underlying119 Tryz.zeroValue4 rfl rfl (DeepV.mapAt (μ := hp _) beqRole_iff.1 a7 H.C (fun b o hq => hS.2 b o (Mt (Mt (Mt (Ml hq))))))) (X 21 rfl hS0 (R_pickT (congrArg Value.bool a) rfl) ?_))))))))))
      replace Z := Option.some.inj Z; subst Z
      refine PX_at (by kernel_rfl) (b6 _ _ ⟨((mgetD beqS (((mget beqRole G H.C).getD [])) a2.Who false)), _, (hST.sel St), rfl, rfl, rfl, rfl, c0⟩)
    replace Z := if_f a Z
    refine Xn 11 rfl rfl (congrArg Value.bool a) hS0 (Xn 12 rfl rfl (congrArg Value.bool a) hS0 (Xn 13 rfl rfl (congrArg Value.bool a) hS0 (Xn 14 rfl rfl (congrArg Value.bool a) hS0 (Xn 15 rfl rfl (congrArg Value.bool a) hS0 (Xn 16 rfl rfl (congrArg Value.bool a) hS0 (Xn 17 rfl rfl (congrArg Value.bool a) hS0 (Xn 18 rfl rfl (congrArg Value.bool a) hS0 (Xn 19 rfl rfl (congrArg Value.bool a) hS0 (Xn 20 rfl rfl (congrArg Value.bool a) hS0 (X 21 rfl hS0 (R_pickF (congrArg Value.bool a) rfl) ?_))))))))))
    replace Z := Option.some.inj Z; subst Z
    refine PX_at (by kernel_rfl) (b6 _ _ ⟨false, _, (hST.sel St), rfl, rfl, rfl, rfl, c0⟩)
  replace hm := if_f a9 hm
  refine CW_skip (bq_n (retQ_n ?_))
  replace hm := Option.some.inj hm; subst hm
  exact retQ_0 rfl ⟨_, _, rfl, (hST.bkM (Db (Db (Kb (Kr (Kr (Kr (Kr (Kr Sn))))))))), B, t, j, rfl, rfl, a3, Q⟩
theorem w_model_Model_begin_w (I : Nat) (f : Value) (T : List (Role × (List (ByteArray × Bool)))) (D : List (Nat × Obj)) (a : Value) (G : List Cred) (g : List (Nat × Obj)) (k : Value) (J : List (Role × (List Cred))) (t : List (Nat × Obj)) (c : Value) (H : List (ByteArray × (List Cred))) (j : List (Nat × Obj)) (u : Value) (M : List Fact) (z : List (Nat × Obj)) (Z : Int) (K : Cred) (r : ((List (Role × (List (ByteArray × Bool)))) × (List Fact) × Int)) (w : World) {μ0 : Mem} (h0 : Ent μ0 ((I, Obj.cells (#[f, a, k, c, u, (.int .i64 Z)] : Array Value) 134 (0, 0)) :: (D ++ (g ++ (t ++ (j ++ (z ++ [])))))) w) (a0 : DeepE (fun (x : Role) => (.agg (encRole x).toArray)) (MapRow Value.string (fun (x : Bool) => (Value.bool x))) f T D) (N : Row 83 encCred 9 a G g) (Y : DeepE (fun (x : Role) => (.agg (encRole x).toArray)) (Row 83 encCred 9) k J t) (Q : DeepE Value.string (Row 83 encCred 9) c H j) (U : Que 78 encFact 3 u M z) (hm : m_model_Model_begin_w T G J H M Z K = some r) :
    GivesM false Tryz.prog 101 [(.pointer (some ⟨I, 0, none⟩)), (.agg (encCred K).toArray)] w ((I, Obj.cells (#[f, a, k, c, u, (.int .i64 Z)] : Array Value) 134 (0, 0)) :: (D ++ (g ++ (t ++ (j ++ (z ++ [])))))) (fun v L1 W' => ∃ (S1 : List (Nat × Obj)) (y3 : Value) (S4 : List (Nat × Obj)), v = (.tuple #[]) ∧ L1 = ((I, Obj.cells (#[f, a, k, c, y3, (.int .i64 (r.2.2))] : Array Value) 134 (0, 0)) :: (S1 ++ (g ++ (t ++ (j ++ (S4 ++ [])))))) ∧ DeepE (fun (x : Role) => (.agg (encRole x).toArray)) (MapRow Value.string (fun (x : Bool) => (Value.bool x))) f r.1 S1 ∧ Que 78 encFact 3 y3 r.2.1 S4) := by
  have hST := ST.startE (dd := false) h0
  unfold m_model_Model_begin_w at hm
  refine calls_of_CW (n := 33) Tryz.func101 rfl rfl (Nat.le_of_ble_eq_true rfl) (CW_seq (CW_region (VE (E_box (v := (.agg (encCred K).toArray)) hST rfl (fun W2 b1 hST => LW_nil (sq_n (CW_seq (CW_region (V (R_field fa83_0 rfl) (V (R_load rfl (load_box1 hST.has Mh rfl Tryz.isAgg3)) (LW_nil (sq_n (CW_block (CW_seq (CW_region ?_)))))))))))))))
  refine V (R_int rfl rfl rfl) (V (R_assign rfl) (LW_nil (sq_n (CW_if (b := (K.Kind == 1)) rfl (fun c3 => ?_) (fun c3 => ?_)))))
  · replace hm := if_t c3 hm
    refine CW_region (V (R_move rfl) (V (R_field fa83_1 rfl) (V (R_load rfl (load_boxA hST.has Mh (encRole K.Head) rfl Tryz.isAgg47 Tryz.sizeOf47)) (V (R_field fa83_2 rfl) (V (R_load rfl (load_box1 hST.has Mh rfl Tryz.isAgg9)) ?_)))))
    obtain ⟨r4, f0, hm⟩ := bind_some hm
    have hsz := hST.size
    refine VE (E_callM (args := [(.pointer (some ⟨I, 0, none⟩)), (.agg (encRole K.Head).toArray), (.string K.Who)]) (caps := #[]) _ _ hST (Cb (Pb Pz) (Cr (Qb Qz) (Cr (Qb Qz) (Cr (Qb Qz) (Cr (Qb Qz) (Cr (Qb Qz) Cn)))))) rfl Tryz.call146 (by exact args3 rfl rfl rfl) (fun hH hN hsb hmm => GivesM.weak (w_model_Model_tell_w I f T D a G g k J t c H j u M z Z K.Head K.Who _ _ ⟨hH, hN, Sub.refl _⟩ a0 N Y Q U f0)) (fun W6 v9 μ7 g4 hST g0 hlift d7 => ?_))
    obtain ⟨e6, f2, e7, c0, rfl, d9, e0⟩ := d7
    replace c0 := c0.symm; subst c0
    replace hST := hST.perm (Tb (Tr (Tr (Tr (Tr (Tr Tn))))))
    refine LW_nil (bq_n (retQ_n ?_))
    replace hm := Option.some.inj hm; subst hm
    exact retQ_0 rfl ⟨_, _, rfl, (hST.bkM (Kb (Kr (Kr (Kr (Kr (Kr Sn))))))), e6, f2, e7, rfl, rfl, d9, e0⟩
  replace hm := if_f c3 hm
  refine CW_seq (CW_region (V (R_move rfl) (V (R_field fa83_3 rfl) (V (R_load rfl (load_boxA hST.has Mh (encRole K.B) rfl Tryz.isAgg47 Tryz.sizeOf47)) ?_))))
  obtain ⟨c5, d8, hm⟩ := bind_some hm
  refine VE (F_givesRow (args := [(.pointer (some ⟨I, 0, none⟩)), (.agg (encRole K.B).toArray)]) _ hST rfl Tryz.call37 (by exact args2 rfl rfl) ((w_model_Model_Members I f T a G k J c H u M Z K.B _ _ (a0.at (fun b o hq => hST.at_ (Mt (Mt (Ml hq))))) (N.sl lenCred (fun b o hq => hST.at_ (Mt (Mt (Ma (Ml hq)))))) (Y.at (fun b o hq => hST.at_ (Mt (Mt (Ma (Ma (Ml hq))))))) (Q.at (fun b o hq => hST.at_ (Mt (Mt (Ma (Ma (Ma (Ml hq)))))))) ((U.slL lenFact).mono (Pl.mono _) (memL_held (fun b o hq => hST.at_ (Mt (Mt (Ma (Ma (Ma (Ma (Ml hq)))))))))) (At.of (hST.at_ (Mt Mh)) _ rfl) d8)) (fun g5 f1 d4 e4 hST f4 b0 => V (R_lenRow Tryz.underlying27 rfl b0) (V (R_move rfl) (LW_nil (sq_n (CW_tail (CW_range (fun i E W => ∃ (a6 : List (Role × (List (ByteArray × Bool)))) (a2 : List (Nat × Obj)) (a4 : Value) (a7 : List Fact) (a3 : List (Nat × Obj)) (a8 : Int) (b5 : Mem) (b7 : List (Nat × Obj)), (E 13 = .int .i64 (i : Nat) ∧ E 12 = .int .i64 (c5.length : Nat)) ∧ Sub d4 b5 ∧ ST false (keys ((I, Obj.cells (#[f, a, k, c, u, (.int .i64 Z)] : Array Value) 134 (0, 0)) :: (D ++ (g ++ (t ++ (j ++ (z ++ []))))))) w W b5 ((I, Obj.cells (#[f, a, k, c, a4, (.int .i64 a8)] : Array Value) 134 (0, 0)) :: ((b1, Obj.cells ((encCred K).toArray : Array Value) 83 (0, 0)) :: (a2 ++ (g ++ (t ++ (j ++ (a3 ++ (e4 ++ b7)))))))) ∧ E 0 = (.pointer (some ⟨I, 0, none⟩)) ∧ E 3 = (.pointer (some ⟨b1, 0, none⟩)) ∧ E 11 = f1 ∧ DeepE (fun (x : Role) => (.agg (encRole x).toArray)) (MapRow Value.string (fun (x : Bool) => (Value.bool x))) f a6 a2 ∧ Que 78 encFact 3 a4 a7 a3 ∧ m_model_Model_begin_w_L1 G J H K (c5.drop i) a6 a7 a8 = some r) c5.length b0.len ⟨T, D, u, M, z, Z, d4, _, ⟨rfl, rfl⟩, (Sub.refl _), (hST.sel (Sb (Pr (Pb Pz)) (Sb (Pr Pz) (Sr (Qr Qz) (Sr (Qr Qz) (Sr (Qr Qz) (Sr (Qr Qz) (Sr (Qr Qz) St)))))))), rfl, rfl, rfl, a0, U, hm⟩ (by decide) (by decide) (by decide) (fun _ _ _ h => by obtain ⟨_, _, _, _, _, _, _, _, eIN, _⟩ := h; exact eIN) ?_ ?_)))))))
  · rintro e1 E W c7 ⟨a6, a2, a4, a7, a3, a8, b5, b7, ⟨eI, eN⟩, b6, hST, b8, a9, b9, b2, b3, B⟩
    obtain ⟨a5, f5, d0, c2, d1⟩ := drop_cons c7
    rw [d0] at B
    rw [m_model_Model_begin_w_L1] at B
    refine CW_block (CW_seq (CW_region (VQ (R_indexRow (i := (e1 : Int)) (x0 := a5) Tryz.underlying27 Tryz.sizeOf9 b9 eI b0 (Int.natCast_nonneg _) c2) (fun g1 c8 => V (R_load rfl (load_ix1 hST.has (fun p hq => (Mt (Mt (Ma (Ma (Ma (Ma (Ma (Ml hq))))))))) b0 (fun _ => rfl) c8 c2 (y := (.string a5)) rfl Tryz.isAgg9)) (V (R_assign rfl) (LW_nil (sq_n (CW_region (V (R_move b8) (V (R_load a9 (load_boxA hST.has (Mt Mh) (encCred K) rfl Tryz.isAgg83 Tryz.sizeOf83)) (V (R_field fa83_3 a9) (V (R_load rfl (load_boxA hST.has (Mt Mh) (encRole K.B) rfl Tryz.isAgg47 Tryz.sizeOf47)) (V (R_move rfl) (V (R_build (qs := #[(0, (.agg (encRole K.B).toArray)), (1, (.string a5))]) (v := (.agg (encFact ((⟨K.B, a5⟩ : Fact))).toArray)) (parts2 rfl rfl) (run_build Tryz.zeroValue78 Tryz.underlying78 (pl78 _ Tryz.underlying78) (by kernel_rfl))) ?_))))))))))))))
    obtain ⟨c1, c9, B⟩ := bind_some B
    have hsz := hST.size
    refine VE (E_callM (args := [(.pointer (some ⟨I, 0, none⟩)), (.agg (encCred K).toArray), (.agg (encFact ((⟨K.B, a5⟩ : Fact))).toArray)]) (caps := #[]) _ _ hST (Cb Pz (Cr (Qb Qz) (Cr (Qb Qz) (Cr (Qb Qz) (Cr (Qb Qz) (Cr (Qb Qz) Cn)))))) rfl Tryz.call147 (by exact args3 rfl rfl rfl) (fun hH hN hsb hmm => (w_model_Model_use_w I f a6 a2 a G g k J t c H j a4 a7 a3 a8 K ((⟨K.B, a5⟩ : Fact)) _ _ ⟨hH, hN, Sub.refl _⟩ b2 N Y Q b3 c9)) (fun f8 g2 e3 f7 hST c4 hlift c6 => ?_))
    obtain ⟨d5, e2, d6, b4, rfl, d2, d3⟩ := c6
    replace b4 := b4.symm; subst b4
    replace hST := hST.perm (Tb (Tr (Tr (Tr (Tr (Tr Tn))))))
    exact LW_nil (bq_n (sq_n ⟨eI, c1.1, d5, e2, c1.2.1, d6, c1.2.2, e3, _, ⟨rfl, eN⟩, (b6.trans c4), (hST.sel (Kb (Sb (Pr (Pr (Pr (Pr (Pr Pz))))) St))), b8, a9, b9, d2, d3, (by rw [d1]; exact B)⟩))
  rintro E W ⟨a6, a2, a4, a7, a3, a8, b5, b7, ⟨eI, eN⟩, b6, hST, b8, a9, b9, b2, b3, B⟩
  rw [List.drop_length] at B
  rw [m_model_Model_begin_w_L1] at B
  refine sq_n ?_
  replace hST := hST.sel (Kb (Db (Kr (Kr (Kr (Kr (Kr (Dr St))))))))
  refine bq_n (retQ_n ?_)
  replace B := Option.some.inj B; subst B
  exact retQ_0 rfl ⟨_, _, rfl, (hST.bkM (Kb (Kr (Kr (Kr (Kr (Kr Sn))))))), a2, a4, a3, rfl, rfl, b2, b3⟩
theorem w_model_Model_settle_w (H : Nat) (a : Value) (f0 : List (Role × (List (ByteArray × Bool)))) (N : List (Nat × Obj)) (c : Value) (M : List Cred) (g : List (Nat × Obj)) (t : Value) (G : List (Role × (List Cred))) (y : List (Nat × Obj)) (f : Value) (B : List (ByteArray × (List Cred))) (j : List (Nat × Obj)) (K : Value) (d3 : List Fact) (J : List (Nat × Obj)) (a1 : Int) (r : ((List (Role × (List (ByteArray × Bool)))) × (List Fact) × Int)) (w : World) {μ0 : Mem} (h0 : Ent μ0 ((H, Obj.cells (#[a, c, t, f, K, (.int .i64 a1)] : Array Value) 134 (0, 0)) :: (N ++ (g ++ (y ++ (j ++ (J ++ [])))))) w) (h7 : DeepE (fun (x : Role) => (.agg (encRole x).toArray)) (MapRow Value.string (fun (x : Bool) => (Value.bool x))) a f0 N) (c5 : Row 83 encCred 9 c M g) (h1 : DeepE (fun (x : Role) => (.agg (encRole x).toArray)) (Row 83 encCred 9) t G y) (c6 : DeepE Value.string (Row 83 encCred 9) f B j) (g9 : Que 78 encFact 3 K d3 J) (hm : m_model_Model_settle_w f0 M G B d3 a1 = some r) :
    GivesM false Tryz.prog 102 [(.pointer (some ⟨H, 0, none⟩))] w ((H, Obj.cells (#[a, c, t, f, K, (.int .i64 a1)] : Array Value) 134 (0, 0)) :: (N ++ (g ++ (y ++ (j ++ (J ++ [])))))) (fun v L1 W' => ∃ (S1 : List (Nat × Obj)) (y3 : Value) (S4 : List (Nat × Obj)), v = (.tuple #[]) ∧ L1 = ((H, Obj.cells (#[a, c, t, f, y3, (.int .i64 (r.2.2))] : Array Value) 134 (0, 0)) :: (S1 ++ (g ++ (y ++ (j ++ (S4 ++ [])))))) ∧ DeepE (fun (x : Role) => (.agg (encRole x).toArray)) (MapRow Value.string (fun (x : Bool) => (Value.bool x))) a r.1 S1 ∧ Que 78 encFact 3 y3 r.2.1 S4) := by
  have hST := ST.startE (dd := false) h0
  unfold m_model_Model_settle_w at hm
  refine calls_of_CW (n := 75) Tryz.func102 rfl rfl (Nat.le_of_ble_eq_true rfl) (CW_tail (CW_block (CW_loop (fun m E W => ∃ (e2 : List (Role × (List (ByteArray × Bool)))) (c2 : List (Nat × Obj)) (e5 : Value) (U : List Fact) (c3 : List (Nat × Obj)) (d1 : Int) (b9 : Mem) (h8 : List (Nat × Obj)), Sub μ0 b9 ∧ ST false (keys ((H, Obj.cells (#[a, c, t, f, K, (.int .i64 a1)] : Array Value) 134 (0, 0)) :: (N ++ (g ++ (y ++ (j ++ (J ++ []))))))) w W b9 ((H, Obj.cells (#[a, c, t, f, e5, (.int .i64 d1)] : Array Value) 134 (0, 0)) :: (c2 ++ (g ++ (y ++ (j ++ (c3 ++ h8)))))) ∧ E 0 = (.pointer (some ⟨H, 0, none⟩)) ∧ DeepE (fun (x : Role) => (.agg (encRole x).toArray)) (MapRow Value.string (fun (x : Bool) => (Value.bool x))) a e2 c2 ∧ Que 78 encFact 3 e5 U c3 ∧ m_model_Model_settle_w_L1 M G B m e2 U d1 = some r) FUEL ⟨f0, N, K, d3, J, a1, μ0, _, (Sub.refl _), (hST.sel St), rfl, h7, g9, hm⟩ ?_)))
  rintro m E W ⟨e2, c2, e5, U, c3, d1, b9, h8, i3, hST, a9, h3, c9, I⟩
  cases m with
  | zero => rw [m_model_Model_settle_w_L1] at I; cases I
  | succ g6 =>
    rw [m_model_Model_settle_w_L1] at I
    refine CW_seq (CW_seq (CW_region (V (R_move a9) (V (R_nilCheck rfl) (V (R_field fa134_4 rfl) (V (R_load rfl (load_box1 hST.has Mh rfl Tryz.isAgg53)) (V (R_lenQue Tryz.underlying53 rfl c9) (V (R_int rfl rfl rfl) (LW_nil (sq_n (CW_if (b := (decide (((U.length : Int)) > 0))) rfl (fun f1 => ?_) (fun f1 => ?_))))))))))))
    · replace I := if_t f1 I
      refine CW_skip (sq_n (CW_block (CW_seq (CW_region (V (R_move a9) (V (R_nilCheck rfl) (V (R_field fa134_4 rfl) (V (R_load rfl (load_box1 hST.has Mh rfl Tryz.isAgg53)) ?_))))))))
      obtain ⟨u, h5, I⟩ := bind_some I
      refine VQ (R_indexP (enc := encFact) (i := 0) (x0 := u) Tryz.underlying53 Tryz.sizeOf78 rfl rfl (c9.slL lenFact) (idx_nonneg h5) (idx_get h5)) (fun p6 j8 => V (R_load rfl (load_atA (Has.hp _) (j8.mono (memL_held (fun b o hq => hST.has.2 b o (Mt (Ma (Ma (Ma (Ma (Ml hq))))))))) Tryz.isAgg78 Tryz.sizeOf78)) (VE (E_alloc hST Tryz.zeroValue78 (fun o5 a8 hST => VO (F_store (.agg (encFact u).toArray) ((encFact u).toArray) hST rfl rfl Tryz.sizeOf78 (oneFact u) (Nat.le_of_ble_eq_true rfl) rfl (fun o6 hST => LW_nil (sq_n (CW_seq (CW_region (V (R_move a9) (V (R_move a9) (V (R_nilCheck rfl) (V (R_field fa134_4 rfl) (V (R_load rfl (load_box1 hST.has (Mt Mh) rfl Tryz.isAgg53)) ?_))))))))))))))
      obtain ⟨_, h2, I⟩ := bind_some I
      refine VQ (R_sliceQue (i := 1) Tryz.underlying53 Tryz.sizeOf78 rfl rfl lenFact c9 (chk_1 h2) (chk_2 h2)) (fun p9 h4 => V (R_nilCheck rfl) (V (R_field fa134_4 rfl) ?_))
      obtain ⟨g1, g4, rfl⟩ := h4.form
      replace hST := hST.perm (Nb (Pb Pz) Nz)
      refine VO (F_store (.slice g1 ((U.drop (Int.toNat 1))).length g4) (#[a, c, t, f, (.slice g1 ((U.drop (Int.toNat 1))).length g4), (.int .i64 d1)]) hST rfl rfl Tryz.sizeOf53 (by simp [Value.cells, Value.oneCell']) (Nat.le_of_ble_eq_true rfl) rfl (fun o7 hST => LW_nil (sq_n (CW_seq (CW_seq ?_)))))
      replace hST := hST.drew
      have hS0 := hST.has.sel (Kb (Kb (Dr (Dr (Kr Sn)))))
      refine PX_start1 hS0 Tryz_mixed (X 0 rfl hS0 (R_move a9) (X 1 rfl hS0 (R_nilCheck rfl) (X 2 rfl hS0 (R_field fa134_2 rfl) (XH 3 rfl hS0 (fun _ hS => R_load rfl (load_box1 hS Mh rfl Tryz.isAgg131)) (X 4 rfl hS0 (R_field fa78_0 rfl) (XH 5 rfl hS0 (fun _ hS => R_load rfl (load_boxA hS (Mt Mh) (encRole u.Role) rfl Tryz.isAgg47 Tryz.sizeOf47)) ?_))))))
      obtain ⟨l8, c7⟩ := h1
      obtain ⟨o3, f4, k3⟩ := DeepV.rowAt beqRole_iff.1 c7 u.Role
      refine XH 6 rfl hS0 (fun _ hS => R_lookupDeep (k := u.Role) (z := (.slice none 0 0)) kl47 Tryz.underlying131 Tryz.zeroValue22 rfl rfl c7 (fun b o hq => hS.2 b o (Mt (Mt (Ml hq))))) (X 7 rfl hS0 (R_len Tryz.underlying22 rfl (f4.slL lenCred)) (X 8 rfl hS0 (R_move rfl) (PX_done (by kernel_rfl) (sq_n ?_))))
      obtain ⟨m8, j6, j7⟩ := bind_some I
      refine CW_cut (fun E W => ∃ (e3 : List (Role × (List (ByteArray × Bool)))) (d5 : List (Nat × Obj)) (e6 : Value) (e4 : List Fact) (d6 : List (Nat × Obj)) (e8 : Int) (c0 : Mem) (h9 : List (Nat × Obj)), Sub b9 c0 ∧ ST false (keys ((H, Obj.cells (#[a, c, t, f, K, (.int .i64 a1)] : Array Value) 134 (0, 0)) :: (N ++ (g ++ (y ++ (j ++ (J ++ []))))))) w W c0 ((H, Obj.cells (#[a, c, t, f, e6, (.int .i64 e8)] : Array Value) 134 (0, 0)) :: ((a8, Obj.cells ((encFact u).toArray : Array Value) 78 (0, 0)) :: (d5 ++ (g ++ (y ++ (j ++ (d6 ++ h9))))))) ∧ E 0 = (.pointer (some ⟨H, 0, none⟩)) ∧ E 2 = (.pointer (some ⟨a8, 0, none⟩)) ∧ DeepE (fun (x : Role) => (.agg (encRole x).toArray)) (MapRow Value.string (fun (x : Bool) => (Value.bool x))) a e3 d5 ∧ Que 78 encFact 3 e6 e4 d6 ∧ ((m_model_Model_settle_w_L2 u M G B (((mget beqS B u.Role.Word).getD [])) e3 e4 e8 : Option (((List (Role × (List (ByteArray × Bool)))) × (List Fact) × Int))).bind fun (b2, b3, b7) => (m_model_Model_settle_w_L1 M G B g6 b2 b3 b7)) = some r) ?_ ?_
      · refine CW_range (fun i E W => ∃ (b4 : List (Role × (List (ByteArray × Bool)))) (a6 : List (Nat × Obj)) (b6 : Value) (b5 : List Fact) (a7 : List (Nat × Obj)) (b8 : Int) (d2 : Mem) (g3 : List (Nat × Obj)), (E 35 = .int .i64 (i : Nat) ∧ E 34 = .int .i64 ((((mget beqRole G u.Role).getD [])).length : Nat)) ∧ Sub b9 d2 ∧ ST false (keys ((H, Obj.cells (#[a, c, t, f, K, (.int .i64 a1)] : Array Value) 134 (0, 0)) :: (N ++ (g ++ (y ++ (j ++ (J ++ []))))))) w W d2 ((H, Obj.cells (#[a, c, t, f, b6, (.int .i64 b8)] : Array Value) 134 (0, 0)) :: ((a8, Obj.cells ((encFact u).toArray : Array Value) 78 (0, 0)) :: (a6 ++ (g ++ (y ++ (j ++ (a7 ++ g3))))))) ∧ E 0 = (.pointer (some ⟨H, 0, none⟩)) ∧ E 2 = (.pointer (some ⟨a8, 0, none⟩)) ∧ E 33 = (valAt beqRole l8 u.Role (.slice none 0 0)) ∧ DeepE (fun (x : Role) => (.agg (encRole x).toArray)) (MapRow Value.string (fun (x : Bool) => (Value.bool x))) a b4 a6 ∧ Que 78 encFact 3 b6 b5 a7 ∧ m_model_Model_settle_w_L3 M G B u ((((mget beqRole G u.Role).getD [])).drop i) b4 b5 b8 = some m8) (((mget beqRole G u.Role).getD [])).length (f4.slL lenCred).len ⟨e2, c2, (.slice g1 ((U.drop (Int.toNat 1))).length g4), ((U.drop (Int.toNat 1))), c3, d1, b9, _, ⟨rfl, rfl⟩, (Sub.refl _), (hST.sel St), a9, rfl, rfl, h3, h4, j6⟩ (by decide) (by decide) (by decide) (fun _ _ _ h => by obtain ⟨_, _, _, _, _, _, _, _, eIN, _⟩ := h; exact eIN) ?_ ?_
        · rintro m6 E W j1 ⟨b4, a6, b6, b5, a7, b8, d2, g3, ⟨eI, eN⟩, d4, hST, e0, e1, g5, f7, f8, Q⟩
          obtain ⟨a5, n9, l2, l1, l3⟩ := drop_cons j1
          rw [l2] at Q
          rw [m_model_Model_settle_w_L3] at Q
          refine CW_block (CW_seq (CW_region (VQ (R_indexP (enc := encCred) (i := (m6 : Int)) (x0 := a5) Tryz.underlying22 Tryz.sizeOf83 g5 eI (f4.slL lenCred) (Int.natCast_nonneg _) l1) (fun p8 k0 => V (R_load rfl (load_atA (Has.hp _) (k0.mono (memL_held (fun b o hq => hST.has.2 b o (Mt (Mt (Ma (Ma (Ml (k3 b o hq))))))))) Tryz.isAgg83 Tryz.sizeOf83)) (VE (E_alloc hST Tryz.zeroValue83 (fun p1 p5 hST => VO (F_store (.agg (encCred a5).toArray) ((encCred a5).toArray) hST rfl rfl Tryz.sizeOf83 (oneCred a5) (Nat.le_of_ble_eq_true rfl) rfl (fun p2 hST => LW_nil (sq_n (CW_region (V (R_move e0) (V (R_load rfl (load_boxA hST.has Mh (encCred a5) rfl Tryz.isAgg83 Tryz.sizeOf83)) (V (R_load e1 (load_boxA hST.has (Mt (Mt Mh)) (encFact u) rfl Tryz.isAgg78 Tryz.sizeOf78)) ?_))))))))))))))
          obtain ⟨g8, k2, Q⟩ := bind_some Q
          have hsz := hST.size
          refine VE (E_callM (args := [(.pointer (some ⟨H, 0, none⟩)), (.agg (encCred a5).toArray), (.agg (encFact u).toArray)]) (caps := #[]) _ _ hST (Cb (Pb Pz) (Cr (Qb (Qb Qz)) (Cr (Qb (Qb Qz)) (Cr (Qb (Qb Qz)) (Cr (Qb (Qb Qz)) (Cr (Qb (Qb Qz)) Cn)))))) rfl Tryz.call147 (by exact args3 rfl rfl rfl) (fun hH hN hsb hmm => (w_model_Model_use_w H a b4 a6 c M g t G y f B j b6 b5 a7 b8 a5 u _ _ ⟨hH, hN, Sub.refl _⟩ f7 c5 c7.e c6 f8 k2)) (fun p3 q1 n2 o2 hST i7 hlift i9 => ?_))
          obtain ⟨m2, n0, m3, g0, rfl, l6, l7⟩ := i9
          replace g0 := g0.symm; subst g0
          replace hST := hST.perm (Tb (Tr (Tr (Tr (Tr (Tr Tn))))))
          refine LW_nil (bq_n (sq_n ?_))
          replace hST := hST.sel (Kb (Kr (Kr (Kr (Kr (Kr (Db St)))))))
          exact ⟨eI, g8.1, m2, n0, g8.2.1, m3, g8.2.2, n2, _, ⟨rfl, eN⟩, (d4.trans i7), (hST.sel (Kb (Sb (Pr (Pr (Pr (Pr (Pr Pz))))) St))), e0, e1, g5, l6, l7, (by rw [l3]; exact Q)⟩
        rintro E W ⟨b4, a6, b6, b5, a7, b8, d2, g3, ⟨eI, eN⟩, d4, hST, e0, e1, g5, f7, f8, Q⟩
        rw [List.drop_length] at Q
        rw [m_model_Model_settle_w_L3] at Q
        refine sq_n ?_
        replace Q := Option.some.inj Q; subst Q
        exact ⟨b4, a6, b6, b5, a7, b8, d2, _, d4, (hST.sel St), e0, e1, f7, f8, j7⟩
      rintro E W ⟨e3, d5, e6, e4, d6, e8, c0, h9, i4, hST, i1, i2, k4, k5, j2⟩
      refine CW_seq ?_
      replace hST := hST.drew
      have hS0 := hST.has.sel (Kb (Kb (Dr (Dr (Dr (Kr Sn))))))
      refine PX_start1 hS0 Tryz_mixed (X 0 rfl hS0 (R_move i1) (X 1 rfl hS0 (R_nilCheck rfl) (X 2 rfl hS0 (R_field fa134_3 rfl) (XH 3 rfl hS0 (fun _ hS => R_load rfl (load_box1 hS Mh rfl Tryz.isAgg132)) (X 4 rfl hS0 (R_field fa78_0 i2) (X 5 rfl hS0 (R_field fa47_1 rfl) (XH 6 rfl hS0 (fun _ hS => R_load rfl (load_box1 hS (Mt Mh) rfl Tryz.isAgg9)) ?_)))))))
      obtain ⟨l9, f3⟩ := c6
      obtain ⟨o4, f5, k6⟩ := DeepV.rowAt beqS_iff.1 f3 u.Role.Word
      refine XH 7 rfl hS0 (fun _ hS => R_lookupDeep (k := u.Role.Word) (z := (.slice none 0 0)) kl9 Tryz.underlying132 Tryz.zeroValue22 rfl rfl f3 (fun b o hq => hS.2 b o (Mt (Mt (Ml hq))))) (X 8 rfl hS0 (R_len Tryz.underlying22 rfl (f5.slL lenCred)) (X 9 rfl hS0 (R_move rfl) (PX_done (by kernel_rfl) (sq_n (CW_tail ?_)))))
      obtain ⟨m7, j4, j5⟩ := bind_some j2
      refine CW_cut (fun E W => ∃ (b2 : List (Role × (List (ByteArray × Bool)))) (d7 : List (Nat × Obj)) (e7 : Value) (b3 : List Fact) (d8 : List (Nat × Obj)) (b7 : Int) (e9 : Mem) (i0 : List (Nat × Obj)), Sub c0 e9 ∧ ST false (keys ((H, Obj.cells (#[a, c, t, f, K, (.int .i64 a1)] : Array Value) 134 (0, 0)) :: (N ++ (g ++ (y ++ (j ++ (J ++ []))))))) w W e9 ((H, Obj.cells (#[a, c, t, f, e7, (.int .i64 b7)] : Array Value) 134 (0, 0)) :: (d7 ++ (g ++ (y ++ (j ++ (d8 ++ i0)))))) ∧ E 0 = (.pointer (some ⟨H, 0, none⟩)) ∧ DeepE (fun (x : Role) => (.agg (encRole x).toArray)) (MapRow Value.string (fun (x : Bool) => (Value.bool x))) a b2 d7 ∧ Que 78 encFact 3 e7 b3 d8 ∧ (m_model_Model_settle_w_L1 M G B g6 b2 b3 b7) = some r) ?_ ?_
      · refine CW_range (fun i E W => ∃ (Y : List (Role × (List (ByteArray × Bool)))) (Z : List (Nat × Obj)) (a3 : Value) (a2 : List Fact) (a0 : List (Nat × Obj)) (a4 : Int) (c1 : Mem) (g2 : List (Nat × Obj)), (E 53 = .int .i64 (i : Nat) ∧ E 52 = .int .i64 ((((mget beqS B u.Role.Word).getD [])).length : Nat)) ∧ Sub c0 c1 ∧ ST false (keys ((H, Obj.cells (#[a, c, t, f, K, (.int .i64 a1)] : Array Value) 134 (0, 0)) :: (N ++ (g ++ (y ++ (j ++ (J ++ []))))))) w W c1 ((H, Obj.cells (#[a, c, t, f, a3, (.int .i64 a4)] : Array Value) 134 (0, 0)) :: ((a8, Obj.cells ((encFact u).toArray : Array Value) 78 (0, 0)) :: (Z ++ (g ++ (y ++ (j ++ (a0 ++ g2))))))) ∧ E 0 = (.pointer (some ⟨H, 0, none⟩)) ∧ E 2 = (.pointer (some ⟨a8, 0, none⟩)) ∧ E 51 = (valAt beqS l9 u.Role.Word (.slice none 0 0)) ∧ DeepE (fun (x : Role) => (.agg (encRole x).toArray)) (MapRow Value.string (fun (x : Bool) => (Value.bool x))) a Y Z ∧ Que 78 encFact 3 a3 a2 a0 ∧ m_model_Model_settle_w_L2 u M G B ((((mget beqS B u.Role.Word).getD [])).drop i) Y a2 a4 = some m7) (((mget beqS B u.Role.Word).getD [])).length (f5.slL lenCred).len ⟨e3, d5, e6, e4, d6, e8, c0, _, ⟨rfl, rfl⟩, (Sub.refl _), (hST.sel St), i1, i2, rfl, k4, k5, j4⟩ (by decide) (by decide) (by decide) (fun _ _ _ h => by obtain ⟨_, _, _, _, _, _, _, _, eIN, _⟩ := h; exact eIN) ?_ ?_
        · rintro m5 E W j0 ⟨Y, Z, a3, a2, a0, a4, c1, g2, ⟨eI, eN⟩, b1, hST, b0, c4, d9, f6, d0, D⟩
          obtain ⟨T, n8, l0, k9, h6⟩ := drop_cons j0
          rw [l0] at D
          rw [m_model_Model_settle_w_L2] at D
          refine CW_block (CW_seq (CW_region (VQ (R_indexP (enc := encCred) (i := (m5 : Int)) (x0 := T) Tryz.underlying22 Tryz.sizeOf83 d9 eI (f5.slL lenCred) (Int.natCast_nonneg _) k9) (fun p7 j9 => V (R_load rfl (load_atA (Has.hp _) (j9.mono (memL_held (fun b o hq => hST.has.2 b o (Mt (Mt (Ma (Ma (Ma (Ml (k6 b o hq)))))))))) Tryz.isAgg83 Tryz.sizeOf83)) (VE (E_alloc hST Tryz.zeroValue83 (fun o8 p4 hST => VO (F_store (.agg (encCred T).toArray) ((encCred T).toArray) hST rfl rfl Tryz.sizeOf83 (oneCred T) (Nat.le_of_ble_eq_true rfl) rfl (fun o9 hST => LW_nil (sq_n (CW_seq ?_)))))))))))
          replace hST := hST.drew
          have hS0 := hST.has.sel (Kb (Kb (Kb (Kr Sn))))
          refine PX_start1 hS0 Tryz_mixed (X 0 rfl hS0 (R_move b0) (X 1 rfl hS0 (R_nilCheck rfl) (X 2 rfl hS0 (R_field fa134_0 rfl) (XH 3 rfl hS0 (fun _ hS => R_load rfl (load_box1 hS (Mt Mh) rfl Tryz.isAgg130)) (X 4 rfl hS0 (R_field fa83_3 rfl) (XH 5 rfl hS0 (fun _ hS => R_load rfl (load_boxA hS Mh (encRole T.B) rfl Tryz.isAgg47 Tryz.sizeOf47)) ?_))))))
          obtain ⟨n6, c8⟩ := f6
          refine XH 6 rfl hS0 (fun _ hS => R_lookupDeep (k := T.B) (z := (.map none)) kl47 Tryz.underlying130 Tryz.zeroValue119 rfl rfl c8 (fun b o hq => hS.2 b o (Mt (Mt (Mt (Ml hq)))))) (X 7 rfl hS0 (R_field fa78_0 c4) (X 8 rfl hS0 (R_field fa47_0 rfl) (XH 9 rfl hS0 (fun _ hS => R_load rfl (load_box1 hS (Mt (Mt Mh)) rfl Tryz.isAgg9)) (XH 10 rfl hS0 (fun _ hS => R_lookupD (k := u.Role.Owner) (z := false) (vf := (fun (x : Bool) => (Value.bool x))) kl9 Tryz.underlying119 Tryz.zeroValue4 rfl rfl (DeepV.mapAt (μ := hp _) beqRole_iff.1 c8 T.B (fun b o hq => hS.2 b o (Mt (Mt (Mt (Ml hq))))))) (PX_done (by kernel_rfl) (sq_n (CW_if (b := (mgetD beqS (((mget beqRole Y T.B).getD [])) u.Role.Owner false)) rfl (fun f2 => ?_) (fun f2 => ?_))))))))
          · replace D := if_t f2 D
            refine CW_region (V (R_move b0) (V (R_field fa83_1 rfl) (V (R_load rfl (load_boxA hST.has Mh (encRole T.Head) rfl Tryz.isAgg47 Tryz.sizeOf47)) (V (R_field fa78_1 c4) (V (R_load rfl (load_box1 hST.has (Mt (Mt Mh)) rfl Tryz.isAgg9)) ?_)))))
            obtain ⟨g7, k1, D⟩ := bind_some D
            have hsz := hST.size
            refine VE (E_callM (args := [(.pointer (some ⟨H, 0, none⟩)), (.agg (encRole T.Head).toArray), (.string u.Who)]) (caps := #[]) _ _ hST (Cb (Pb Pz) (Cr (Qb (Qb Qz)) (Cr (Qb (Qb Qz)) (Cr (Qb (Qb Qz)) (Cr (Qb (Qb Qz)) (Cr (Qb (Qb Qz)) Cn)))))) rfl Tryz.call146 (by exact args3 rfl rfl rfl) (fun hH hN hsb hmm => GivesM.weak (w_model_Model_tell_w H a Y Z c M g t G y f B j a3 a2 a0 a4 T.Head u.Who _ _ ⟨hH, hN, Sub.refl _⟩ c8.e c5 c7.e f3.e d0 k1)) (fun p0 q0 n1 o1 hST i6 hlift i8 => ?_))
            obtain ⟨m0, m9, m1, f9, rfl, l4, l5⟩ := i8
            replace f9 := f9.symm; subst f9
            replace hST := hST.perm (Tb (Tr (Tr (Tr (Tr (Tr Tn))))))
            refine LW_nil (bq_n (sq_n ?_))
            replace hST := hST.sel (Kb (Kr (Kr (Kr (Kr (Kr (Db St)))))))
            exact ⟨eI, g7.1, m0, m9, g7.2.1, m1, g7.2.2, n1, _, ⟨rfl, eN⟩, (b1.trans i6), (hST.sel (Kb (Sb (Pr (Pr (Pr (Pr (Pr Pz))))) St))), b0, c4, d9, l4, l5, (by rw [h6]; exact D)⟩
          replace D := if_f f2 D
          refine CW_skip (bq_n (sq_n ?_))
          replace hST := hST.sel (Db St)
          exact ⟨eI, Y, Z, a3, a2, a0, a4, c1, _, ⟨rfl, eN⟩, b1, (hST.sel St), b0, c4, d9, c8.e, d0, (by rw [h6]; exact D)⟩
        rintro E W ⟨Y, Z, a3, a2, a0, a4, c1, g2, ⟨eI, eN⟩, b1, hST, b0, c4, d9, f6, d0, D⟩
        rw [List.drop_length] at D
        rw [m_model_Model_settle_w_L2] at D
        refine sq_n ?_
        replace D := Option.some.inj D; subst D
        exact ⟨Y, Z, a3, a2, a0, a4, c1, _, b1, (hST.sel (Kb (Db St))), b0, f6, d0, j5⟩
      rintro E W ⟨b2, d7, e7, b3, d8, b7, e9, i0, i5, hST, m4, k7, k8, j3⟩
      exact bq_n (sq_n ⟨g6, Nat.lt_succ_self _, b2, d7, e7, b3, d8, b7, e9, _, ((i3.trans i4).trans i5), (hST.sel St), m4, k7, k8, j3⟩)
    replace I := if_f f1 I
    refine CW_exit (sq_e (sq_e (bq_e (sq_n (retQ_n ?_)))))
    replace I := Option.some.inj I; subst I
    exact retQ_0 rfl ⟨_, _, rfl, (hST.bkM (Kb (Kr (Kr (Kr (Kr (Kr Sn))))))), c2, e5, c3, rfl, rfl, h3, c9⟩
theorem w_model_Model_Add_w (z : Nat) (f : Value) (c2 : List (Role × (List (ByteArray × Bool)))) (I : List (Nat × Obj)) (y : Value) (b0 : List Cred) (k : List (Nat × Obj)) (c : Value) (b9 : List (Role × (List Cred))) (G : List (Nat × Obj)) (a : Value) (b1 : List (ByteArray × (List Cred))) (t : List (Nat × Obj)) (H : Value) (b8 : List Fact) (D : List (Nat × Obj)) (N : Int) (d2 : Value) (a1 : List Cred) (r : (Int × (List (Role × (List (ByteArray × Bool)))) × (List Cred) × (List (Role × (List Cred))) × (List (ByteArray × (List Cred))) × (List Fact) × Int)) (w : World) {μ0 : Mem} (h0 : Ent μ0 ((z, Obj.cells (#[f, y, c, a, H, (.int .i64 N)] : Array Value) 134 (0, 0)) :: (I ++ (k ++ (G ++ (t ++ (D ++ [])))))) w) (d8 : DeepE (fun (x : Role) => (.agg (encRole x).toArray)) (MapRow Value.string (fun (x : Bool) => (Value.bool x))) f c2 I) (c6 : Row 83 encCred 9 y b0 k) (d5 : DeepE (fun (x : Role) => (.agg (encRole x).toArray)) (Row 83 encCred 9) c b9 G) (c7 : DeepE Value.string (Row 83 encCred 9) a b1 t) (d4 : Que 78 encFact 3 H b8 D) (d9 : Sl (Pl encCred) 9 μ0 d2 a1) (hm : m_model_Model_Add_w c2 b0 b9 b1 b8 N a1 = some r) :
    GivesM false Tryz.prog 41 [(.pointer (some ⟨z, 0, none⟩)), d2] w ((z, Obj.cells (#[f, y, c, a, H, (.int .i64 N)] : Array Value) 134 (0, 0)) :: (I ++ (k ++ (G ++ (t ++ (D ++ [])))))) (fun v L1 W' => ∃ (S1 : List (Nat × Obj)) (y3 : Value) (S4 : List (Nat × Obj)) (S6 : List (Nat × Obj)) (S8 : List (Nat × Obj)) (i0 : Value) (h9 : List (Nat × Obj)), v = (.int .i64 (r.1)) ∧ L1 = ((z, Obj.cells (#[f, y3, c, a, i0, (.int .i64 (r.2.2.2.2.2.2))] : Array Value) 134 (0, 0)) :: (S1 ++ (S4 ++ (S6 ++ (S8 ++ (h9 ++ [])))))) ∧ DeepE (fun (x : Role) => (.agg (encRole x).toArray)) (MapRow Value.string (fun (x : Bool) => (Value.bool x))) f r.2.1 S1 ∧ Row 83 encCred 9 y3 r.2.2.1 S4 ∧ DeepE (fun (x : Role) => (.agg (encRole x).toArray)) (Row 83 encCred 9) c r.2.2.2.1 S6 ∧ DeepE Value.string (Row 83 encCred 9) a r.2.2.2.2.1 S8 ∧ Que 78 encFact 3 i0 r.2.2.2.2.2.1 h9) := by
  have hST := ST.startE (dd := false) h0
  unfold m_model_Model_Add_w at hm
  refine calls_of_CW (n := 46) Tryz.func41 rfl rfl (Nat.le_of_ble_eq_true rfl) (CW_seq (CW_region (V (R_assign rfl) (LW_nil (sq_n (CW_seq (CW_seq (CW_region (V (R_move rfl) (V (R_ptrEqNil Tryz.underlying51 rfl rfl) (LW_nil (sq_n (CW_if_false rfl (CW_skip ?_))))))))))))))
  refine sq_n (CW_seq (CW_region (V (R_move rfl) (V (R_nilCheck rfl) (V (R_field fa134_5 rfl) (V (R_load rfl (load_box1 hST.has Mh rfl Tryz.isAgg3)) (V (R_assign rfl) (LW_nil (sq_n (CW_seq (CW_seq (CW_region (V (R_move rfl) (V (R_len Tryz.underlying22 rfl d9) ?_))))))))))))))
  refine V (R_move rfl) (LW_nil (sq_n (CW_range (fun i E W => ∃ (T : List (Role × (List (ByteArray × Bool)))) (a0 : List (Nat × Obj)) (Y : Value) (Z : List Cred) (a2 : List (Nat × Obj)) (a6 : List (Role × (List Cred))) (a3 : List (Nat × Obj)) (a7 : List (ByteArray × (List Cred))) (a4 : List (Nat × Obj)) (a8 : Value) (U : List Fact) (a5 : List (Nat × Obj)) (Q : Int) (c1 : Mem) (d7 : List (Nat × Obj)), (E 16 = .int .i64 (i : Nat) ∧ E 15 = .int .i64 (a1.length : Nat)) ∧ Sub μ0 c1 ∧ ST false (keys ((z, Obj.cells (#[f, y, c, a, H, (.int .i64 N)] : Array Value) 134 (0, 0)) :: (I ++ (k ++ (G ++ (t ++ (D ++ []))))))) w W c1 ((z, Obj.cells (#[f, Y, c, a, a8, (.int .i64 Q)] : Array Value) 134 (0, 0)) :: (a0 ++ (a2 ++ (a3 ++ (a4 ++ (a5 ++ d7)))))) ∧ E 0 = (.pointer (some ⟨z, 0, none⟩)) ∧ E 5 = (.int .i64 N) ∧ E 14 = d2 ∧ DeepE (fun (x : Role) => (.agg (encRole x).toArray)) (MapRow Value.string (fun (x : Bool) => (Value.bool x))) f T a0 ∧ Row 83 encCred 9 Y Z a2 ∧ DeepE (fun (x : Role) => (.agg (encRole x).toArray)) (Row 83 encCred 9) c a6 a3 ∧ DeepE Value.string (Row 83 encCred 9) a a7 a4 ∧ Que 78 encFact 3 a8 U a5 ∧ m_model_Model_Add_w_L1 N (a1.drop i) T Z a6 a7 U Q = some r) a1.length d9.len ⟨c2, I, y, b0, k, b9, G, b1, t, H, b8, D, N, μ0, _, ⟨rfl, rfl⟩, (Sub.refl _), (hST.sel St), rfl, rfl, rfl, d8, c6, d5, c7, d4, hm⟩ (by decide) (by decide) (by decide) (fun _ _ _ h => by obtain ⟨_, _, _, _, _, _, _, _, _, _, _, _, _, _, _, eIN, _⟩ := h; exact eIN) ?_ ?_)))
  · rintro f9 E W g4 ⟨T, a0, Y, Z, a2, a6, a3, a7, a4, a8, U, a5, Q, c1, d7, ⟨eI, eN⟩, b3, hST, c0, c3, c4, b4, a9, b5, b6, b7, u⟩
    obtain ⟨j, e5, h3, h2, e1⟩ := drop_cons g4
    rw [h3] at u
    rw [m_model_Model_Add_w_L1] at u
    refine CW_block (CW_seq (CW_region (VQ (R_indexP (enc := encCred) (i := (f9 : Int)) (x0 := j) Tryz.underlying22 Tryz.sizeOf83 c4 eI (d9.mono (Pl.mono _) b3) (Int.natCast_nonneg _) h2) (fun l0 g5 => V (R_load rfl (load_atA hST.has g5 Tryz.isAgg83 Tryz.sizeOf83)) (VE (E_alloc hST Tryz.zeroValue83 (fun k2 f1 hST => VO (F_store (.agg (encCred j).toArray) ((encCred j).toArray) hST rfl rfl Tryz.sizeOf83 (oneCred j) (Nat.le_of_ble_eq_true rfl) rfl (fun k3 hST => LW_nil (sq_n (CW_seq ?_)))))))))))
    replace hST := hST.drew
    have hS0 := hST.has.sel (Kb (Kb Sn))
    refine PX_start1 hS0 Tryz_mixed (XH 0 rfl hS0 (fun _ hS => R_load rfl (load_boxA hS Mh (encCred j) rfl Tryz.isAgg83 Tryz.sizeOf83)) ?_)
    obtain ⟨i6, g6, u⟩ := bind_some u
    refine XE 1 rfl (E_gives (args := [(.agg (encCred j).toArray)]) hST rfl Tryz.call98 (by exact args1 rfl) (Gives.weak (w_cred_Right j _ _  g6)) (fun k4 hST => ?_))
    have hS0 := hST.has.sel (Kb (Kb Sn))
    refine ⟨hS0, (X 2 rfl hS0 (R_move rfl) ?_)⟩
    obtain ⟨l1, B, e0⟩ := bind_some u
    refine PX_join (J := fun E W => ∃ (d3 : Bool) (e7 : List (Nat × Obj)), ST false (keys ((z, Obj.cells (#[f, y, c, a, H, (.int .i64 N)] : Array Value) 134 (0, 0)) :: (I ++ (k ++ (G ++ (t ++ (D ++ []))))))) w W c1 ((f1, Obj.cells ((encCred j).toArray : Array Value) 83 (0, 0)) :: ((z, Obj.cells (#[f, Y, c, a, a8, (.int .i64 Q)] : Array Value) 134 (0, 0)) :: (a0 ++ (a2 ++ (a3 ++ (a4 ++ (a5 ++ e7))))))) ∧ E 0 = (.pointer (some ⟨z, 0, none⟩)) ∧ E 5 = (.int .i64 N) ∧ E 7 = (.pointer (some ⟨f1, 0, none⟩)) ∧ E 14 = d2 ∧ E 15 = (.int .i64 ((a1.length : Int))) ∧ E 16 = (.int .i64 ((f9 : Int))) ∧ E 30 = (.bool d3) ∧ (if d3 then (((m_model_Model_note_w T Z a6 a7 U Q j)).bind fun K => (((m_model_Model_begin_w T K.1 K.2.1 K.2.2 U Q j)).bind fun b2 => (m_model_Model_Add_w_L1 N e5 b2.1 K.1 K.2.1 K.2.2 b2.2.1 b2.2.2))) else (m_model_Model_Add_w_L1 N e5 T Z a6 a7 U Q)) = some r) #[true, true, true, true, true, true, true, true, true, true, true] 0 ?_ (fun d6 => ?_)
    · rintro E W ⟨d3, e7, hST, c5, f2, f3, f4, f5, f6, i5, M⟩
      have hS0 := hST.has.sel (Kb (Kb Sn))
      refine PX_done (by kernel_rfl) (sq_n (CW_if (b := d3) i5 (fun c8 => ?_) (fun c8 => ?_)))
      · replace M := if_t c8 M
        refine CW_seq (CW_region (V (R_move c5) (V (R_load f3 (load_boxA hST.has Mh (encCred j) rfl Tryz.isAgg83 Tryz.sizeOf83)) ?_)))
        obtain ⟨K, g7, M⟩ := bind_some M
        have hsz := hST.size
        refine VE (E_callM (args := [(.pointer (some ⟨z, 0, none⟩)), (.agg (encCred j).toArray)]) (caps := #[]) _ _ hST (Cb (Pb Pz) (Cr (Qb Qz) (Cr (Qb Qz) (Cr (Qb Qz) (Cr (Qb Qz) (Cr (Qb Qz) Cn)))))) rfl Tryz.call100 (by exact args2 rfl rfl) (fun hH hN hsb hmm => GivesM.weak (w_model_Model_note_w z f T a0 Y Z a2 c a6 a3 a a7 a4 a8 U a5 Q j _ _ ⟨hH, hN, Sub.refl _⟩ b4 a9 b5 b6 b7 g7)) (fun k5 l2 l5 j9 hST f7 hlift g1 => ?_))
        obtain ⟨g0, e8, e9, f0, c9, rfl, e2, e3, e4⟩ := g1
        replace c9 := c9.symm; subst c9
        replace hST := hST.perm (Tb (Tr (Tr (Tr (Tr (Tr Tn))))))
        refine LW_nil (sq_n (CW_region (V (R_move c5) (V (R_load f3 (load_boxA hST.has (Mt (Ma (Ma (Ma (Ma (Ma Mh)))))) (encCred j) rfl Tryz.isAgg83 Tryz.sizeOf83)) ?_))))
        obtain ⟨b2, g8, M⟩ := bind_some M
        have hsz := hST.size
        refine VE (E_callM (args := [(.pointer (some ⟨z, 0, none⟩)), (.agg (encCred j).toArray)]) (caps := #[]) _ _ hST (Cb Pz (Cr Qz (Cr Qz (Cr Qz (Cr Qz (Cr Qz Cn)))))) rfl Tryz.call101 (by exact args2 rfl rfl) (fun hH hN hsb hmm => (w_model_Model_begin_w z f T a0 g0 K.1 e8 c K.2.1 e9 a K.2.2 f0 a8 U a5 Q j _ _ ⟨hH, hN, Sub.refl _⟩ b4 e2 e3 e4 b7 g8)) (fun k6 l3 j1 k0 hST f8 hlift g2 => ?_))
        obtain ⟨i1, i9, i2, d0, rfl, h4, h5⟩ := g2
        replace d0 := d0.symm; subst d0
        replace hST := hST.perm (Tb (Tr (Tr (Tr (Tr (Tr Tn))))))
        refine LW_nil (bq_n (sq_n ?_))
        replace hST := hST.sel (Kb (Kr (Kr (Kr (Kr (Kr (Db St)))))))
        exact ⟨f6, b2.1, i1, g0, K.1, e8, K.2.1, e9, K.2.2, f0, i9, b2.2.1, i2, b2.2.2, j1, _, ⟨rfl, f5⟩, ((b3.trans f7).trans f8), (hST.sel St), c5, f2, f4, h4, e2, e3, e4, h5, (by rw [e1]; exact M)⟩
      replace M := if_f c8 M
      refine CW_skip (bq_n (sq_n ?_))
      replace hST := hST.sel (Db St)
      exact ⟨f6, T, a0, Y, Z, a2, a6, a3, a7, a4, a8, U, a5, Q, c1, _, ⟨rfl, f5⟩, b3, (hST.sel St), c5, f2, f4, b4, a9, b5, b6, b7, (by rw [e1]; exact M)⟩
    rcases bool_cases i6 with g | g
    · replace B := if_t g B
      refine Xg 3 rfl rfl (congrArg Value.bool g) hS0 (R_move c0) (Xg 4 rfl rfl (congrArg Value.bool g) hS0 (R_nilCheck rfl) (Xg 5 rfl rfl (congrArg Value.bool g) hS0 (R_field fa134_1 rfl) (XgH 6 rfl rfl (congrArg Value.bool g) hS0 (fun _ hS => R_load rfl (load_box1 hS (Mt Mh) rfl Tryz.isAgg22)) (XgH 7 rfl rfl (congrArg Value.bool g) hS0 (fun _ hS => R_load rfl (load_boxA hS Mh (encCred j) rfl Tryz.isAgg83 Tryz.sizeOf83)) ?_))))
      obtain ⟨i7, g9, B⟩ := bind_some B
      refine XgE 8 rfl rfl (congrArg Value.bool g) (E_gives (args := [Y, (.agg (encCred j).toArray)]) hST rfl Tryz.call99 (by exact args2 rfl rfl) (Gives.weak (w_cred_Has Y Z j _ _ (a9.sl lenCred (fun b o hq => hST.at_ (Mt (Mt (Ma (Ml hq)))))) g9)) (fun k7 hST => ?_))
      have hS0 := hST.has.sel (Kb (Kb Sn))
      refine ⟨hS0, (Xg 9 rfl rfl (congrArg Value.bool g) hS0 (R_not rfl) (X 10 rfl hS0 (R_pickT (congrArg Value.bool g) rfl) ?_))⟩
      replace B := Option.some.inj B; subst B
      refine PX_at (by kernel_rfl) (d6 _ _ ⟨((!i7)), _, (hST.sel St), c0, c3, rfl, c4, eN, eI, rfl, e0⟩)
    replace B := if_f g B
    refine Xn 3 rfl rfl (congrArg Value.bool g) hS0 (Xn 4 rfl rfl (congrArg Value.bool g) hS0 (Xn 5 rfl rfl (congrArg Value.bool g) hS0 (Xn 6 rfl rfl (congrArg Value.bool g) hS0 (Xn 7 rfl rfl (congrArg Value.bool g) hS0 (Xn 8 rfl rfl (congrArg Value.bool g) hS0 (Xn 9 rfl rfl (congrArg Value.bool g) hS0 (X 10 rfl hS0 (R_pickF (congrArg Value.bool g) rfl) ?_)))))))
    replace B := Option.some.inj B; subst B
    refine PX_at (by kernel_rfl) (d6 _ _ ⟨false, _, (hST.sel St), c0, c3, rfl, c4, eN, eI, rfl, e0⟩)
  rintro E W ⟨T, a0, Y, Z, a2, a6, a3, a7, a4, a8, U, a5, Q, c1, d7, ⟨eI, eN⟩, b3, hST, c0, c3, c4, b4, a9, b5, b6, b7, u⟩
  rw [List.drop_length] at u
  rw [m_model_Model_Add_w_L1] at u
  refine sq_n (CW_seq (CW_region (V (R_move c0) ?_)))
  obtain ⟨i8, h1, u⟩ := bind_some u
  have hsz := hST.size
  refine VE (E_callM (args := [(.pointer (some ⟨z, 0, none⟩))]) (caps := #[]) _ _ hST (Cb Pz (Cr Qz (Cr Qz (Cr Qz (Cr Qz (Cr Qz Cn)))))) rfl Tryz.call102 (by exact args1 rfl) (fun hH hN hsb hmm => (w_model_Model_settle_w z f T a0 Y Z a2 c a6 a3 a a7 a4 a8 U a5 Q _ _ ⟨hH, hN, Sub.refl _⟩ b4 a9 b5 b6 b7 h1)) (fun k8 l4 l6 k1 hST j6 hlift g3 => ?_))
  obtain ⟨i3, j0, i4, d1, rfl, h6, h7⟩ := g3
  replace d1 := d1.symm; subst d1
  replace hST := hST.perm (Tb (Tr (Tr (Tr (Tr (Tr Tn))))))
  refine LW_nil (sq_n (CW_seq (CW_region (V (R_move c0) (V (R_nilCheck rfl) (V (R_field fa134_5 rfl) (V (R_load rfl (load_box1 hST.has Mh rfl Tryz.isAgg3)) (V (R_move c3) (V (R_int rfl rfl rfl) (V (R_assign rfl) (LW_nil (sq_n (CW_ret ?_)))))))))))))
  replace u := Option.some.inj u; subst u
  exact retQ_1 (v := (.int .i64 ((IntKind.i64.wrap (i8.2.2 - N))))) rfl rfl ⟨_, _, rfl, (hST.bkM (Kb (Kr (Kr (Kr (Kr (Kr Sn))))))), i3, Y, a2, a3, a4, j0, i4, rfl, rfl, h6, a9, b5, b6, h7⟩
theorem w_model_Of (a : Value) (G : List Cred) (r : ((List (Role × (List (ByteArray × Bool)))) × (List Cred) × (List (Role × (List Cred))) × (List (ByteArray × (List Cred))) × (List Fact) × Int)) (w : World) (I : Sl (Pl encCred) 9 (hp w) a G) (hm : m_model_Of G = some r) :
    GivesM false Tryz.prog 31 [a] w [] (fun v L1 W' => ∃ (b1 : Nat) (y2 : Value) (S3 : List (Nat × Obj)) (y5 : Value) (S6 : List (Nat × Obj)) (y8 : Value) (S9 : List (Nat × Obj)) (B : Value) (t : List (Nat × Obj)) (D : Value) (u : List (Nat × Obj)), v = (.pointer (some ⟨b1, 0, none⟩)) ∧ L1 = ((b1, Obj.cells (#[y2, y5, y8, B, D, (.int .i64 (r.2.2.2.2.2))] : Array Value) 134 (0, 0)) :: (S3 ++ (S6 ++ (S9 ++ (t ++ (u ++ [])))))) ∧ DeepE (fun (x : Role) => (.agg (encRole x).toArray)) (MapRow Value.string (fun (x : Bool) => (Value.bool x))) y2 r.1 S3 ∧ Row 83 encCred 9 y5 r.2.1 S6 ∧ DeepE (fun (x : Role) => (.agg (encRole x).toArray)) (Row 83 encCred 9) y8 r.2.2.1 S9 ∧ DeepE Value.string (Row 83 encCred 9) B r.2.2.2.1 t ∧ Que 78 encFact 3 D r.2.2.2.2.1 u) := by
  have hST := ST.start (dd := false) w
  unfold m_model_Of at hm
  refine calls_of_CW (n := 13) Tryz.func31 rfl rfl (Nat.le_of_ble_eq_true rfl) (CW_seq (CW_region (V (R_assign rfl) (LW_nil (sq_n (CW_seq (CW_region (VE (E_makeMapD (P := Tryz.prog) (fun (x : Role) => (.agg (encRole x).toArray)) (MapRow Value.string (fun (x : Bool) => (Value.bool x))) hST (fun W1 v4 R2 hST y => VE (E_makeMapD (P := Tryz.prog) (fun (x : Role) => (.agg (encRole x).toArray)) (Row 83 encCred 9) hST (fun W5 v8 R6 hST z => VE (E_makeMapD (P := Tryz.prog) Value.string (Row 83 encCred 9) hST (fun W9 c2 U hST k => ?_))))))))))))))
  obtain ⟨c, rfl⟩ := y.form
  obtain ⟨f, rfl⟩ := z.form
  obtain ⟨g, rfl⟩ := k.form
  refine V (R_build (qs := #[(0, (.map (some c))), (2, (.map (some f))), (3, (.map (some g)))]) (v := (.agg #[(.map (some c)), (.slice none 0 0), (.map (some f)), (.map (some g)), (.slice none 0 0), (.int .i64 0)])) (parts3 rfl rfl rfl) (run_build Tryz.zeroValue134 Tryz.underlying134 (pl134 _ Tryz.underlying134) (by kernel_rfl))) (VE (E_box (v := (.agg #[(.map (some c)), (.slice none 0 0), (.map (some f)), (.map (some g)), (.slice none 0 0), (.int .i64 0)])) hST rfl (fun b9 j hST => V (R_assign rfl) (LW_nil (sq_n (CW_seq (CW_region (V (R_move rfl) (V (R_move rfl) ?_)))))))))
  obtain ⟨c1, J, hm⟩ := bind_some hm
  have hsz := hST.size
  refine VE (E_callM (args := [(.pointer (some ⟨j, 0, none⟩)), a]) (caps := #[]) _ _ hST (Cb Pz (Cr (Qr (Qr Qz)) (C0 (Cr (Qr Qz) (Cr Qz (C0 Cn)))))) rfl Tryz.call41 (by exact args2 rfl rfl) (fun hH hN hsb hmm => (w_model_Model_Add_w j (.map (some c)) ([]) R2 (.slice none 0 0) ([]) [] (.map (some f)) ([]) R6 (.map (some g)) ([]) U (.slice none 0 0) ([]) [] 0 a G _ _ ⟨hH, hN, Sub.refl _⟩ y (Row.nil _ _ _) z k (Que.nil _ _ _) (I.mono (Pl.mono _) hsb) J)) (fun c0 c3 c4 b8 hST b4 hlift H => ?_))
  obtain ⟨Y, a9, Z, a2, a3, b0, a4, i, rfl, K, M, N, Q, T⟩ := H
  replace i := i.symm; subst i
  replace hST := hST.perm (Tb (Tr (Tr (Tr (Tr (Tr Tn))))))
  refine LW_nil (sq_n (CW_seq (CW_region (V (R_move rfl) (V (R_assign rfl) (LW_nil (sq_n (CW_ret ?_))))))))
  replace hm := Option.some.inj hm; subst hm
  exact retQ_1 (v := (.pointer (some ⟨j, 0, none⟩))) rfl rfl ⟨_, _, rfl, (hST.bkL (Kb (Kr (Kr (Kr (Kr (Kr Sn))))))), j, (.map (some c)), Y, a9, Z, (.map (some f)), a2, (.map (some g)), a3, b0, a4, rfl, rfl, K, M, N, Q, T⟩
theorem w_sortF91 (c : Value) (j : List Fact) (a : List (Nat × Obj)) (f : Value) (k : ((Fact × Fact)) → Option Int) (r : List Fact) (w : World) {u : Mem} (t : Ent u (a ++ []) w) (g : Row 78 encFact 3 c j a) (i : CbO Tryz.prog f u (fun (x : (Fact × Fact)) => [(.agg (encFact x.1).toArray), (.agg (encFact x.2).toArray)]) (fun (r : Int) => (.int .i64 r)) k) (hm : sortF k j = some r) :
    GivesM true Tryz.prog 91 [c, f] w (a ++ []) (fun v y W' => ∃ (S : List (Nat × Obj)), v = (.tuple #[]) ∧ y = (S ++ []) ∧ Row 78 encFact 3 c r S) := sortF_gives (P := Tryz.prog) (ρ := ren91) lay91 3 Tryz.isAgg78 Tryz.sizeOf78 encFact lenFact oneFact t.H t.S g i hm
theorem w_model_Model_Facts_c1 (a : Fact) (c : Fact) (r : Int) (w : World)  (hm : m_model_Model_Facts_c1 a c = some r) :
    Gives true Tryz.prog 92 [(.agg (encFact a).toArray), (.agg (encFact c).toArray)] w (.int .i64 r) := by
  have hST := ST.start (dd := true) w
  unfold m_model_Model_Facts_c1 at hm
  refine calls_of_CW (n := 17) Tryz.func92 rfl rfl (Nat.le_of_ble_eq_true rfl) (CW_seq (CW_region (VE (E_box (v := (.agg (encFact a).toArray)) hST rfl (fun D H hST => VE (E_box (v := (.agg (encFact c).toArray)) hST rfl (fun G I hST => V (R_assign rfl) (LW_nil (sq_n (CW_seq ?_))))))))))
  replace hST := hST.drew
  have hS0 := hST.has.sel (Kb (Kb Sn))
  refine PX_start1 hS0 Tryz_mixed (X 0 rfl hS0 (R_field fa78_0 rfl) (XH 1 rfl hS0 (fun _ hS => R_load rfl (load_boxA hS (Mt Mh) (encRole a.Role) rfl Tryz.isAgg47 Tryz.sizeOf47)) (X 2 rfl hS0 (R_field fa78_0 rfl) (XH 3 rfl hS0 (fun _ hS => R_load rfl (load_boxA hS Mh (encRole c.Role) rfl Tryz.isAgg47 Tryz.sizeOf47)) (X 5 rfl hS0 (R_field fa78_1 rfl) (XH 6 rfl hS0 (fun _ hS => R_load rfl (load_box1 hS (Mt Mh) rfl Tryz.isAgg9)) (X 7 rfl hS0 (R_field fa78_1 rfl) (XH 8 rfl hS0 (fun _ hS => R_load rfl (load_box1 hS Mh rfl Tryz.isAgg9)) ?_))))))))
  obtain ⟨f, j, hm⟩ := bind_some hm
  refine XE 4 rfl (E_gives (args := [(.agg (encRole a.Role).toArray), (.agg (encRole c.Role).toArray)]) hST rfl Tryz.call94 (by exact args2 rfl rfl) ((w_role_Compare a.Role c.Role _ _  j)) (fun x hST => ?_))
  have hS0 := hST.has.sel (Kb (Kb Sn))
  refine ⟨hS0, ?_⟩
  obtain ⟨g, k, hm⟩ := bind_some hm
  refine XE 9 rfl (E_gives (args := [(.string a.Who), (.string c.Who)]) hST rfl Tryz.call95 (by exact args2 rfl rfl) ((w_strings_Compare a.Who c.Who _ _  k)) (fun y hST => ?_))
  have hS0 := hST.has.sel (Kb (Kb Sn))
  refine ⟨hS0, (XE 10 rfl (E_buildSlice (qs := #[(0, (.int .i64 f)), (1, (.int .i64 g))]) (cs := #[(.int .i64 f), (.int .i64 g)]) hST (parts2 rfl rfl) (run_lit [(.int .i64 f), (.int .i64 g)] Tryz.underlying173 Tryz.sizeOf3 Tryz.zeroValue3 (by decide) rfl (by intro v hv; simp only [List.mem_cons, List.not_mem_nil, or_false] at hv; rcases hv with rfl | rfl <;> rfl) rfl rfl) (fun z i hST => ?_)))⟩
  have hS0 := hST.has.sel (Db (Kb (Kb Sn)))
  refine ⟨hS0, ?_⟩
  obtain ⟨u, t, hm⟩ := bind_some hm
  refine XE 11 rfl (E_gives (args := [(.slice (some ⟨i, 0, none⟩) 2 2)]) hST rfl Tryz.call93 (by exact args1 rfl) ((w_cmp_Or_int (.slice (some ⟨i, 0, none⟩) 2 2) ([f, g]) _ _ (Sl.lit (enc := (encIk .i64)) (l := [f, g]) (fun _ => rfl) rfl (Nat.le_of_ble_eq_true rfl) rfl (hST.at_ Mh)) t)) (fun B hST => ?_))
  have hS0 := hST.has.sel (Db (Kb (Kb Sn)))
  refine ⟨hS0, (X 12 rfl hS0 (R_assign rfl) (PX_done (by kernel_rfl) (sq_n ?_)))⟩
  replace hST := hST.sel (Db (Db (Db St)))
  refine CW_ret ?_
  replace hm := Option.some.inj hm; subst hm
  exact retQ_1 (v := (.int .i64 u)) rfl rfl ⟨rfl, hST.ex⟩
theorem w_model_Model_Facts (D : Nat) (a : Value) (z : List (Role × (List (ByteArray × Bool)))) (c : Value) (j : List Cred) (i : Value) (u : List (Role × (List Cred))) (f : Value) (k : List (ByteArray × (List Cred))) (g : Value) (t : List Fact) (J : Int) (r : List Fact) (w : World) (G : DeepAt (fun (x : Role) => (.agg (encRole x).toArray)) (MapRow Value.string (fun (x : Bool) => (Value.bool x))) (hp w) a z) (Y : Sl (Pl encCred) 9 (hp w) c j) (a3 : DeepAt (fun (x : Role) => (.agg (encRole x).toArray)) (Row 83 encCred 9) (hp w) i u) (Z : DeepAt Value.string (Row 83 encCred 9) (hp w) f k) (a2 : Sl (Pl encFact) 3 (hp w) g t) (U : At (hp w) (.pointer (some ⟨D, 0, none⟩)) [a, c, i, f, g, (.int .i64 J)]) (hm : m_model_Model_Facts z j u k t J = some r) :
    GivesRow true Tryz.prog 34 [(.pointer (some ⟨D, 0, none⟩))] w 78 encFact 3 r := by
  have hST := ST.start (dd := true) w
  unfold m_model_Model_Facts at hm
  refine calls_of_CW (n := 34) Tryz.func34 rfl rfl (Nat.le_of_ble_eq_true rfl) (CW_seq (CW_region (V (R_assign rfl) (LW_nil (sq_n (CW_seq (CW_seq (CW_region (V (R_move rfl) (V (R_ptrEqNil Tryz.underlying51 rfl rfl) (LW_nil (sq_n (CW_if_false rfl (CW_skip ?_))))))))))))))
  refine sq_n (CW_seq (CW_region (V (R_assign rfl) (LW_nil (sq_n (CW_seq (CW_cut (fun E W => ∃ (v_f : Value) (l_f : List Fact) (R_f L_f : List (Nat × Obj)), ST true NoF w W (hp w) (R_f ++ L_f) ∧ E 3 = v_f ∧ Row 78 encFact 3 v_f l_f R_f ∧ (((sortF (fun (x : (Fact × Fact)) => m_model_Model_Facts_c1 x.1 x.2) l_f)).bind fun r4 => some r4) = some r) ?_ ?_)))))))
  · refine CW_seq (CW_region (LW_v (.inl rfl) rfl (by decide) (R_move (v := (.pointer (some ⟨D, 0, none⟩))) rfl) (LW_v (.inl rfl) rfl (by decide) (R_nilCheck rfl) (LW_q (.inl rfl) rfl (by decide) (R_fieldAt [a] fa134_0 rfl U rfl) (fun p1 b8 => LW_v (.inl rfl) rfl (by decide) (R_load rfl (load_at1 hST.has (y := a) b8 Tryz.isAgg130)) ?_)))))
    obtain ⟨ll, hll, hmat, hall⟩ := DeepAt.zip G
    refine LW_e (.inl rfl) rfl (by decide) (E_rangeM (M := (hp w)) Tryz.underlying130 hST rfl hmat (fun b o hb => hST.mem b o hb) (fun W v5 R6 hST hI => LW_nil (sq_n ?_)))
    obtain ⟨fs, hfs, hm⟩ := bind_some hm
    obtain ⟨b3, b5, b7⟩ := pairsB_some hfs
    replace hm := allOrders_spec hm
    have hP0 : (([] : List Fact) ++ ll.flatMap (fun (p : Role × (Value × List (ByteArray × Bool))) => p.2.2.map (fun (q : ByteArray × Bool) => (⟨p.1, q.1⟩ : Fact)))).Perm fs := by rw [← b7, ← hll, List.nil_append, List.flatMap_map]
    refine CW_block (CW_loop (fun m E W => ∃ (v : Value) (l : List Fact) (R L : List (Nat × Obj)) (lf : List (Role × (Value × List (ByteArray × Bool)))) (Ri : List (Nat × Obj)), m = lf.length ∧ ST true NoF w W (hp w) (R ++ (Ri ++ L)) ∧ E 3 = v ∧ E 13 = v5 ∧ Iter (fun (x : Role) => (.agg (encRole x).toArray)) (fun x => x.1) (hp w) v5 lf Ri ∧ Row 78 encFact 3 v l R ∧ (∀ p ∈ lf, MapAt Value.string (fun (x : Bool) => (Value.bool x)) (hp w) p.2.1 p.2.2) ∧ (l ++ lf.flatMap (fun (p : Role × (Value × List (ByteArray × Bool))) => p.2.2.map (fun (q : ByteArray × Bool) => (⟨p.1, q.1⟩ : Fact)))).Perm fs) _ ⟨.slice none 0 0, [], [], [], ll, R6, rfl, hST.perm (by simp), rfl, rfl, hI, Row.nil _ _ _, hall, hP0⟩ ?_)
    rintro m E W ⟨v, l, R, L, lf, Ri, rfl, hST, N, eit, hI, hR, hall, hP⟩
    refine CW_seq (CW_region (LW_e (.inl rfl) rfl (by decide) (E_nextM R hST (fun b o hb => hST.mem b o hb) hI eit (fun hend => ?_) (fun W R1 p B I hST hA => ?_))))
    · subst hend
      exact LW_v (.inl rfl) rfl (by decide) (R_extract (v := .bool false) rfl rfl) (LW_nil (sq_n (CW_seq (CW_if_false rfl (CW_exit (sq_e (sq_e (bq_e (sq_n ⟨v, l, R, Ri ++ L, hST, N, hR, hm l (by simpa using hP)⟩)))))))))
    · refine LW_v (.inl rfl) rfl (by decide) (R_extract (v := .bool true) rfl rfl) (LW_nil (sq_n (CW_seq (CW_if_true rfl (CW_skip (sq_n (CW_block (CW_seq (CW_region (LW_v (.inl rfl) rfl (by decide) (R_entryM (fun q hq => (hST.box q.1 q.2 (List.mem_append_right _ (List.mem_append_left _ hq))).1) (fun b o hb => hST.mem b o hb) hA eit) (LW_v (.inl rfl) rfl (by decide) (R_extract (v := (.agg (encRole p.1).toArray)) rfl rfl) (LW_v (.inl rfl) rfl (by decide) (R_extract (v := p.2.1) rfl rfl) (LW_e (.inl rfl) rfl (by decide) (E_alloc hST Tryz.zeroValue47 (fun W b4 hST => LW_e0 (.inl rfl) rfl (E_store [] (.agg (encRole p.1).toArray) ((encRole p.1).toArray) hST rfl rfl Tryz.sizeOf47 (oneRole p.1) (Nat.le_of_ble_eq_true rfl) rfl (fun W hST => LW_v (.inl rfl) rfl (by decide) (R_assign (v := p.2.1) rfl) (LW_nil (sq_n (CW_seq (CW_region (LW_v (.inl rfl) rfl (by decide) (R_move (v := p.2.1) rfl) (LW_e (.inl rfl) rfl (by decide) (E_rangeM (M := (hp w)) Tryz.underlying119 hST rfl (hall p (I.mem_iff.2 (.head _))) (fun b o hb => hST.mem b o hb) (fun W a5 a0 hST Q => LW_nil (sq_n ?_))))))))))))))))))))))))))
      have hall1 : ∀ p ∈ B, MapAt Value.string (fun (x : Bool) => (Value.bool x)) (hp w) p.2.1 p.2.2 := fun p hp => hall p (I.mem_iff.2 (.tail _ hp))
      have hP1 : (l ++ (p.2.2.map (fun q => (⟨p.1, q.1⟩ : Fact)) ++ B.flatMap (fun (p : Role × (Value × List (ByteArray × Bool))) => p.2.2.map (fun (q : ByteArray × Bool) => (⟨p.1, q.1⟩ : Fact))))).Perm fs := (List.Perm.append_left l (List.Perm.flatMap_right (fun (p : Role × (Value × List (ByteArray × Bool))) => p.2.2.map (fun (q : ByteArray × Bool) => (⟨p.1, q.1⟩ : Fact))) I)).symm.trans hP
      refine CW_block (CW_loop (fun m E W => ∃ (v : Value) (l : List Fact) (R L : List (Nat × Obj)) (lg : List (ByteArray × Bool)) (Rj : List (Nat × Obj)), m = lg.length ∧ ST true NoF w W (hp w) ((b4, Obj.cells (encRole p.1).toArray 47 (0, 0)) :: (R ++ (Rj ++ (R1 ++ L)))) ∧ E 3 = v ∧ E 13 = v5 ∧ E 4 = .pointer (some ⟨b4, 0, none⟩) ∧ E 20 = a5 ∧ Iter Value.string (fun (x : Bool) => (Value.bool x)) (hp w) a5 lg Rj ∧ Row 78 encFact 3 v l R ∧ (l ++ (lg.map (fun q => (⟨p.1, q.1⟩ : Fact)) ++ B.flatMap (fun (p : Role × (Value × List (ByteArray × Bool))) => p.2.2.map (fun (q : ByteArray × Bool) => (⟨p.1, q.1⟩ : Fact))))).Perm fs) _ ⟨v, l, R, L, p.2.2, a0, rfl, ?_, N, eit, rfl, rfl, Q, hR, hP1⟩ ?_)
      · refine hST.perm ?_
        show (a0 ++ ((b4, Obj.cells (encRole p.1).toArray 47 (0, 0)) :: (R ++ (R1 ++ L)))).Perm _
        exact List.perm_middle.trans (List.Perm.cons _ (List.perm_append_comm_assoc _ _ _))
      rintro m E W ⟨v, l, R, L, lg, Rj, rfl, hST, N, eit, e4, K, Q, hR, hP⟩
      refine CW_seq (CW_region (LW_e (.inl rfl) rfl (by decide) (E_nextM ([_] ++ R) (by simpa only [List.append_assoc, List.cons_append, List.nil_append, List.singleton_append] using hST) (fun b o hb => hST.mem b o hb) Q K (fun hend => ?_) (fun W Rj1 q lg1 a4 hST a1 => ?_))))
      · subst hend
        exact LW_v (.inl rfl) rfl (by decide) (R_extract (v := .bool false) rfl rfl) (LW_nil (sq_n (CW_seq (CW_if_false rfl (CW_exit (sq_e (sq_e (bq_e (bq_n (sq_n ⟨_, by simp [I.length_eq], v, l, R, Rj ++ L, B, R1, rfl, (ST.drop (A := []) hST).perm (List.Perm.append_left R (List.perm_append_comm_assoc _ _ _)), N, eit, hA.iter, hR, hall1, by simpa using hP⟩))))))))))
      · simp only [List.append_assoc, List.cons_append, List.nil_append, List.singleton_append] at hST
        refine LW_v (.inl rfl) rfl (by decide) (R_extract (v := .bool true) rfl rfl) (LW_nil (sq_n (CW_seq (CW_if_true rfl (CW_skip (sq_n (CW_block (CW_seq (CW_region (LW_v (.inl rfl) rfl (by decide) (R_entryM (fun q hq => (hST.box q.1 q.2 (.tail _ (List.mem_append_right _ (List.mem_append_left _ hq)))).1) (fun b o hb => hST.mem b o hb) a1 K) (LW_v (.inl rfl) rfl (by decide) (R_extract (v := (.string q.1)) rfl rfl) (LW_v (.inl rfl) rfl (by decide) (R_assign (v := (.string q.1)) rfl) (LW_nil (sq_n (CW_region (LW_v (.inl rfl) rfl (by decide) (R_move (v := v) N) (LW_v (.inl rfl) rfl (by decide) (R_load (v := (.agg (encRole p.1).toArray)) e4 (load_boxA hST.has (.head _) (encRole p.1) rfl Tryz.isAgg47 Tryz.sizeOf47)) (LW_v (.inl rfl) rfl (by decide) (R_move (v := (.string q.1)) rfl) (LW_v (.inl rfl) rfl (by decide) (R_build (qs := #[(0, (.agg (encRole p.1).toArray)), (1, (.string q.1))]) (v := (.agg (encFact (⟨p.1, q.1⟩ : Fact)).toArray)) (parts2 rfl rfl) (run_build Tryz.zeroValue78 Tryz.underlying78 (pl78 _ Tryz.underlying78) (by kernel_rfl))) (LW_e (.inl rfl) rfl (by decide) (E_buildSlice (qs := #[(0, (.agg (encFact (⟨p.1, q.1⟩ : Fact)).toArray))]) (cs := (encFact (⟨p.1, q.1⟩ : Fact)).toArray) hST (parts1 rfl) (run_lit [(.agg (encFact (⟨p.1, q.1⟩ : Fact)).toArray)] Tryz.underlying53 Tryz.sizeOf78 Tryz.zeroValue78 (by decide) rfl (by intro v hv; simp only [List.mem_cons, List.not_mem_nil, or_false] at hv; rcases hv with rfl <;> rfl) rfl rfl) (fun W b6 hST => ?_))))))))))))))))))))))
        have hP2 : ((l ++ [(⟨p.1, q.1⟩ : Fact)]) ++ (lg1.map (fun q => (⟨p.1, q.1⟩ : Fact)) ++ B.flatMap (fun (p : Role × (Value × List (ByteArray × Bool))) => p.2.2.map (fun (q : ByteArray × Bool) => (⟨p.1, q.1⟩ : Fact))))).Perm fs := by rw [List.append_assoc]; exact (List.Perm.append_left l (List.Perm.append_right _ (a4.map (fun q => (⟨p.1, q.1⟩ : Fact))).symm)).trans hP
        have happ : appB 48 l [(⟨p.1, q.1⟩ : Fact)] = some (l ++ [(⟨p.1, q.1⟩ : Fact)]) := appB_of b3 b5 (by rw [← hP2.length_eq]; simp only [List.length_append]; omega)
        exact LW_e (.inl rfl) rfl (by decide) (E_append (enc := encFact) (v := v) (vs := (.slice (some ⟨b6, 0, none⟩) 1 1)) (R := R) [_, _] hST lenFact (by decide) oneFact Tryz.underlying53 info78.1 info78.2.1 rfl info78.2.2.1 info78.2.2.2 rfl rfl hR (Sl.lit (enc := encFact) (l := [(⟨p.1, q.1⟩ : Fact)]) lenFact rfl (Nat.le_of_ble_eq_true rfl) rfl (hST.at_ (.head _))) happ (fun W v8 R8 hST b2 => LW_v (.inl rfl) rfl (by decide) (R_assign (v := v8) rfl) (LW_nil (bq_n (sq_n ⟨_, by simp [a4.length_eq], v8, _, R8, L, lg1, Rj1, rfl, ST.drop (A := []) hST, rfl, eit, e4, K, a1.iter, b2, hP2⟩)))))
  · rintro E W ⟨v_f, l_f, R_f, L_f, hST, e_f, h_f, hm⟩
    refine CW_seq (CW_region (V (R_move e_f) ?_))
    obtain ⟨r4, b9, hm⟩ := bind_some hm
    have hsz := hST.size
    refine VE (E_callM (args := [v_f, (.func (.func 92) #[] #[])]) (caps := #[]) _ _ hST (Cr Qz Cn) rfl Tryz.call91 (by exact args2 rfl rfl) (fun hH hN hsb hmm => (w_sortF91 v_f l_f R_f (.func (.func 92) #[] #[]) (fun (x : (Fact × Fact)) => m_model_Model_Facts_c1 x.1 x.2) _ _ ⟨hH, hN, Sub.refl _⟩ h_f ⟨92, #[], rfl, Tryz.call92, fun W x r hs hm => w_model_Model_Facts_c1 x.1 x.2 r W  hm⟩ b9)) (fun W6 v9 μ7 c6 hST c5 hlift a8 => ?_))
    obtain ⟨b0, H, rfl, T⟩ := a8
    replace H := H.symm; subst H
    replace hST := hST.perm (Tr Tn)
    refine LW_nil (sq_n (CW_seq (CW_region (V (R_move e_f) (V (R_assign rfl) (LW_nil (sq_n (CW_ret ?_))))))))
    replace hm := Option.some.inj hm; subst hm
    exact retQ_1 (v := v_f) rfl rfl ⟨_, b0, rfl, hST.backRow (fun p hq => (Ml hq)) T.nd, T⟩
theorem w_census_counted (H : Value) (a0 : List Cred) (r : List (ByteArray × Person)) (w : World) (a5 : Sl (Pl encCred) 9 (hp w) H a0) (hm : m_census_counted a0 = some r) :
    GivesM false Tryz.prog 118 [H] w [] (fun v L1 W' => ∃ (y1 : Value) (S2 : List (Nat × Obj)), v = y1 ∧ L1 = (S2 ++ []) ∧ DeepE Value.string (PBox 104 encPerson) y1 r S2) := by
  have hST := ST.start (dd := false) w
  unfold m_census_counted at hm
  refine calls_of_CW (n := 93) Tryz.func118 rfl rfl (Nat.le_of_ble_eq_true rfl) (CW_seq (CW_region (V (R_assign rfl) (LW_nil (sq_n (CW_seq (CW_region (VE (E_makeMapD (P := Tryz.prog) Value.string (PBox 104 encPerson) hST (fun W1 U R2 hST l1 => V (R_assign rfl) (LW_nil (sq_n (CW_seq (CW_seq (CW_region ?_)))))))))))))))
  refine V (R_move rfl) ?_
  obtain ⟨r5, l4, hm⟩ := bind_some hm
  refine VE (F_givesRow (args := [H]) _ hST rfl Tryz.call119 (by exact args1 rfl) (GivesRow.weak (w_census_names H a0 _ _ (a5.mono (Pl.mono _) hST.sub_hp) l4)) (fun W7 l6 μ8 k8 hST e9 b6 => V (R_lenRow Tryz.underlying27 rfl b6) (V (R_move rfl) (LW_nil (sq_n (CW_range (fun i E W => ∃ (c7 : List (ByteArray × Person)) (c6 : List (Nat × Obj)) (c8 : List (Nat × Obj)), (E 15 = .int .i64 (i : Nat) ∧ E 14 = .int .i64 (r5.length : Nat)) ∧ ST false NoF w W μ8 (c6 ++ (k8 ++ c8)) ∧ E 0 = H ∧ E 3 = U ∧ E 13 = l6 ∧ DeepE Value.string (PBox 104 encPerson) U c7 c6 ∧ m_census_counted_L1 a0 (r5.drop i) c7 = some r) r5.length b6.len ⟨([]), R2, _, ⟨rfl, rfl⟩, (hST.sel (Sr (Qr Qz) St)), rfl, rfl, rfl, l1, hm⟩ (by decide) (by decide) (by decide) (fun _ _ _ h => by obtain ⟨_, _, _, eIN, _⟩ := h; exact eIN) ?_ ?_))))))
  · rintro l5 E W j2 ⟨c7, c6, c8, ⟨eI, eN⟩, hST, b1, b2, d1, d2, G⟩
    obtain ⟨T, p5, j3, f0, j4⟩ := drop_cons j2
    rw [j3] at G
    rw [m_census_counted_L1] at G
    refine CW_block (CW_seq (CW_region (VQ (R_indexRow (i := (l5 : Int)) (x0 := T) Tryz.underlying27 Tryz.sizeOf9 d1 eI b6 (Int.natCast_nonneg _) f0) (fun p1 g3 => V (R_load rfl (load_ix1 hST.has (fun p hq => (Ma (Ml hq))) b6 (fun _ => rfl) g3 f0 (y := (.string T)) rfl Tryz.isAgg9)) (V (R_assign rfl) (LW_nil (sq_n (CW_region (V (R_move b2) (V (R_move rfl) (V (R_move rfl) (V (R_build (qs := #[(0, (.string T))]) (v := (.agg (encPerson ((⟨T, 0, 0, 0, 0⟩ : Person))).toArray)) (parts1 rfl) (run_build Tryz.zeroValue104 Tryz.underlying104 (pl104 _ Tryz.underlying104) (by kernel_rfl))) (VE (E_box (v := (.agg (encPerson ((⟨T, 0, 0, 0, 0⟩ : Person))).toArray)) hST rfl (fun n1 e6 hST => ?_)))))))))))))))
    obtain ⟨l9, f6⟩ := d2
    replace hST := hST.perm (Nr (Qb Qz) Nz)
    obtain ⟨j7, h0, G⟩ := bind_some G
    exact VO (F_newDeep (k := T) (z := ((⟨T, 0, 0, 0, 0⟩ : Person))) (R2 := [(e6, Obj.cells ((encPerson ((⟨T, 0, 0, 0, 0⟩ : Person))).toArray : Array Value) 104 (0, 0))])  kl9 Tryz.underlying157 hST f6 rfl rfl rfl ⟨e6, rfl, rfl⟩ h0 (fun n2 i3 hST f3 => LW_nil (bq_n (sq_n ⟨eI, j7, i3, _, ⟨rfl, eN⟩, (hST.sel St), b1, b2, d1, f3.e, (by rw [j4]; exact G)⟩))))
  rintro E W ⟨c7, c6, c8, ⟨eI, eN⟩, hST, b1, b2, d1, d2, G⟩
  rw [List.drop_length] at G
  rw [m_census_counted_L1] at G
  refine sq_n ?_
  replace hST := hST.sel (Kr (Dr St))
  refine CW_seq (CW_seq (CW_region (V (R_move b1) (V (R_len Tryz.underlying22 rfl a5) (V (R_move rfl) (LW_nil (sq_n ?_)))))))
  obtain ⟨k0, g1, g2⟩ := bind_some G
  refine CW_cut (fun E W => ∃ (c5 : List (ByteArray × Person)) (a8 : List (Nat × Obj)) (e4 : List (Nat × Obj)), ST false NoF w W μ8 (a8 ++ e4) ∧ E 0 = H ∧ E 3 = U ∧ DeepE Value.string (PBox 104 encPerson) U c5 a8 ∧ (((m_model_Of a0)).bind fun t => (((m_model_Model_Facts t.1 t.2.1 t.2.2.1 t.2.2.2.1 t.2.2.2.2.1 t.2.2.2.2.2)).bind fun a7 => ((m_census_counted_L2 a7 c5 ((⟨zS, zS⟩ : Role)) : Option (List (ByteArray × Person))).bind fun a6 => some a6))) = some r) ?_ ?_
  · refine CW_range (fun i E W => ∃ (K : List (ByteArray × Person)) (a3 : List (Nat × Obj)) (d0 : List (Nat × Obj)), (E 27 = .int .i64 (i : Nat) ∧ E 26 = .int .i64 (a0.length : Nat)) ∧ ST false NoF w W μ8 (a3 ++ d0) ∧ E 0 = H ∧ E 3 = U ∧ E 25 = H ∧ DeepE Value.string (PBox 104 encPerson) U K a3 ∧ m_census_counted_L3 (a0.drop i) K = some k0) a0.length a5.len ⟨c7, c6, _, ⟨rfl, rfl⟩, (hST.sel St), b1, b2, rfl, d2, g1⟩ (by decide) (by decide) (by decide) (fun _ _ _ h => by obtain ⟨_, _, _, eIN, _⟩ := h; exact eIN) ?_ ?_
    · rintro j6 E W f8 ⟨K, a3, d0, ⟨eI, eN⟩, hST, b4, Q, b5, c3, c⟩
      obtain ⟨B, m3, h7, h6, e1⟩ := drop_cons f8
      rw [h7] at c
      rw [m_census_counted_L3] at c
      refine CW_block (CW_seq (CW_region (VQ (R_indexP (enc := encCred) (i := (j6 : Int)) (x0 := B) Tryz.underlying22 Tryz.sizeOf83 b5 eI (a5.mono (Pl.mono _) e9) (Int.natCast_nonneg _) h6) (fun p3 g5 => V (R_load rfl (load_atA hST.has g5 Tryz.isAgg83 Tryz.sizeOf83)) (VE (E_alloc hST Tryz.zeroValue83 (fun o1 o8 hST => VO (F_store (.agg (encCred B).toArray) ((encCred B).toArray) hST rfl rfl Tryz.sizeOf83 (oneCred B) (Nat.le_of_ble_eq_true rfl) rfl (fun o2 hST => LW_nil (sq_n (CW_seq (CW_region (V (R_move Q) (V (R_field fa83_1 rfl) (V (R_field fa47_0 rfl) (V (R_load rfl (load_box1 hST.has Mh rfl Tryz.isAgg9)) ?_))))))))))))))))
      obtain ⟨m1, c0⟩ := c3
      refine V (R_lookupDeep (k := B.Head.Owner) (z := (.pointer none)) kl9 Tryz.underlying157 Tryz.zeroValue159 rfl rfl c0 (fun b o hq => hST.has.2 b o (Mt (Ml hq)))) ?_
      obtain ⟨j, e2, c⟩ := bind_some c
      refine VQ (R_nilCheckDP beqS_iff.1 c0 e2 rfl) (fun | _, ⟨o9, rfl, d5, g8⟩ => V (R_field fa104_1 rfl) (V (R_load rfl (load_box1 hST.has (Mt (Ml g8)) rfl Tryz.isAgg3)) (V (R_int rfl rfl rfl) (V (R_nilCheck d5) (V (R_field fa104_1 rfl) ?_)))))
      replace hST := hST.perm (Nr (Qb Qz) Nz)
      refine VO (F_storeDeepP (k := B.Head.Owner) (u := (.int .i64 ((IntKind.i64.wrap (j.Issued + 1)))))  ((⟨j.Name, (IntKind.i64.wrap (j.Issued + 1)), j.Member, j.Roles, j.Peopled⟩ : Person)) beqS_iff.1 hST c0 e2 d5 rfl rfl Tryz.sizeOf3 (oneI _ ((IntKind.i64.wrap (j.Issued + 1)))) (Nat.le_of_ble_eq_true rfl) rfl (fun o3 i7 hST a1 => LW_nil (sq_n (CW_seq (CW_region (V (R_field fa83_0 rfl) (V (R_load rfl (load_box1 hST.has (Ma Mh) rfl Tryz.isAgg3)) (V (R_int rfl rfl rfl) (LW_nil (sq_n (CW_if (b := (B.Kind == 1)) rfl (fun b8 => ?_) (fun b8 => ?_))))))))))))
      · replace c := if_t b8 c
        refine CW_region (V (R_move Q) (V (R_field fa83_2 rfl) (V (R_load rfl (load_box1 hST.has (Ma Mh) rfl Tryz.isAgg9)) (V (R_lookupDeep (k := B.Who) (z := (.pointer none)) kl9 Tryz.underlying157 Tryz.zeroValue159 rfl rfl a1 (fun b o hq => hST.has.2 b o (Ml hq))) ?_))))
        obtain ⟨D, e3, c⟩ := bind_some c
        refine VQ (R_nilCheckDP beqS_iff.1 a1 e3 rfl) (fun | _, ⟨p0, rfl, d6, g9⟩ => V (R_field fa104_2 rfl) (V (R_load rfl (load_box1 hST.has (Ml g9) rfl Tryz.isAgg3)) (V (R_int rfl rfl rfl) (V (R_nilCheck d6) (V (R_field fa104_2 rfl) (VO (F_storeDeepP (k := B.Who) (u := (.int .i64 ((IntKind.i64.wrap (D.Member + 1)))))  ((⟨D.Name, D.Issued, (IntKind.i64.wrap (D.Member + 1)), D.Roles, D.Peopled⟩ : Person)) beqS_iff.1 hST a1 e3 d6 rfl rfl Tryz.sizeOf3 (oneI _ ((IntKind.i64.wrap (D.Member + 1)))) (Nat.le_of_ble_eq_true rfl) rfl (fun o4 i8 hST f5 => LW_nil (bq_n (sq_n ?_))))))))))
        replace hST := hST.sel (Kr (Db St))
        exact ⟨eI, ((mput beqS ((mput beqS K B.Head.Owner ((⟨j.Name, (IntKind.i64.wrap (j.Issued + 1)), j.Member, j.Roles, j.Peopled⟩ : Person)))) B.Who ((⟨D.Name, D.Issued, (IntKind.i64.wrap (D.Member + 1)), D.Roles, D.Peopled⟩ : Person)))), i8, _, ⟨rfl, eN⟩, (hST.sel St), b4, Q, b5, f5.e, (by rw [e1]; exact c)⟩
      replace c := if_f b8 c
      refine CW_skip (bq_n (sq_n ?_))
      replace hST := hST.sel (Kr (Db St))
      exact ⟨eI, ((mput beqS K B.Head.Owner ((⟨j.Name, (IntKind.i64.wrap (j.Issued + 1)), j.Member, j.Roles, j.Peopled⟩ : Person)))), i7, _, ⟨rfl, eN⟩, (hST.sel St), b4, Q, b5, a1.e, (by rw [e1]; exact c)⟩
    rintro E W ⟨K, a3, d0, ⟨eI, eN⟩, hST, b4, Q, b5, c3, c⟩
    rw [List.drop_length] at c
    rw [m_census_counted_L3] at c
    refine sq_n ?_
    replace c := Option.some.inj c; subst c
    exact ⟨K, a3, _, (hST.sel St), b4, Q, c3, g2⟩
  rintro E W ⟨c5, a8, e4, hST, i9, j0, h3, M⟩
  refine CW_seq (CW_region (VE (E_alloc hST Tryz.zeroValue47 (fun n3 e7 hST => LW_nil (sq_n (CW_seq (CW_seq (CW_region (V (R_move i9) ?_)))))))))
  obtain ⟨t, h1, M⟩ := bind_some M
  have hsz := hST.size
  refine VE (E_callM (args := [H]) (caps := #[]) [] _ hST (List.Perm.refl _) rfl Tryz.call31 (by exact args1 rfl) (fun _ _ _ _ => (w_model_Of H a0 _ _ (a5.mono (Pl.mono _) (e9.trans hST.sub_hp)) h1)) (fun n4 p4 p6 m5 hST l2 hlift f2 => ?_))
  obtain ⟨e8, k2, m6, k3, m7, k4, m8, k5, m9, k6, n0, c4, rfl, h8, h9, i0, i1, i2⟩ := f2
  replace c4 := c4.symm; subst c4
  replace hST := hST.perm (Tb (Tr (Tr (Tr (Tr (Tr Tn))))))
  obtain ⟨a7, h2, M⟩ := bind_some M
  refine VE (F_givesRow (args := [(.pointer (some ⟨e8, 0, none⟩))]) _ hST rfl Tryz.call34 (by exact args1 rfl) (GivesRow.weak (w_model_Model_Facts e8 k2 t.1 k3 t.2.1 k4 t.2.2.1 k5 t.2.2.2.1 k6 t.2.2.2.2.1 t.2.2.2.2.2 _ _ (h8.at (fun b o hq => hST.at_ (Mt (Ml hq)))) (h9.sl lenCred (fun b o hq => hST.at_ (Mt (Ma (Ml hq))))) (i0.at (fun b o hq => hST.at_ (Mt (Ma (Ma (Ml hq)))))) (i1.at (fun b o hq => hST.at_ (Mt (Ma (Ma (Ma (Ml hq))))))) ((i2.slL lenFact).mono (Pl.mono _) (memL_held (fun b o hq => hST.at_ (Mt (Ma (Ma (Ma (Ma (Ml hq))))))))) (At.of (hST.at_ Mh) _ rfl) h2)) (fun n5 k1 f1 i4 hST l3 Y => V (R_lenRow Tryz.underlying53 rfl Y) (V (R_move rfl) (LW_nil (sq_n ?_)))))
  replace hST := hST.sel (Kr (Db (Dr (Dr (Dr (Dr (Dr St)))))))
  obtain ⟨j9, f9, g0⟩ := bind_some M
  refine CW_cut (fun E W => ∃ (a6 : List (ByteArray × Person)) (a9 : List (Nat × Obj)) (e5 : List (Nat × Obj)), ST false NoF w W f1 (a9 ++ e5) ∧ E 3 = U ∧ DeepE Value.string (PBox 104 encPerson) U a6 a9 ∧ some a6 = some r) ?_ ?_
  · refine CW_range (fun i E W => ∃ (J : List (ByteArray × Person)) (a2 : List (Nat × Obj)) (I : Role) (c9 : List (Nat × Obj)), (E 60 = .int .i64 (i : Nat) ∧ E 59 = .int .i64 (a7.length : Nat)) ∧ ST false NoF w W f1 ((e7, Obj.cells ((encRole I).toArray : Array Value) 47 (0, 0)) :: (a2 ++ (i4 ++ c9))) ∧ E 3 = U ∧ E 8 = (.pointer (some ⟨e7, 0, none⟩)) ∧ E 58 = k1 ∧ DeepE Value.string (PBox 104 encPerson) U J a2 ∧ m_census_counted_L2 (a7.drop i) J I = some j9) a7.length Y.len ⟨c5, a8, ((⟨zS, zS⟩ : Role)), _, ⟨rfl, rfl⟩, (hST.sel (Sb (Pr Pz) (Sr (Qr Qz) St))), j0, rfl, rfl, h3, f9⟩ (by decide) (by decide) (by decide) (fun _ _ _ h => by obtain ⟨_, _, _, _, eIN, _⟩ := h; exact eIN) ?_ ?_
    · rintro j5 E W f7 ⟨J, a2, I, c9, ⟨eI, eN⟩, hST, N, a4, b3, c2, a⟩
      obtain ⟨f, m2, h5, d7, d8⟩ := drop_cons f7
      rw [h5] at a
      rw [m_census_counted_L2] at a
      refine CW_block (CW_seq (CW_region (VQ (R_indexRow (i := (j5 : Int)) (x0 := f) Tryz.underlying53 Tryz.sizeOf78 b3 eI Y (Int.natCast_nonneg _) d7) (fun p2 g4 => V (R_load rfl (load_ixA hST.has (fun p hq => (Mt (Ma (Ml hq)))) Y lenFact g4 d7 Tryz.isAgg78 Tryz.sizeOf78)) (VE (E_alloc hST Tryz.zeroValue78 (fun n6 o5 hST => VO (F_store (.agg (encFact f).toArray) ((encFact f).toArray) hST rfl rfl Tryz.sizeOf78 (oneFact f) (Nat.le_of_ble_eq_true rfl) rfl (fun n7 hST => LW_nil (sq_n (CW_seq (CW_region (V (R_move N) (V (R_field fa78_1 rfl) (V (R_load rfl (load_box1 hST.has Mh rfl Tryz.isAgg9)) ?_)))))))))))))))
      obtain ⟨m0, b9⟩ := c2
      refine V (R_lookupDeep (k := f.Who) (z := (.pointer none)) kl9 Tryz.underlying157 Tryz.zeroValue159 rfl rfl b9 (fun b o hq => hST.has.2 b o (Mt (Mt (Ml hq))))) ?_
      obtain ⟨g, d9, a⟩ := bind_some a
      refine VQ (R_nilCheckDP beqS_iff.1 b9 d9 rfl) (fun | _, ⟨o6, rfl, d3, g6⟩ => V (R_field fa104_3 rfl) (V (R_load rfl (load_box1 hST.has (Mt (Mt (Ml g6))) rfl Tryz.isAgg3)) (V (R_int rfl rfl rfl) (V (R_nilCheck d3) (V (R_field fa104_3 rfl) ?_)))))
      replace hST := hST.perm (Nr (Qb (Qb Qz)) Nz)
      refine VO (F_storeDeepP (k := f.Who) (u := (.int .i64 ((IntKind.i64.wrap (g.Roles + 1)))))  ((⟨g.Name, g.Issued, g.Member, (IntKind.i64.wrap (g.Roles + 1)), g.Peopled⟩ : Person)) beqS_iff.1 hST b9 d9 d3 rfl rfl Tryz.sizeOf3 (oneI _ ((IntKind.i64.wrap (g.Roles + 1)))) (Nat.le_of_ble_eq_true rfl) rfl (fun n8 i5 hST Z => LW_nil (sq_n (CW_seq (CW_region (V (R_field fa78_0 rfl) (V (R_load rfl (load_boxA hST.has (Ma Mh) (encRole f.Role) rfl Tryz.isAgg47 Tryz.sizeOf47)) (V (R_load a4 (load_boxA hST.has (Ma (Mt Mh)) (encRole I) rfl Tryz.isAgg47 Tryz.sizeOf47)) (V (R_neq rfl rfl (guard_agg Tryz.eqGuardType47) (bin_neq (eqInRole _ f.Role I))) (LW_nil (sq_n (CW_if (b := (!(beqRole f.Role I))) rfl (fun b7 => ?_) (fun b7 => ?_)))))))))))))
      · replace a := if_t b7 a
        refine CW_seq (CW_region (V (R_move N) (V (R_field fa78_0 rfl) (V (R_field fa47_0 rfl) (V (R_load rfl (load_box1 hST.has (Ma Mh) rfl Tryz.isAgg9)) (V (R_lookupDeep (k := f.Role.Owner) (z := (.pointer none)) kl9 Tryz.underlying157 Tryz.zeroValue159 rfl rfl Z (fun b o hq => hST.has.2 b o (Ml hq))) ?_))))))
        obtain ⟨x, e0, a⟩ := bind_some a
        refine VQ (R_nilCheckDP beqS_iff.1 Z e0 rfl) (fun | _, ⟨o7, rfl, d4, g7⟩ => V (R_field fa104_4 rfl) (V (R_load rfl (load_box1 hST.has (Ml g7) rfl Tryz.isAgg3)) (V (R_int rfl rfl rfl) (V (R_nilCheck d4) (V (R_field fa104_4 rfl) (VO (F_storeDeepP (k := f.Role.Owner) (u := (.int .i64 ((IntKind.i64.wrap (x.Peopled + 1)))))  ((⟨x.Name, x.Issued, x.Member, x.Roles, (IntKind.i64.wrap (x.Peopled + 1))⟩ : Person)) beqS_iff.1 hST Z e0 d4 rfl rfl Tryz.sizeOf3 (oneI _ ((IntKind.i64.wrap (x.Peopled + 1)))) (Nat.le_of_ble_eq_true rfl) rfl (fun n9 i6 hST f4 => LW_nil (sq_n (CW_region (V (R_field fa78_0 rfl) (V (R_load rfl (load_boxA hST.has (Ma Mh) (encRole f.Role) rfl Tryz.isAgg47 Tryz.sizeOf47)) ?_))))))))))))
        replace hST := hST.perm (Nb (Pr (Pb Pz)) Nz)
        refine VO (F_store (.agg (encRole f.Role).toArray) ((encRole f.Role).toArray) hST a4 rfl Tryz.sizeOf47 (oneRole f.Role) (Nat.le_of_ble_eq_true rfl) rfl (fun o0 hST => LW_nil (bq_n (sq_n ?_))))
        replace hST := hST.sel (Kb (Kr (Db St)))
        exact ⟨eI, ((mput beqS ((mput beqS J f.Who ((⟨g.Name, g.Issued, g.Member, (IntKind.i64.wrap (g.Roles + 1)), g.Peopled⟩ : Person)))) f.Role.Owner ((⟨x.Name, x.Issued, x.Member, x.Roles, (IntKind.i64.wrap (x.Peopled + 1))⟩ : Person)))), i6, f.Role, _, ⟨rfl, eN⟩, (hST.sel St), N, a4, b3, f4.e, (by rw [d8]; exact a)⟩
      replace a := if_f b7 a
      refine CW_skip (bq_n (sq_n ?_))
      replace hST := hST.sel (Kr (Db St))
      exact ⟨eI, ((mput beqS J f.Who ((⟨g.Name, g.Issued, g.Member, (IntKind.i64.wrap (g.Roles + 1)), g.Peopled⟩ : Person)))), i5, I, _, ⟨rfl, eN⟩, (hST.sel (Sb (Pr Pz) St)), N, a4, b3, Z.e, (by rw [d8]; exact a)⟩
    rintro E W ⟨J, a2, I, c9, ⟨eI, eN⟩, hST, N, a4, b3, c2, a⟩
    rw [List.drop_length] at a
    rw [m_census_counted_L2] at a
    refine sq_n ?_
    replace a := Option.some.inj a; subst a
    exact ⟨J, a2, _, (hST.sel (Db (Kr (Dr St)))), N, c2, g0⟩
  rintro E W ⟨a6, a9, e5, hST, j1, h4, c1⟩
  refine CW_seq (CW_region (V (R_move j1) (V (R_assign rfl) (LW_nil (sq_n (CW_ret ?_))))))
  replace c1 := Option.some.inj c1; subst c1
  exact retQ_1 (v := U) rfl rfl ⟨_, _, rfl, (hST.bkL (Kr Sn)), U, a9, rfl, rfl, h4⟩
theorem w_census_People (x : Value) (a0 : List Cred) (r : List Person) (w : World) (b0 : Sl (Pl encCred) 9 (hp w) x a0) (hm : m_census_People a0 = some r) :
    GivesRow false Tryz.prog 64 [x] w 104 encPerson 5 r := by
  have hST := ST.start (dd := false) w
  unfold m_census_People at hm
  refine calls_of_CW (n := 29) Tryz.func64 rfl rfl (Nat.le_of_ble_eq_true rfl) (CW_seq (CW_region (V (R_assign rfl) (LW_nil (sq_n (CW_seq (CW_region (V (R_move rfl) ?_))))))))
  obtain ⟨r1, b9, hm⟩ := bind_some hm
  refine VE (F_givesRow (args := [x]) _ hST rfl Tryz.call77 (by exact args1 rfl) (GivesRow.weak (w_cred_Set x a0 _ _ (b0.mono (Pl.mono _) hST.sub_hp) b9)) (fun W3 v6 μ4 R7 hST d2 a5 => V (R_assign rfl) (LW_nil (sq_n (CW_seq (CW_region (V (R_move rfl) ?_)))))))
  obtain ⟨r9, b1, hm⟩ := bind_some hm
  have hsz := hST.size
  refine VE (E_callM (args := [v6]) (caps := #[]) [] _ hST (List.Perm.refl _) rfl Tryz.call118 (by exact args1 rfl) (fun _ _ _ _ => (w_census_counted v6 r1 _ _ (a5.sl lenCred (fun b o hq => hST.at_ (Ml hq))) b1)) (fun d6 d8 d9 d5 hST c5 hlift a9 => ?_))
  obtain ⟨c2, b8, I, rfl, b3⟩ := a9
  replace I := I.symm; subst I
  replace hST := hST.perm (Tr Tn)
  refine V (R_assign rfl) (LW_nil (sq_n (CW_seq (CW_region (V (R_assign rfl) (LW_nil (sq_n (CW_seq (CW_seq (CW_region (V (R_move rfl) ?_)))))))))))
  obtain ⟨N, b2, hm⟩ := bind_some hm
  refine VE (F_givesRow (args := [v6]) _ hST rfl Tryz.call119 (by exact args1 rfl) (GivesRow.weak (w_census_names v6 r1 _ _ (a5.sl lenCred (fun b o hq => hST.at_ (Ma (Ml hq)))) b2)) (fun d7 c1 c3 b7 hST c6 t => V (R_lenRow Tryz.underlying27 rfl t) (V (R_move rfl) (LW_nil (sq_n ?_)))))
  replace hST := hST.sel (Kr (Kr (Dr St)))
  refine CW_range (fun i E W => ∃ (f : Value) (u : List Person) (c : List (Nat × Obj)) (B : List (Nat × Obj)), (E 15 = .int .i64 (i : Nat) ∧ E 14 = .int .i64 (N.length : Nat)) ∧ ST false NoF w W c3 (c ++ (b7 ++ (b8 ++ B))) ∧ E 4 = c2 ∧ E 5 = f ∧ E 13 = c1 ∧ Row 104 encPerson 5 f u c ∧ m_census_People_L1 r9 (N.drop i) u = some r) N.length t.len ⟨(.slice none 0 0), ([]), [], _, ⟨rfl, rfl⟩, (hST.sel St), rfl, rfl, rfl, (Row.nil _ _ _), hm⟩ (by decide) (by decide) (by decide) (fun _ _ _ h => by obtain ⟨_, _, _, _, eIN, _⟩ := h; exact eIN) ?_ ?_
  · rintro b4 E W U ⟨f, u, c, B, ⟨eI, eN⟩, hST, D, G, H, g, a⟩
    obtain ⟨J, c8, a1, M, a2⟩ := drop_cons U
    rw [a1] at a
    rw [m_census_People_L1] at a
    refine CW_block (CW_seq (CW_region (VQ (R_indexRow (i := (b4 : Int)) (x0 := J) Tryz.underlying27 Tryz.sizeOf9 H eI t (Int.natCast_nonneg _) M) (fun d3 Y => V (R_load rfl (load_ix1 hST.has (fun p hq => (Ma (Ml hq))) t (fun _ => rfl) Y M (y := (.string J)) rfl Tryz.isAgg9)) (V (R_assign rfl) (LW_nil (sq_n (CW_region (V (R_move G) (V (R_move D) (V (R_move rfl) ?_)))))))))))
    obtain ⟨c7, K⟩ := b3
    refine V (R_lookupDeep (k := J) (z := (.pointer none)) kl9 Tryz.underlying157 Tryz.zeroValue159 rfl rfl K (fun b o hq => hST.has.2 b o (Ma (Ma (Ml hq))))) ?_
    obtain ⟨j, a3, a⟩ := bind_some a
    refine VQ (R_nilCheckDP beqS_iff.1 K a3 rfl) (fun | _, ⟨d1, rfl, c4, Z⟩ => V (R_load rfl (load_boxA hST.has (Ma (Ma (Ml Z))) (encPerson j) rfl Tryz.isAgg104 Tryz.sizeOf104)) (VE (E_buildSlice (qs := #[(0, (.agg (encPerson j).toArray))]) (cs := (encPerson j).toArray) hST (parts1 rfl) (run_lit [(.agg (encPerson j).toArray)] Tryz.underlying101 Tryz.sizeOf104 Tryz.zeroValue104 (by decide) rfl (by intro v hv; simp only [List.mem_cons, List.not_mem_nil, or_false] at hv; rcases hv with rfl <;> rfl) rfl rfl) (fun c9 a8 hST => ?_))))
    replace hST := hST.perm (Nr (Qb Qz) Nz)
    obtain ⟨b5, T, a⟩ := bind_some a
    refine VE (F_append (enc := encPerson) (v := f) (vs := (.slice (some ⟨a8, 0, none⟩) 1 1)) (R := c) hST lenPerson (by decide) onePerson Tryz.underlying101 info104.1 info104.2.1 rfl info104.2.2.1 info104.2.2.2 rfl rfl g (Sl.lit (enc := encPerson) (l := [j]) lenPerson rfl (Nat.le_of_ble_eq_true rfl) rfl (hST.at_ (Ma Mh))) T (fun d0 b6 a6 hST Q => V (R_assign rfl) (LW_nil (bq_n (sq_n ?_)))))
    replace hST := hST.sel (Kr (Db St))
    exact ⟨eI, b6, b5, a6, _, ⟨rfl, eN⟩, (hST.sel St), D, rfl, H, Q, (by rw [a2]; exact a)⟩
  rintro E W ⟨f, u, c, B, ⟨eI, eN⟩, hST, D, G, H, g, a⟩
  rw [List.drop_length] at a
  rw [m_census_People_L1] at a
  refine sq_n ?_
  replace hST := hST.sel (Kr (Dr (Dr St)))
  refine CW_seq (CW_region (V (R_move G) (V (R_assign rfl) (LW_nil (sq_n (CW_ret ?_))))))
  replace a := Option.some.inj a; subst a
  exact retQ_1 (v := f) rfl rfl ⟨_, c, rfl, hST.backRow (fun p hq => (Ml hq)) g.nd, g⟩
theorem w_slices_MaxFunc_Person (G : Value) (Q : List Person) (H : Value) (f1 : ((Person × Person)) → Option Int) (r : Person) (w : World) (u : Sl (Pl encPerson) 5 (hp w) G Q) (b7 : CbOk Tryz.prog H (hp w) (fun (x : (Person × Person)) => [(.agg (encPerson x.1).toArray), (.agg (encPerson x.2).toArray)]) (fun (r : Int) => (.int .i64 r)) f1) (hm : m_slices_MaxFunc_Person Q f1 = some r) :
    Gives true Tryz.prog 120 [G, H] w (.agg (encPerson r).toArray) := by
  have hST := ST.start (dd := true) w
  unfold m_slices_MaxFunc_Person at hm
  refine calls_of_CW (n := 33) Tryz.func120 rfl rfl (Nat.le_of_ble_eq_true rfl) (CW_seq (CW_region (VE (E_alloc hST Tryz.zeroValue104 (fun W2 b1 hST => LW_nil (sq_n (CW_seq (CW_seq (CW_region (V (R_move rfl) (V (R_len Tryz.underlying101 rfl u) (V (R_int rfl rfl rfl) (LW_nil (sq_n (CW_if (b := (decide (((Q.length : Int)) < 1))) rfl (fun Y => ?_) (fun Y => ?_))))))))))))))))
  · replace hm := if_t Y hm
    cases hm
  replace hm := if_f Y hm
  refine CW_skip (sq_n (CW_seq (CW_region (V (R_move rfl) ?_))))
  obtain ⟨x7, b0, hm⟩ := bind_some hm
  refine VQ (R_indexP (enc := encPerson) (i := 0) (x0 := x7) Tryz.underlying101 Tryz.sizeOf104 rfl rfl u (idx_nonneg b0) (idx_get b0)) (fun p4 c0 => V (R_load rfl (load_atA hST.has c0 Tryz.isAgg104 Tryz.sizeOf104)) (VE (E_alloc hST Tryz.zeroValue104 (fun c8 b9 hST => VO (F_store (.agg (encPerson x7).toArray) ((encPerson x7).toArray) hST rfl rfl Tryz.sizeOf104 (onePerson x7) (Nat.le_of_ble_eq_true rfl) rfl (fun c9 hST => LW_nil (sq_n (CW_seq (CW_seq (CW_region (V (R_assign rfl) (LW_nil (sq_n (CW_block (CW_loop (fun m E W => ∃ (g : Int) (f : Person) (T : List (Nat × Obj)), ST true NoF w W (hp w) ((b9, Obj.cells ((encPerson f).toArray : Array Value) 104 (0, 0)) :: ((b1, Obj.cells ((encPerson ((⟨zS, 0, 0, 0, 0⟩ : Person))).toArray : Array Value) 104 (0, 0)) :: T)) ∧ E 0 = G ∧ E 1 = H ∧ E 4 = (.pointer (some ⟨b1, 0, none⟩)) ∧ E 5 = (.pointer (some ⟨b9, 0, none⟩)) ∧ E 6 = (.int .i64 g) ∧ m_slices_MaxFunc_Person_L1 Q f1 m g f = some r) FUEL ⟨1, x7, _, (hST.sel St), rfl, rfl, rfl, rfl, rfl, hm⟩ ?_)))))))))))))))
  rintro m E W ⟨g, f, T, hST, j, J, z, k, t, c⟩
  cases m with
  | zero => rw [m_slices_MaxFunc_Person_L1] at c; cases c
  | succ Z =>
    rw [m_slices_MaxFunc_Person_L1] at c
    refine CW_seq (CW_seq (CW_region (V (R_move t) (V (R_move j) (V (R_len Tryz.underlying101 rfl u) (V (R_int rfl rfl rfl) (LW_nil (sq_n (CW_if (b := (decide (g < ((Q.length : Int))))) rfl (fun B => ?_) (fun B => ?_))))))))))
    · replace c := if_t B c
      refine CW_skip (sq_n (CW_seq ?_))
      obtain ⟨c7, a, K⟩ := bind_some c
      refine CW_cut (fun E W => ∃ (I : Person) (U : List (Nat × Obj)), ST true NoF w W (hp w) ((b9, Obj.cells ((encPerson I).toArray : Array Value) 104 (0, 0)) :: ((b1, Obj.cells ((encPerson ((⟨zS, 0, 0, 0, 0⟩ : Person))).toArray : Array Value) 104 (0, 0)) :: U)) ∧ E 0 = G ∧ E 1 = H ∧ E 4 = (.pointer (some ⟨b1, 0, none⟩)) ∧ E 5 = (.pointer (some ⟨b9, 0, none⟩)) ∧ E 6 = (.int .i64 g) ∧ (m_slices_MaxFunc_Person_L1 Q f1 Z ((IntKind.i64.wrap (g + 1))) I) = some r) ?_ ?_
      · refine CW_block (CW_seq ?_)
        replace hST := hST.drew
        have hS0 := hST.has.sel (Kb Sn)
        refine PX_start1 hS0 Tryz_mixed (X 0 rfl hS0 (R_move J) (X 1 rfl hS0 (R_move j) (X 2 rfl hS0 (R_move t) ?_)))
        obtain ⟨a1, M, a⟩ := bind_some a
        refine XQ 3 rfl hS0 (R_indexP (enc := encPerson) (i := g) (x0 := a1) Tryz.underlying101 Tryz.sizeOf104 rfl rfl u (idx_nonneg M) (idx_get M)) (fun c5 a7 => XH 4 rfl hS0 (fun _ hS => R_load rfl (load_atA hS a7 Tryz.isAgg104 Tryz.sizeOf104)) (XH 5 rfl hS0 (fun _ hS => R_load k (load_boxA hS Mh (encPerson f) rfl Tryz.isAgg104 Tryz.sizeOf104)) ?_))
        obtain ⟨b8, a9, a⟩ := bind_some a
        refine XE 6 rfl (E_cb ((a1, f)) hST b7 (Sub.refl _) rfl (args2 rfl rfl) a9 (fun c2 hST => ?_))
        have hS0 := hST.has.sel (Kb Sn)
        refine ⟨hS0, (X 7 rfl hS0 (R_int rfl rfl rfl) (PX_done (by kernel_rfl) (sq_n (CW_if (b := (decide (b8 > 0))) rfl (fun D => ?_) (fun D => ?_)))))⟩
        · replace a := if_t D a
          refine CW_region (V (R_move j) (V (R_move t) ?_))
          obtain ⟨y, N, a⟩ := bind_some a
          refine VQ (R_indexP (enc := encPerson) (i := g) (x0 := y) Tryz.underlying101 Tryz.sizeOf104 rfl rfl u (idx_nonneg N) (idx_get N)) (fun c6 a8 => V (R_load rfl (load_atA hST.has a8 Tryz.isAgg104 Tryz.sizeOf104)) (VO (F_store (.agg (encPerson y).toArray) ((encPerson y).toArray) hST k rfl Tryz.sizeOf104 (onePerson y) (Nat.le_of_ble_eq_true rfl) rfl (fun c3 hST => LW_nil (bq_n (sq_n ?_))))))
          replace a := Option.some.inj a; subst a
          exact ⟨y, _, (hST.sel St), j, J, z, k, t, K⟩
        replace a := if_f D a
        refine CW_skip (bq_n (sq_n ?_))
        replace a := Option.some.inj a; subst a
        exact ⟨f, _, (hST.sel St), j, J, z, k, t, K⟩
      rintro E W ⟨I, U, hST, b2, b3, b4, b5, b6, a6⟩
      exact CW_region (V (R_move b6) (V (R_int rfl rfl rfl) (V (R_assign rfl) (LW_nil (sq_n ⟨Z, Nat.lt_succ_self _, ((IntKind.i64.wrap (g + 1))), I, _, (hST.sel St), b2, b3, b4, b5, rfl, a6⟩)))))
    replace c := if_f B c
    refine CW_exit (sq_e (sq_e (bq_e (sq_n (CW_seq (CW_region (V (R_load k (load_boxA hST.has Mh (encPerson f) rfl Tryz.isAgg104 Tryz.sizeOf104)) ?_)))))))
    replace hST := hST.perm (Nb (Pb Pz) Nz)
    refine VO (F_store (.agg (encPerson f).toArray) ((encPerson f).toArray) hST z rfl Tryz.sizeOf104 (onePerson f) (Nat.le_of_ble_eq_true rfl) rfl (fun c4 hST => LW_nil (sq_n ?_)))
    replace hST := hST.sel (Kb (Db St))
    refine CW_ret ?_
    replace c := Option.some.inj c; subst c
    exact retQ_cell (v := (.agg (encPerson f).toArray)) rfl z (load_boxA hST.has Mh (encPerson f) rfl Tryz.isAgg104 Tryz.sizeOf104) ⟨rfl, hST.ex⟩
theorem w_census_Busiest_c1 (a : Person) (c : Person) (r : Int) (w : World)  (hm : m_census_Busiest_c1 a c = some r) :
    Gives true Tryz.prog 121 [(.agg (encPerson a).toArray), (.agg (encPerson c).toArray)] w (.int .i64 r) := by
  have hST := ST.start (dd := true) w
  unfold m_census_Busiest_c1 at hm
  refine calls_of_CW (n := 10) Tryz.func121 rfl rfl (Nat.le_of_ble_eq_true rfl) (CW_seq (CW_region (VE (E_box (v := (.agg (encPerson a).toArray)) hST rfl (fun f i hST => VE (E_box (v := (.agg (encPerson c).toArray)) hST rfl (fun g j hST => V (R_assign rfl) (LW_nil (sq_n (CW_seq (CW_region (V (R_field fa104_1 rfl) (V (R_load rfl (load_box1 hST.has (Mt Mh) rfl Tryz.isAgg3)) (V (R_field fa104_1 rfl) (V (R_load rfl (load_box1 hST.has Mh rfl Tryz.isAgg3)) (V (R_int rfl rfl rfl) ?_))))))))))))))))
  refine V (R_assign rfl) (LW_nil (sq_n ?_))
  replace hST := hST.sel (Db (Db St))
  refine CW_ret ?_
  replace hm := Option.some.inj hm; subst hm
  exact retQ_1 (v := (.int .i64 ((IntKind.i64.wrap (a.Issued - c.Issued))))) rfl rfl ⟨rfl, hST.ex⟩
theorem w_census_Busiest (a : Value) (i : List Cred) (r : (Person × Bool)) (w : World) (j : Sl (Pl encCred) 9 (hp w) a i) (hm : m_census_Busiest i = some r) :
    Gives false Tryz.prog 67 [a] w (.tuple #[(.agg (encPerson r.1).toArray), (.bool r.2)]) := by
  have hST := ST.start (dd := false) w
  unfold m_census_Busiest at hm
  refine calls_of_CW (n := 13) Tryz.func67 rfl rfl (Nat.le_of_ble_eq_true rfl) (CW_seq (CW_region (VE (E_alloc hST Tryz.zeroValue104 (fun K N hST => V (R_assign rfl) (LW_nil (sq_n (CW_seq (CW_region (V (R_move rfl) ?_))))))))))
  obtain ⟨u, t, hm⟩ := bind_some hm
  refine VE (F_givesRow (args := [a]) _ hST rfl Tryz.call64 (by exact args1 rfl) ((w_census_People a i _ _ (j.mono (Pl.mono _) hST.sub_hp) t)) (fun M y Q J hST z g => V (R_assign rfl) (LW_nil (sq_n (CW_seq (CW_seq (CW_region (V (R_move rfl) (V (R_lenRow Tryz.underlying101 rfl g) (V (R_int rfl rfl rfl) (LW_nil (sq_n (CW_if (b := (((u.length : Int)) == 0)) rfl (fun f => ?_) (fun f => ?_))))))))))))))
  · replace hm := if_t f hm
    refine CW_seq (CW_region (V (R_build (qs := #[]) (v := (.agg (encPerson ((⟨zS, 0, 0, 0, 0⟩ : Person))).toArray)) parts0 (run_build Tryz.zeroValue104 Tryz.underlying104 (pl104 _ Tryz.underlying104) (by kernel_rfl))) ?_))
    replace hST := hST.perm (Nb (Pr Pz) Nz)
    refine VO (F_store (.agg (encPerson ((⟨zS, 0, 0, 0, 0⟩ : Person))).toArray) ((encPerson ((⟨zS, 0, 0, 0, 0⟩ : Person))).toArray) hST rfl rfl Tryz.sizeOf104 (onePerson ((⟨zS, 0, 0, 0, 0⟩ : Person))) (Nat.le_of_ble_eq_true rfl) rfl (fun G hST => V (R_assign rfl) (LW_nil (sq_n ?_))))
    replace hST := hST.sel (Kb (Dr St))
    refine CW_ret (sq_r ?_)
    replace hm := Option.some.inj hm; subst hm
    exact retQ_ct (v0 := (.agg (encPerson ((⟨zS, 0, 0, 0, 0⟩ : Person))).toArray)) (v1 := (.bool false)) rfl rfl (load_boxA hST.has Mh (encPerson ((⟨zS, 0, 0, 0, 0⟩ : Person))) rfl Tryz.isAgg104 Tryz.sizeOf104) rfl ⟨rfl, hST.ex⟩
  replace hm := if_f f hm
  refine CW_skip (sq_n (CW_seq (CW_region (V (R_move rfl) ?_))))
  obtain ⟨c, k, hm⟩ := bind_some hm
  refine VE (E_gives (args := [y, (.func (.func 121) #[] #[])]) hST rfl Tryz.call120 (by exact args2 rfl rfl) (Gives.weak (w_slices_MaxFunc_Person y u (.func (.func 121) #[] #[]) (fun (x : (Person × Person)) => m_census_Busiest_c1 x.1 x.2) _ _ (g.sl lenPerson (fun b o hq => hST.at_ (Ml hq))) ⟨121, #[], #[], rfl, Tryz.call121, fun W x r hs hm => w_census_Busiest_c1 x.1 x.2 r W  hm⟩ k)) (fun H hST => ?_))
  replace hST := hST.perm (Nb (Pr Pz) Nz)
  refine VO (F_store (.agg (encPerson c).toArray) ((encPerson c).toArray) hST rfl rfl Tryz.sizeOf104 (onePerson c) (Nat.le_of_ble_eq_true rfl) rfl (fun I hST => V (R_assign rfl) (LW_nil (sq_n ?_))))
  replace hST := hST.sel (Kb (Dr St))
  refine CW_ret ?_
  replace hm := Option.some.inj hm; subst hm
  exact retQ_ct (v0 := (.agg (encPerson c).toArray)) (v1 := (.bool true)) rfl rfl (load_boxA hST.has Mh (encPerson c) rfl Tryz.isAgg104 Tryz.sizeOf104) rfl ⟨rfl, hST.ex⟩
end Go.Proofs.YtfjdjbdnnoijgaaGreat
