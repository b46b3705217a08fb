/- a part of a proof of ModelLeast -/
import Derived.Test.YtfjdjbdnnoijgaaRt4x2
import Derived.OrdersHeld
set_option linter.all false
namespace Go.Proofs.Ytfjdjbdnnoijgaa
open Go.RowKit
def envOf (l : List Value) : Nat → Value := fun t => l.getD t undef
def retQ (P : Program) (fn : Func) (R : Ending → World → Prop) : Post
  | .normal, E, W | .ret, E, W => ∃ v, (∀ tmps : Array Value, (∀ t, tmps.getD t undef = E t) → (results fn tmps).run P W = .ok v W) ∧ R (.returned v) W
  | _, _, _ => False
theorem calls_of_CW {P : Program} {f : FuncId} {fn : Func} {c : Code} {args : List Value} {w : World} {R : Ending → World → Prop} {n : Nat}
    (hf : P.funcs[f]? = some fn) (hb : fn.body = some c) (hn : fn.ntmps = n) (ha : args.length ≤ n)
    (h : CW P n c (retQ P fn R) (envOf args) w) : Calls P f args.toArray w R := by
  refine calls_of_wp hf hb ?_
  have hag : Ag n { tmps := args.toArray ++ Array.replicate (fn.ntmps - args.toArray.size) undef, defers := [] } (envOf args) := by
    refine ⟨by simp; omega, rfl, fun t => ?_⟩
    simp only [envOf, Array.getD_eq_getD_getElem?, List.getD_eq_getElem?_getD, Array.getElem?_append, Array.getElem?_replicate, List.size_toArray, List.getElem?_toArray]
    by_cases ht : t < args.length
    · rw [if_pos ht]
    · rw [if_neg ht, List.getElem?_eq_none (by omega)]
      split <;> simp
  refine wp_mono (h _ hag) (fun e a w' hl => ?_)
  cases e with
  | normal =>
    obtain ⟨E, hE, v, hv, hR⟩ := hl
    exact ⟨hE.2.1, v, hv _ hE.2.2, hR⟩
  | ret =>
    obtain ⟨E, hE, v, hv, hR⟩ := hl
    exact ⟨hE.2.1, v, hv _ hE.2.2, hR⟩
  | exit id => obtain ⟨E, hE, h⟩ := hl; exact h.elim
  | goto l => obtain ⟨E, hE, h⟩ := hl; exact h.elim
  | panic c => exact hl.elim
  | outgrown => exact hl.elim
section
variable {P : Program} {fn : Func} {R : Ending → World → Prop} {E : Nat → Value} {W : World}
theorem retQ_1 {r : Tmp} {v : Value} (hr : fn.results = #[.tmp r]) (hv : E r = v) (h : R (.returned v) W) : retQ P fn R .ret E W :=
  ⟨v, fun tmps ht => by rw [results_tmp hr, ht, hv], h⟩
theorem retQ_0 (hr : fn.results = #[]) (h : R (.returned (.tuple #[])) W) : retQ P fn R .ret E W :=
  ⟨.tuple #[], fun tmps _ => by rw [results_none hr], h⟩
theorem retQ_n (h : retQ P fn R .ret E W) : retQ P fn R .normal E W := h
end
section
variable {Q : Post} {E : Nat → Value} {W : World} {K : (Nat → Value) → World → Prop} {id j : Nat}
theorem bq_n (h : Q .normal E W) : blockQ id Q .normal E W := h
theorem bq_r (h : Q .ret E W) : blockQ id Q .ret E W := h
theorem bq_e (h : Q .normal E W) : blockQ id Q (.exit id) E W := by simp [blockQ]; exact h
theorem bq_o (hne : (j = id) = False) (h : Q (.exit j) E W) : blockQ id Q (.exit j) E W := by simp only [blockQ, hne, if_false]; exact h
theorem sq_n (h : K E W) : seqQ K Q .normal E W := h
theorem sq_r (h : Q .ret E W) : seqQ K Q .ret E W := h
theorem sq_e (h : Q (.exit j) E W) : seqQ K Q (.exit j) E W := h
end
theorem wrap_succ {i N : Nat} (hi : i < N) (hN : N ≤ 9223372036854775807) : IntKind.i64.wrap ((i : Int) + 1) = ((i + 1 : Nat) : Int) := by
  rw [IntWalk.i64_in _ (by omega)]
  omega
theorem CW_range {P : Program} {n : Nat} {Q : Post} {E : Nat → Value} {W : World} {id0 id1 r2 r6 tc ti tn ts : Nat} {t1 t2 t3 t4 t5 t6 t7 : TypeId} {p1 p2 p3 : String} {f1 f2 f3 : Array Edge} {body : Code}
    (I : Nat → (Nat → Value) → World → Prop) (N : Nat) (hN : N ≤ 9223372036854775807) (h0 : I 0 E W) (hc : tc < n) (hs : ts < n) (hti : ti < n)
    (hI : ∀ i E W, I i E W → E ti = .int .i64 (i : Nat) ∧ E tn = .int .i64 (N : Nat))
    (round : ∀ i E W, i < N → I i E W → CW P n (.block id1 body) (seqQ (fun E' W' => E' ti = .int .i64 (i : Nat) ∧ I (i + 1) (upd (upd E' ts (.int .i64 ((i + 1 : Nat) : Int))) ti (.int .i64 ((i + 1 : Nat) : Int))) W') (blockQ id0 Q)) (upd E tc (.bool true)) W)
    (done : ∀ E W, I N E W → Q .normal (upd E tc (.bool false)) W) :
    CW P n (.block id0 (.loop (.seq (.region r2 #[⟨some tc, .binOp .lss t1 (.tmp ti) (.tmp tn) t2, t3, p1, f1, none⟩] false)
      (.seq (.cond (.tmp tc) .skip (.exit id0)) (.seq (.block id1 body)
        (.region r6 #[⟨some ts, .binOp .add t4 (.tmp ti) (.const (.int .i64 1)) t5, t6, p2, f2, none⟩, ⟨some ti, .move (.tmp ts), t7, p3, f3, none⟩] false)))))) Q E W := by
  refine CW_block (CW_loop (fun m E W => ∃ i, i ≤ N ∧ m = N - i ∧ I i E W) N ⟨0, Nat.zero_le _, by omega, h0⟩ ?_)
  rintro m E W ⟨i, hi, rfl, hIi⟩
  obtain ⟨hE1, hE2⟩ := hI i E W hIi
  refine CW_seq (CW_region (LW_v (.inl rfl) rfl hc (R_int hE1 hE2 rfl) (LW_nil ?_)))
  refine sq_n (CW_seq ?_)
  have e1 : upd E tc (.bool (decide ((i : Int) < (N : Int)))) tc = .bool (decide ((i : Int) < (N : Int))) := by simp [upd]
  by_cases hlt : i < N
  · have hd : decide ((i : Int) < (N : Int)) = true := by simp; omega
    rw [hd] at e1 ⊢
    refine CW_if_true e1 (CW_skip (sq_n (CW_seq ?_)))
    refine CW_mono (round i E W hlt hIi) (fun e E' W' h => ?_)
    cases e with
    | normal =>
      obtain ⟨h1, h2⟩ := h
      refine sq_n ?_
      have hw : IntKind.i64.wrap ((i : Int) + 1) = ((i + 1 : Nat) : Int) := wrap_succ hlt hN
      refine CW_region (LW_v (v := .int .i64 ((i + 1 : Nat) : Int)) (.inl rfl) rfl hs (R_int (k := .i64) (a := (i : Int)) (b := 1) h1 rfl (by simp only [intOp, hw])) ?_)
      refine LW_v (v := .int .i64 ((i + 1 : Nat) : Int)) (.inl rfl) rfl hti (R_move (by simp [evE, upd])) (LW_nil ?_)
      exact sq_n ⟨N - (i + 1), by omega, i + 1, by omega, rfl, h2⟩
    | exit j => exact h
    | goto l => exact h
    | ret => exact h
    | panic c => exact h
    | outgrown => exact h
  · have hd : decide ((i : Int) < (N : Int)) = false := by simp; omega
    rw [hd] at e1 ⊢
    obtain rfl : i = N := by omega
    refine CW_if_false e1 (CW_exit (sq_e (sq_e (bq_e ?_))))
    exact done E W hIi
theorem CW_cut {P : Program} {n : Nat} {x : Code} {Q : Post} {K : (Nat → Value) → World → Prop} {E : Nat → Value} {W : World} (J : (Nat → Value) → World → Prop) (h : CW P n x (seqQ J Q) E W) (k : ∀ E W, J E W → K E W) : CW P n x (seqQ K Q) E W :=
  CW_mono h (fun e E W h => by cases e <;> first | exact k E W h | exact h)
theorem if_t {α : Type} {c : Bool} {x y : α} {r : α} (hc : c = true) (h : (if c = true then x else y) = r) : x = r := by rw [if_pos hc] at h; exact h
theorem if_f {α : Type} {c : Bool} {x y : α} {r : α} (hc : c = false) (h : (if c = true then x else y) = r) : y = r := by rw [if_neg (by rw [hc]; decide)] at h; exact h
theorem bind_some {α β : Type} {o : Option α} {f : α → Option β} {r : β} (h : o.bind f = some r) : ∃ y, o = some y ∧ f y = some r := by
  cases o with
  | none => cases h
  | some y => exact ⟨y, rfl, h⟩
theorem bool_cases (b : Bool) : b = true ∨ b = false := by cases b <;> simp
theorem drop_cons {α : Type} {l : List α} {i : Nat} (h : i < l.length) : ∃ x xs, l.drop i = x :: xs ∧ l[i]? = some x ∧ l.drop (i + 1) = xs := by
  cases hd : l.drop i with
  | nil => have := congrArg List.length hd; simp at this; omega
  | cons x xs => exact ⟨x, xs, rfl, by rw [← List.head?_drop, hd]; rfl, by rw [← List.drop_drop, hd]; rfl⟩
theorem eqFields_nil {P : Program} {W : World} (d : Nat) (xs ys : Array Value) : (Op.eqFields d xs ys []).run P W = .ok true W := by simp [Op.eqFields]
theorem eqFields_cons {P : Program} {W : World} {d : Nat} {xs ys : Array Value} {f : Field} {fs : List Field} {a b : Value} {r s : Bool} (hn : f.name ≠ "_") (ha : (part f.type xs f.offset).run P W = .ok a W) (hb : (part f.type ys f.offset).run P W = .ok b W)
    (he : (Op.equalIn d f.type a b).run P W = .ok r W) (h : (Op.eqFields d xs ys fs).run P W = .ok s W) : (Op.eqFields d xs ys (f :: fs)).run P W = .ok (r && s) W := by
  simp only [Op.eqFields, ne_eq, hn, not_false_eq_true, if_true, Sem.run_bind, ha, hb, he, Result.andThen_ok]
  cases r <;> simp [h]
theorem part_agg {P : Program} {W : World} {t : TypeId} {k : Nat} {cs : Array Value} {off : Nat} {v : Array Value} (hA : ∀ w, (isAgg t).run P w = .ok true w) (hS : ∀ w, (sizeOf t).run P w = .ok k w) (hv : cs.extract off (off + k) = v) : (part t cs off).run P W = .ok (.agg v) W := by
  simp [part, hA W, hS W, hv]
theorem part_one {P : Program} {W : World} {t : TypeId} {cs : Array Value} {off : Nat} {v : Value} (hA : ∀ w, (isAgg t).run P w = .ok false w) (hv : cs[off]? = some v) : (part t cs off).run P W = .ok v W := by
  simp [part, hA W, hv]
def beqS (a b : ByteArray) : Bool := a.toList == b.toList
theorem eqS {P : Program} {t : TypeId} (ht : P.underlying t = some .string) (d : Nat) (a b : ByteArray) (W : World) : (Op.equalIn (d + 1) t (.string a) (.string b)).run P W = .ok (beqS a b) W := run_equalIn_string W d t a b ht
theorem eqI {P : Program} {t : TypeId} {k : IntKind} (ht : P.underlying t = some (.int k)) (d : Nat) (a b : Int) (W : World) : (Op.equalIn (d + 1) t (.int k a) (.int k b)).run P W = .ok (a == b) W := run_equalIn_int W d t k k a b ht
theorem guard_agg {P : Program} {op : BinOp} {t : TypeId} {x y : Operand} {a b : Array Value} (hg : P.eqGuardType P.depth t = false) (W : World) : (eqGuard op t x y (.agg a) (.agg b)).run P W = .ok () W := by
  cases op <;> simp [eqGuard] <;> (intro h; rw [hg] at h; cases h)
theorem bin_eql {P : Program} {t : TypeId} {a b : Array Value} {r : Bool} (h : ∀ W, (Op.equalIn Op.maxDepth t (.agg a) (.agg b)).run P W = .ok r W) (W : World) : (binOp .eql t (.agg a) (.agg b)).run P W = .ok (.bool r) W := by
  simp [binOp, Op.equal, h W]
theorem bin_neq {P : Program} {t : TypeId} {a b : Array Value} {r : Bool} (h : ∀ W, (Op.equalIn Op.maxDepth t (.agg a) (.agg b)).run P W = .ok r W) (W : World) : (binOp .neq t (.agg a) (.agg b)).run P W = .ok (.bool !r) W := by
  simp [binOp, Op.equal, h W]
end Go.Proofs.Ytfjdjbdnnoijgaa
