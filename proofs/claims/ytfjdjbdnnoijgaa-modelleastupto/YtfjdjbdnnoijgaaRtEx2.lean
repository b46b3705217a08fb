/- a part of a proof of ModelLeast -/
import Derived.Test.YtfjdjbdnnoijgaaRtDx2
set_option linter.all false
namespace Go.Proofs.Ytfjdjbdnnoijgaa
open Go.RowKit
variable {dd : Bool}
def memL (A : List (Nat × Obj)) : Mem := fun b => (A.find? (fun p => p.1 == b)).map (·.2)
theorem memL_held {A : List (Nat × Obj)} {W : World} (h : ∀ b o, (b, o) ∈ A → W.heap[b]? = some o) : ∀ b o, memL A b = some o → W.heap[b]? = some o := fun b o hb => by
  unfold memL at hb
  cases hf : A.find? (fun p => p.1 == b) with
  | none => rw [hf] at hb; cases hb
  | some p =>
    rw [hf] at hb
    cases hb
    have h1 := List.mem_of_find?_eq_some hf
    have h2 := List.find?_some hf
    simp at h2
    subst h2
    exact h _ _ h1
theorem At.of {M : Mem} {b : Nat} {cs : Array Value} {T : TypeId} {fr : Nat × Nat} (h : M b = some (.cells cs T fr)) (ys : List Value) (hy : cs.toList = ys) : At M (.pointer (some ⟨b, 0, none⟩)) ys :=
  ⟨b, 0, cs, T, fr, rfl, h, fun j y hj => by subst hy; simpa using hj⟩
section
variable {F : Nat → Prop} {w W W' : World} {μ μ' : Mem} {L L0 L1 L2 : List (Nat × Obj)}
theorem ST.hpx_mem (h : ST dd F w W μ L) (hL : L.Perm (L0 ++ L2)) : ∀ b o, (b, o) ∈ L2 → hpx W L0 b = some o := fun b o hb => by
  have h1 := (h.perm hL).at_ (List.mem_append_right _ hb)
  unfold hpx
  rw [if_neg (nd_disj (h.perm hL).nd hb)]
  exact h1
theorem ST.held (h : ST dd F w W μ L) (hL : L.Perm (L0 ++ L2)) : Held L0 W := fun b o hb => ((h.perm hL).box b o (List.mem_append_left _ hb)).1
theorem ST.ndup (h : ST dd F w W μ L) (hL : L.Perm (L0 ++ L2)) : (L0.map (·.1)).Nodup := by
  have := (h.perm hL).nd
  rw [List.map_append] at this
  exact (List.nodup_append.1 this).1
theorem ST.subx (h : ST dd F w W μ L) (hL : L.Perm (L0 ++ L2)) : Sub μ (hpx W L0) := (h.perm hL).sub_hpx (fun _ hp => List.mem_append_left _ hp)
end
section
variable {P : Program} {E : Nat → Value} {W : World} {d : Option Nat} {ty : TypeId} {pos : String} {af : Array Edge} {g : Option (Nat × Bool)}
  {F : Nat → Prop} {w : World} {μ : Mem} {L : List (Nat × Obj)}
theorem E_callM {K : Value → World → Prop} {K' : Value → List (Nat × Obj) → World → Prop} {f : FuncId} {fv : Operand} {as : Array Operand} {ats : Array TypeId} {caps : Array Value} {args : List Value} (L0 L2 : List (Nat × Obj)) (hST : ST dd F w W μ L) (hL : L.Perm (L0 ++ L2))
    (hf : evE E fv = .func (.func f) #[] caps) (he : ∀ args w, (callFunc f args).run P w = .ok (.enter f args) w) (ha : as.map (evE E) ++ (#[] : Array Value) = args.toArray)
    (hc : Held L0 W → (L0.map (·.1)).Nodup → Sub μ (hpx W L0) → (∀ b o, (b, o) ∈ L2 → hpx W L0 b = some o) → GivesM dd P f (args ++ caps.toList) W L0 K')
    (h : ∀ W' v μ' L1, ST dd F w W' μ' (L1 ++ L2) → Sub μ μ' → (∀ b, W.heap.size ≤ b → ∀ o, hpx W' L1 b = some o → μ' b = some o) → K' v L1 W' → K v W') : Eff P E ⟨d, .call ⟨.value fv, as, ats⟩, ty, pos, af, g⟩ W K := by
  have ha' : as.map (evE E) = args.toArray := by simpa using ha
  refine E_calls (args := (args ++ caps.toList).toArray) hf he (by rw [ha']; simp) (Calls.mono (hc (hST.held hL) (hST.ndup hL) (hST.subx hL) (hST.hpx_mem hL)) (fun _ W' ⟨v, L1, h1, h2, h3⟩ => ⟨v, h1, h W' v _ L1 ((hST.perm hL).back h2) ((hST.perm hL).growX_sub W' L1) ?_ h3⟩))
  intro b hb o ho
  unfold growX
  rw [if_neg (by omega)]
  exact ho
theorem Sl.lift {α : Type} {enc : α → List Value} {k : Nat} {M μ' : Mem} {B : Nat} {v : Value} {l : List α} (h : Sl (Pl enc) k M v l) (hf : Fr B v) (hM : ∀ b, B ≤ b → ∀ o, M b = some o → μ' b = some o) : Sl (Pl enc) k μ' v l := by
  obtain ⟨A, c, h1, h2, h3, h4⟩ := h
  refine ⟨A, c, h1, h2, h3, fun hl => ?_⟩
  obtain ⟨b, off, cs, T, fr, h5, h6, h7⟩ := h4 hl
  exact ⟨b, off, cs, T, fr, h5, hM b (hf b (by rw [h1, h5]; rfl)) _ h6, h7⟩
def CbsOk {σ α β : Type} (P : Program) (fv : Value) (μ : Mem) (Inv : σ → List (Nat × Obj) → Prop) (av : α → List Value) (rv : β → Value) (fs : σ → α → Option (β × σ)) : Prop :=
  ∃ f caps, fv = .func (.func f) #[] caps ∧ (∀ args w, (callFunc f args).run P w = .ok (.enter f args) w) ∧
    ∀ W s x r R, Sub μ (hpx W R) → Inv s R → Held R W → (R.map (·.1)).Nodup → fs s x = some r → GivesM true P f (av x ++ caps.toList) W R (fun v R' _ => v = rv r.1 ∧ Inv r.2 R')
theorem CbsOk.mono {σ α β : Type} {fv : Value} {μ0 : Mem} {Inv : σ → List (Nat × Obj) → Prop} {av : α → List Value} {rv : β → Value} {fs : σ → α → Option (β × σ)} (h : CbsOk P fv μ Inv av rv fs) (hs : Sub μ μ0) : CbsOk P fv μ0 Inv av rv fs := by
  obtain ⟨f, caps, h1, h2, h3⟩ := h
  exact ⟨f, caps, h1, h2, fun W s x r R h => h3 W s x r R (hs.trans h)⟩
theorem equalIn_func_nil {t : TypeId} (dd : Nat) {s u : Array TypeId} {b : Bool} (ht : P.underlying t = some (.func s u b)) (f : Fn) (a c : Array Value) (W : World) : (Op.equalIn (dd + 1) t (.func f a c) .nilFunc).run P W = .ok false W := by
  simp [Op.equalIn, run_underlying ht]
theorem R_funcEqNil {tx tv : TypeId} {x y : Operand} {f : Fn} {a b : Array Value} {s u : Array TypeId} {bb : Bool} (ht : P.underlying tx = some (.func s u bb)) (hx : evE E x = .func f a b) (hy : evE E y = .nilFunc) :
    Runs P E ⟨d, .binOp .eql tx x y tv, ty, pos, af, g⟩ W (.bool false) W := by
  show (do let r ← (do eqGuard .eql tx x y (evE E x) (evE E y); binOp .eql tx (evE E x) (evE E y)); pure (.value r) : Sem Next).run P W = _
  rw [hx, hy]
  have h0 := equalIn_func_nil 9999 ht f a b W
  simp [eqGuard, binOp, Op.equal, show Op.maxDepth = 9999 + 1 from rfl, h0]
end
def mgetD {κ β : Type} (beq : κ → κ → Bool) (l : List (κ × β)) (k : κ) (z : β) : β := (mget beq l k).getD z
section
variable {P : Program} {W : World} {κ β : Type} {kt : TypeId} {kenc : κ → Value} {beq : κ → κ → Bool} {vf : β → Value} {E : Nat → Value} {d : Option Nat} {ty : TypeId} {pos : String} {af : Array Edge} {g : Option (Nat × Bool)} {F : Nat → Prop} {w : World} {μ : Mem} {L R : List (Nat × Obj)} {v : Value} {left : List (κ × β)}
theorem R_lookupD {t e : TypeId} {m x : Operand} {mv : Value} {l : List (κ × β)} {k : κ} {z : β} (K : KeyLaw P kt kenc beq) (ht : P.underlying t = some (.map kt e)) (hz : ∀ w, (zeroValue e).run P w = .ok (vf z) w) (hm : evE E m = mv) (hx : evE E x = kenc k) (hM : MapAt kenc vf (hp W) mv l) :
    Runs P E ⟨d, .lookup t m x false, ty, pos, af, g⟩ W (vf (mgetD beq l k z)) W := by
  have := R_lookup (d := d) (ty := ty) (pos := pos) (af := af) (g := g) K ht hz hm hx hM
  rw [mgetD]
  cases h : mget beq l k with
  | none => rw [h] at this; exact this
  | some y => rw [h] at this; exact this
theorem MapRow.one {mv : Value} {l : List (κ × β)} (h : MapRow kenc vf mv l R) : mv.oneCell' = true := by obtain ⟨m, es, clock, rfl, _⟩ := h; rfl
theorem MapRow.form {mv : Value} {l : List (κ × β)} (h : MapRow kenc vf mv l R) : ∃ m, mv = .map (some m) := by obtain ⟨m, es, clock, rfl, _⟩ := h; exact ⟨m, rfl⟩
theorem MapRow.nd {mv : Value} {l : List (κ × β)} (h : MapRow kenc vf mv l R) : (R.map (·.1)).Nodup := by obtain ⟨m, es, clock, rfl, rfl, _⟩ := h; simp
theorem E_rangeM {Kk : Value → World → Prop} {t kt e : TypeId} {m : Operand} {mv : Value} {l : List (κ × β)} {M : Mem} (ht : P.underlying t = some (.map kt e)) (hST : ST dd F w W μ L) (hm : evE E m = mv) (hM : MapAt kenc vf M mv l) (hW : ∀ b o, M b = some o → W.heap[b]? = some o)
    (hK : ∀ W' v R, ST dd F w W' μ (R ++ L) → Iter kenc vf M v l R → Kk v W') : Eff P E ⟨d, .range t m, ty, pos, af, g⟩ W Kk := by
  rcases hM with ⟨rfl, rfl⟩ | ⟨mb, es, clock, rfl, hb, h3⟩
  · refine .inl ⟨_, _, ?_, hK (W.alloc (.mapIter none 0 #[] 0)) (.pointer (some ⟨W.heap.size, 0, none⟩)) [(W.heap.size, _)] (hST.alloc _) ⟨_, rfl, .inl ⟨rfl, _, _, _, rfl⟩⟩⟩
    show (do pure (.value (← Instr.range t (evE E m))) : Sem Next).run P W = _
    rw [hm]; simp [run_range_nilMap W t kt e ht]
  · refine .inl ⟨_, _, ?_, hK (W.alloc (.mapIter (some mb) clock #[] clock)) (.pointer (some ⟨W.heap.size, 0, none⟩)) [(W.heap.size, _)] (hST.alloc _) ⟨_, rfl, .inr ⟨mb, es, clock, #[], clock, l, hb, h3, rfl, Nat.le_refl _, ?_⟩⟩⟩
    · show (do pure (.value (← Instr.range t (evE E m))) : Sem Next).run P W = _
      rw [hm]; simp [run_range_map W t kt e mb es clock ht (hW _ _ hb)]
    · rw [← h3.pairs]; simp only [leftOf, Array.toList_filter]; rw [List.filter_eq_self.2 (fun a _ => by simp)]
theorem E_nextM {Kk : Value → World → Prop} {M : Mem} (X : List (Nat × Obj)) {Y : List (Nat × Obj)} {x : Operand} (hST : ST dd F w W μ (X ++ (R ++ Y))) (hW : ∀ b o, M b = some o → W.heap[b]? = some o) (h : Iter kenc vf M v left R) (hx : evE E x = v)
    (hend : left = [] → Kk (.tuple #[.bool false]) W) (hstep : ∀ W' R' p left', left.Perm (p :: left') → ST dd F w W' μ (X ++ (R' ++ Y)) → IterAt kenc vf M v left' R' p → Kk (.tuple #[.bool true, kenc p.1, vf p.2]) W') :
    Eff P E ⟨d, .next x false, ty, pos, af, g⟩ W Kk := by
  have hr : ∀ v' W', (Instr.next v false ty).run P W = .ok v' W' → (execOp (evE E) ⟨d, .next x false, ty, pos, af, g⟩).run P W = .ok (.value v') W' := by
    intro v' W' hv
    show (do pure (.value (← Instr.next (evE E x) false ty)) : Sem Next).run P W = _
    rw [hx]; simp [hv]
  obtain ⟨it, rfl, ⟨rfl, a, s, c, rfl⟩ | ⟨m, es, clock, seen, c0, l, h2, h3, rfl, h4, h5⟩⟩ := h
  · have hb := (hST.box it (.mapIter none a s c) (by simp)).1
    refine .inl ⟨.tuple #[.bool false], W, hr _ _ ?_, hend rfl⟩
    simp only [Instr.next, getObj, Sem.run_bind, Sem.run, hb, Result.andThen]
    rfl
  · have hb := (hST.box it (.mapIter (some m) clock seen c0) (by simp)).1
    rcases run_next_at (P := P) W ty it m clock c0 seen es clock hb (hW _ _ h2) h3.lt h4 with ⟨h6, h7⟩ | ⟨e, h6, w1, h7, h8⟩
    · refine .inl ⟨_, W, hr _ _ h7, hend ?_⟩
      have := congrArg List.length h5
      simp [h6] at this
      exact List.length_eq_zero_iff.1 this.symm
    · obtain ⟨A, B, hA, hB⟩ := leftOf_push h3 seen h6
      rw [hA] at h5
      have hl : ∃ LA p LB, left = LA ++ p :: LB ∧ A.map (fun e => (e.key, e.val)) = LA.map (fun p => (kenc p.1, vf p.2)) ∧ (e.key, e.val) = (kenc p.1, vf p.2) ∧ B.map (fun e => (e.key, e.val)) = LB.map (fun p => (kenc p.1, vf p.2)) := by
        rw [List.map_append, List.map_cons] at h5
        obtain ⟨LA, LB', e1, e2, e3⟩ := List.map_eq_append_iff.1 h5.symm
        obtain ⟨p, LB, e4, e5, e6⟩ := List.map_eq_cons_iff.1 e3
        exact ⟨LA, p, LB, by rw [e1, e4], e2.symm, e5.symm, e6.symm⟩
      obtain ⟨LA, p, LB, rfl, e2, e3, e4⟩ := hl
      have he : e ∈ es.toList := by
        have : e ∈ (leftOf es seen).toList := h6
        simp only [leftOf, Array.toList_filter] at this
        exact (List.mem_filter.1 this).1
      simp only [Prod.mk.injEq] at e3
      rw [e3.1, e3.2] at h8
      have hST1 : ST dd F w w1 μ (X ++ ([(it, .mapIter (some m) clock seen c0)] ++ Y)) := by
        rcases h7 with rfl | rfl
        · exact hST
        · exact hST.drew
      refine .inl ⟨_, _, hr _ _ h8, hstep _ [(it, _)] p (LA ++ LB) List.perm_middle (ST.setBlock (A := X) hST1 _) ⟨it, m, es, clock, seen, l, e, rfl, h2, h3, rfl, he, e3.1, e3.2, ?_⟩⟩
      rw [hB, List.map_append, e2, e4, List.map_append]
theorem R_entryM {M : Mem} {x : Operand} {p : κ × β} (hH : ∀ q, q ∈ R → W.heap[q.1]? = some q.2) (hm : ∀ b o, M b = some o → W.heap[b]? = some o) (h : IterAt kenc vf M v left R p) (hx : evE E x = v) :
    Runs P E ⟨d, .entry x, ty, pos, af, g⟩ W (.tuple #[kenc p.1, vf p.2]) W := R_entry (μ := M) hH hm h hx
end
def clearT {α : Type} (l : List α) (i : Nat) (z : α) : List α := l.take i ++ List.replicate (l.length - i) z
theorem clearT_length {α : Type} (l : List α) (i : Nat) (z : α) (h : i ≤ l.length) : (clearT l i z).length = l.length := by simp [clearT]; omega
theorem clearT_take {α : Type} (l : List α) (i : Nat) (z : α) (h : i ≤ l.length) : (clearT l i z).take i = l.take i := by
  simp only [clearT]
  rw [List.take_append, List.take_of_length_le (by simp; omega)]
  simp; omega
end Go.Proofs.Ytfjdjbdnnoijgaa
