/- a part of a proof of ModelLeast -/
import Derived.Test.YtfjdjbdnnoijgaaRt3x2
import Derived.Maps.AppendAt
set_option linter.all false
namespace Go.Proofs.Ytfjdjbdnnoijgaa
open Go.RowKit
variable {dd : Bool}
section
variable {P : Program} {n : Nat} {Q : Post} {E : Nat → Value} {W : World} {ops : Array Oper} {rest : List Oper}
  {d : Option Nat} {ty : TypeId} {pos : String} {af : Array Edge} {g : Option (Nat × Bool)}
  {F : Nat → Prop} {w : World} {μ : Mem} {L : List (Nat × Obj)}
def Eff (P : Program) (E : Nat → Value) (o : Oper) (W : World) (K : Value → World → Prop) : Prop :=
  (∃ v W', (execOp (evE E) o).run P W = .ok (.value v) W' ∧ K v W') ∨ (∃ W', (execOp (evE E) o).run P W = .ok .skip W' ∧ K undef W') ∨
  (∃ f args, (execOp (evE E) o).run P W = .ok (.enter f args) W ∧ Calls P f args W fun e w' => ∃ v, e = .returned v ∧ K v w')
theorem Eff.mono {o : Oper} {K K' : Value → World → Prop} (h : Eff P E o W K) (hk : ∀ v W', K v W' → K' v W') : Eff P E o W K' := by
  rcases h with ⟨v, W', h1, h2⟩ | ⟨W', h1, h2⟩ | ⟨f, args, h1, h2⟩
  · exact .inl ⟨v, W', h1, hk _ _ h2⟩
  · exact .inr (.inl ⟨W', h1, hk _ _ h2⟩)
  · exact .inr (.inr ⟨f, args, h1, Calls.mono h2 (fun _ _ ⟨v, h3, h4⟩ => ⟨v, h3, hk _ _ h4⟩)⟩)
theorem LW_e {o : Oper} {dd : Nat} (hw : Wanted n ops E o) (hd : o.dst = some dd) (hn : dd < n) (h : Eff P E o W fun v W' => LW P n ops Q rest (upd E dd v) W') : LW P n ops Q (o :: rest) E W := by
  rcases h with ⟨v, W', h1, h2⟩ | ⟨W', h1, h2⟩ | ⟨f, args, h1, h2⟩
  · exact LW_val hw hd hn h1 h2
  · intro a ha
    unfold wpList
    rw [if_pos (hw.of ha)]
    refine .inl ?_
    unfold Oper.wp
    rw [ha.eval, h1, Oper.upon_skip, hd]
    exact h2 _ (ha.put hn _)
  · exact LW_enter hw hd hn h1 h2
theorem LW_e0 {o : Oper} (hw : Wanted n ops E o) (hd : o.dst = none) (h : Eff P E o W fun _ W' => LW P n ops Q rest E W') : LW P n ops Q (o :: rest) E W := by
  rcases h with ⟨v, W', h1, h2⟩ | ⟨W', h1, h2⟩ | ⟨f, args, h1, h2⟩
  · intro a ha
    unfold wpList
    rw [if_pos (hw.of ha)]
    refine .inl ?_
    unfold Oper.wp
    rw [ha.eval, h1, Oper.upon_value, hd]
    exact h2 _ (ha.put_none _)
  · exact LW_skipv hw hd h1 h2
  · intro a ha
    unfold wpList
    rw [if_pos (hw.of ha)]
    refine .inl ?_
    unfold Oper.wp
    rw [ha.eval, h1, Oper.upon_enter]
    refine Calls.mono h2 ?_
    rintro e w' ⟨v, rfl, hl⟩
    simp only [hd]
    exact hl _ (ha.put_none _)
theorem E_box {K : Value → World → Prop} {t : TypeId} {x : Operand} {v : Value} (hST : ST dd F w W μ L) (hx : evE E x = v)
    (h : ∀ W' b, ST dd F w W' μ ((b, .cells v.cells t (0, 0)) :: L) → K (.pointer (some ⟨b, 0, none⟩)) W') : Eff P E ⟨d, .box t x, ty, pos, af, g⟩ W K :=
  .inl ⟨.pointer (some ⟨W.heap.size, 0, none⟩), W.alloc (.cells v.cells t (0, 0)), by
      show (do pure (.value (← Instr.box t (evE E x))) : Sem Next).run P W = _
      rw [hx]
      simp [Instr.box, newVar, newRow, newObj, Sem.run], h _ _ (hST.alloc _)⟩
theorem E_alloc {K : Value → World → Prop} {t : TypeId} {z : Value} (hST : ST dd F w W μ L) (hz : ∀ w, (zeroValue t).run P w = .ok z w)
    (h : ∀ W' b, ST dd F w W' μ ((b, .cells z.cells t (0, 0)) :: L) → K (.pointer (some ⟨b, 0, none⟩)) W') : Eff P E ⟨d, .alloc t, ty, pos, af, g⟩ W K :=
  .inl ⟨.pointer (some ⟨W.heap.size, 0, none⟩), W.alloc (.cells z.cells t (0, 0)), by
      show (do pure (.value (← Instr.alloc t true (.tuple #[]))) : Sem Next).run P W = _
      simp [Instr.alloc, hz W, newVar, newRow, newObj, Sem.run], h _ _ (hST.alloc _)⟩
theorem run_buildSlice {t e : TypeId} {m k : Nat} {z : Value} {qs : Array (Nat × Value)} {cs : Array Value} (ht : P.underlying t = some (.slice e)) (hs : ∀ w, (sizeOf e).run P w = .ok k w) (hz : ∀ w, (zeroValue e).run P w = .ok z w)
    (hm : m * k ≤ 16777216) (hf : Instr.fill (fun i => some (i * k, k)) ((Array.range (m * k)).map (fun i => (if m * k = 0 then (#[] : Array Value) else z.cells)[i % (if m * k = 0 then (#[] : Array Value) else z.cells).size]!)) qs.toList = some cs) (W : World) :
    (Instr.buildSlice t m qs).run P W = .ok (.slice (some ⟨W.heap.size, 0, none⟩) m m) (W.alloc (.cells cs e (0, 0))) := by
  simp only [Instr.buildSlice, Sem.run_bind, run_underlying ht, Result.andThen_ok, hs W]
  rw [if_neg (by omega)]
  by_cases h0 : m * k = 0
  · simp only [h0, if_true] at hf ⊢
    simp only [Sem.run_bind, Sem.run_pure, Result.andThen_ok, hf]
    simp [newRow, newObj, Sem.run]
  · simp only [h0, if_false] at hf ⊢
    simp only [Sem.run_bind, hz W, Sem.run_pure, Result.andThen_ok, hf]
    simp [newRow, newObj, Sem.run]
theorem E_buildSlice {K : Value → World → Prop} {t e : TypeId} {m : Nat} {ps : Array (Nat × Operand)} {qs : Array (Nat × Value)} {cs : Array Value} (hST : ST dd F w W μ L) (hq : ps.map (fun (i, x) => (i, evE E x)) = qs)
    (hr : ∀ W, (Instr.buildSlice t m qs).run P W = .ok (.slice (some ⟨W.heap.size, 0, none⟩) m m) (W.alloc (.cells cs e (0, 0))))
    (h : ∀ W' b, ST dd F w W' μ ((b, .cells cs e (0, 0)) :: L) → K (.slice (some ⟨b, 0, none⟩) m m) W') : Eff P E ⟨d, .buildSlice t m ps, ty, pos, af, g⟩ W K :=
  .inl ⟨.slice (some ⟨W.heap.size, 0, none⟩) m m, W.alloc (.cells cs e (0, 0)), by
      show (do pure (.value (← Instr.buildSlice t m (ps.map fun (i, x) => (i, evE E x)))) : Sem Next).run P W = _
      rw [hq]
      simp [hr W], h _ _ (hST.alloc _)⟩
theorem ST.store {A B : List (Nat × Obj)} {b : Nat} {cs : Array Value} {t : TypeId} (hST : ST dd F w W μ (A ++ (b, .cells cs t (0, 0)) :: B)) (cs' : Array Value) :
    ST dd F w (W.setRow b cs') μ (A ++ (b, .cells cs' t (0, 0)) :: B) := by
  have hb := (hST.box b _ (by simp : (b, Obj.cells cs t (0, 0)) ∈ A ++ (b, .cells cs t (0, 0)) :: B)).1
  refine hST.put ⟨rfl, rfl, rfl, Nat.le_refl _, by simp [World.setRow]⟩ (fun k hk => ?_) (setRow_heap W b cs cs' t (0, 0) hb)
  simp only [World.setRow, Array.getElem?_modify]
  rw [if_neg (fun e => hk e.symm)]
theorem run_storeBlock (P : Program) {W : World} {t : TypeId} {b off : Nat} {cs : Array Value} {T : TypeId} (v : Value) (hS : ∀ w, (sizeOf t).run P w = .ok v.cells.size w) (h1 : ∀ u ∈ v.cells.toList, u.oneCell' = true)
    (hb : W.heap[b]? = some (.cells cs T (0, 0))) (hl : off + v.cells.size ≤ cs.size) : (Instr.storeAt t (.pointer (some ⟨b, off, none⟩)) v).run P W = .ok () (W.setRow b (cs.toList.take off ++ v.cells.toList ++ cs.toList.drop (off + v.cells.size)).toArray) := by
  have := run_storeCells_at (P := P) b off T v.cells.toList 0 cs W hb (by simpa using hl) h1
  simp [Instr.storeAt, Instr.sureAddr, storeVar, hS W]
  simpa using this
theorem E_store {K : Value → World → Prop} (A : List (Nat × Obj)) {B : List (Nat × Obj)} {t : TypeId} {x y : Operand} (v : Value) {b off : Nat} {cs : Array Value} {T : TypeId} (cs' : Array Value) (hST : ST dd F w W μ (A ++ (b, .cells cs T (0, 0)) :: B))
    (hx : evE E x = .pointer (some ⟨b, off, none⟩)) (hy : evE E y = v) (hS : ∀ w, (sizeOf t).run P w = .ok v.cells.size w)
    (h1 : ∀ u ∈ v.cells.toList, u.oneCell' = true) (hl : off + v.cells.size ≤ cs.size) (hc : (cs.toList.take off ++ v.cells.toList ++ cs.toList.drop (off + v.cells.size)).toArray = cs')
    (h : ∀ W', ST dd F w W' μ (A ++ (b, .cells cs' T (0, 0)) :: B) → K undef W') : Eff P E ⟨d, .store t x y, ty, pos, af, g⟩ W K :=
  .inr (.inl ⟨W.setRow b cs', by
      show (do Instr.storeAt t (evE E x) (evE E y); pure .skip : Sem Next).run P W = _
      have hb := (hST.box b _ (by simp : (b, Obj.cells cs T (0, 0)) ∈ A ++ (b, .cells cs T (0, 0)) :: B)).1
      rw [hx, hy]
      simp only [Sem.run_bind, run_storeBlock P v hS h1 hb hl, hc, Result.andThen_ok, Sem.run_pure], h _ (hST.store cs')⟩)
def Gives (dd : Bool) (P : Program) (f : FuncId) (args : List Value) (w : World) (v : Value) : Prop := Calls P f args.toArray w fun e w' => e = .returned v ∧ Ex dd w w'
def GivesSl (dd : Bool) {α : Type} (P : Program) (f : FuncId) (args : List Value) (w : World) (R : Rep α) (k : Nat) (l : List α) : Prop :=
  Calls P f args.toArray w fun e w' => ∃ v, e = .returned v ∧ Ex dd w w' ∧ Sl R k (hp w') v l ∧ Fr w.heap.size v
theorem run_callF {f : FuncId} {fv : Operand} {as : Array Operand} {ats : Array TypeId} {caps : Array Value} {args : Array Value}
    (hf : evE E fv = .func (.func f) #[] caps) (he : ∀ args w, (callFunc f args).run P w = .ok (.enter f args) w) (ha : as.map (evE E) ++ caps = args) :
    (execOp (evE E) ⟨d, .call ⟨.value fv, as, ats⟩, ty, pos, af, g⟩).run P W = .ok (.enter f args) W := by
  show (do let d ← resolve (evE E) ⟨.value fv, as, ats⟩ ty; invoke d.target d.args : Sem Next).run P W = _
  rw [← ha]
  simp only [resolve, hf, Deferred.ofValue, Sem.run_bind, Sem.run_pure, Result.andThen_ok, invoke]
  simp [he]
theorem E_calls {K : Value → World → Prop} {f : FuncId} {fv : Operand} {as : Array Operand} {ats : Array TypeId} {caps : Array Value} {args : Array Value}
    (hf : evE E fv = .func (.func f) #[] caps) (he : ∀ args w, (callFunc f args).run P w = .ok (.enter f args) w) (ha : as.map (evE E) ++ caps = args)
    (h : Calls P f args W fun e w' => ∃ v, e = .returned v ∧ K v w') : Eff P E ⟨d, .call ⟨.value fv, as, ats⟩, ty, pos, af, g⟩ W K :=
  .inr (.inr ⟨f, args, run_callF hf he ha, h⟩)
theorem E_gives {K : Value → World → Prop} {f : FuncId} {fv : Operand} {as : Array Operand} {ats : Array TypeId} {args : List Value} {v : Value} (hST : ST dd F w W μ L)
    (hf : evE E fv = .func (.func f) #[] #[]) (he : ∀ args w, (callFunc f args).run P w = .ok (.enter f args) w) (ha : (as.map (evE E) ++ (#[] : Array Value)) = args.toArray) (hc : Gives dd P f args W v)
    (h : ∀ W', ST dd F w W' μ L → K v W') : Eff P E ⟨d, .call ⟨.value fv, as, ats⟩, ty, pos, af, g⟩ W K :=
  E_calls hf he ha (Calls.mono hc (fun _ _ ⟨h1, h2⟩ => ⟨v, h1, h _ (hST.call0 h2)⟩))
def Row {α : Type} (e : TypeId) (enc : α → List Value) (k : Nat) (v : Value) (l : List α) (R : List (Nat × Obj)) : Prop :=
  (v = .slice none 0 0 ∧ l = [] ∧ R = []) ∨
  ∃ g cap cur, v = .slice (some ⟨g, 0, none⟩) l.length cap ∧ R = [(g, .cells cur e (0, 0))] ∧ l.length ≤ cap ∧ cap ≤ maxLen ∧ cur.size = cap * k ∧ cur.toList.take (l.length * k) = (l.map enc).flatten
theorem flat_length {α : Type} {enc : α → List Value} {k : Nat} (hk : ∀ x, (enc x).length = k) : ∀ l : List α, (l.map enc).flatten.length = l.length * k
  | [] => by simp
  | x :: l => by simp [flat_length hk l, hk x, Nat.add_mul, Nat.add_comm]
theorem flat_get {α : Type} {enc : α → List Value} {k : Nat} (hk : ∀ x, (enc x).length = k) : ∀ (l : List α) (i : Nat) (x : α), l[i]? = some x → ∀ j y, (enc x)[j]? = some y → (l.map enc).flatten[i * k + j]? = some y
  | [], i, x, h => by cases h
  | z :: l, 0, x, h => by
    simp at h; subst h
    intro j y hy
    have hj : j < (enc z).length := (List.getElem?_eq_some_iff.1 hy).1
    simp [List.getElem?_append, hj]
    rw [List.getElem?_eq_getElem hj] at hy
    simpa using hy
  | z :: l, i + 1, x, h => by
    intro j y hy
    have := flat_get hk l i x (by simpa using h) j y hy
    simp only [List.map_cons, List.flatten_cons]
    rw [List.getElem?_append_right (by rw [hk z]; have := Nat.le_mul_of_pos_left k (Nat.succ_pos i); simp [Nat.add_mul] at *; omega), hk z]
    rw [show (i + 1) * k + j - k = i * k + j by rw [Nat.add_mul]; omega]
    exact this
theorem flat_inv {α : Type} {enc : α → List Value} {k : Nat} (hk : ∀ x, (enc x).length = k) : ∀ (l : List α) (q : Nat) (y : Value), (l.map enc).flatten[q]? = some y → ∃ i x j, l[i]? = some x ∧ (enc x)[j]? = some y ∧ q = i * k + j
  | [], q, y, h => by simp at h
  | z :: l, q, y, h => by
    simp only [List.map_cons, List.flatten_cons] at h
    by_cases hq : q < k
    · rw [List.getElem?_append_left (by rw [hk]; exact hq)] at h
      exact ⟨0, z, q, rfl, h, by simp⟩
    · rw [List.getElem?_append_right (by rw [hk]; omega), hk] at h
      obtain ⟨i, x, j, h1, h2, h3⟩ := flat_inv hk l (q - k) y h
      exact ⟨i + 1, x, j, by simpa using h1, h2, by rw [Nat.add_mul]; omega⟩
theorem Row.nil {α : Type} (e : TypeId) (enc : α → List Value) (k : Nat) : Row e enc k (.slice none 0 0) [] [] := .inl ⟨rfl, rfl, rfl⟩
theorem Row.sl {α : Type} {e : TypeId} {enc : α → List Value} {k : Nat} {v : Value} {l : List α} {R : List (Nat × Obj)} {m : Mem} (h : Row e enc k v l R) (hk : ∀ x, (enc x).length = k) (hm : ∀ b o, (b, o) ∈ R → m b = some o) : Sl (Pl enc) k m v l := by
  rcases h with ⟨rfl, rfl, rfl⟩ | ⟨g, cap, cur, rfl, rfl, h1, h2, h3, h4⟩
  · exact Sl.nil _ _ _
  · refine ⟨_, cap, rfl, h1, h2, fun _ => ⟨g, 0, cur, e, (0, 0), rfl, hm _ _ (by simp), fun i x hx => ⟨enc x, hk x, rfl, fun j y hy => ?_⟩⟩⟩
    have := flat_get hk l i x hx j y hy
    rw [← h4] at this
    have hlt : i * k + j < l.length * k := by
      have := (List.getElem?_eq_some_iff.1 this).1
      simp at this; omega
    rw [List.getElem?_take_of_lt hlt] at this
    simpa using this
theorem Row.len {α : Type} {e : TypeId} {enc : α → List Value} {k : Nat} {v : Value} {l : List α} {R : List (Nat × Obj)} (h : Row e enc k v l R) : l.length ≤ 9223372036854775807 := by
  rcases h with ⟨rfl, rfl, rfl⟩ | ⟨g, cap, cur, rfl, rfl, h1, h2, h3, h4⟩
  · simp
  · unfold maxLen at h2; omega
theorem Row.fr {α : Type} {e : TypeId} {enc : α → List Value} {k : Nat} {v : Value} {l : List α} {R X Y : List (Nat × Obj)} (h : Row e enc k v l R) (hST : ST dd NoF w W μ (X ++ (R ++ Y))) : Fr w.heap.size v := by
  rcases h with ⟨rfl, rfl, rfl⟩ | ⟨g, cap, cur, rfl, rfl, h1, h2, h3, h4⟩
  · exact Fr.nil _
  · intro b hb
    simp [Value.ownBlock] at hb
    subst hb
    rcases (hST.box g _ (by simp; exact .inr (.inl rfl))).2.2 with h | h
    · exact h
    · exact h.elim
theorem Row.lit {α : Type} {e : TypeId} {enc : α → List Value} {k b m : Nat} {l : List α} {cs : Array Value} (hm : l.length = m) (hM : m ≤ maxLen) (hc : cs.toList = (l.map enc).flatten) (hs : cs.size = m * k) : Row e enc k (.slice (some ⟨b, 0, none⟩) m m) l [(b, .cells cs e (0, 0))] := by
  subst hm
  refine .inr ⟨b, _, cs, rfl, rfl, Nat.le_refl _, hM, hs, ?_⟩
  rw [← hc, ← hs]
  exact List.take_of_length_le (by rw [Array.length_toList]; exact Nat.le_refl _)
def appB {α : Type} (by_ : Nat) (l m : List α) : Option (List α) := if (l.length + m.length) * by_ ≤ 140737488355328 ∧ l.length + m.length ≤ maxLen then some (l ++ m) else none
theorem E_append {K : Value → World → Prop} {α : Type} {e t : TypeId} {enc : α → List Value} {k by_ : Nat} {z v vs : Value} {l m r : List α} {R : List (Nat × Obj)} (X : List (Nat × Obj)) {Y : List (Nat × Obj)} {x y : Operand} {i : TypeInfo}
    (hST : ST dd F w W μ (X ++ (R ++ Y))) (hk : ∀ x, (enc x).length = k) (hk0 : 0 < k) (h1 : ∀ x, ∀ u ∈ enc x, u.oneCell' = true) (ht : P.underlying t = some (.slice e)) (hi : P.info? e = some i) (hz : i.zero = some z) (hzs : z.cells.size = k) (hsz : i.size = k) (hby : i.bytes = by_)
    (hx : evE E x = v) (hy : evE E y = vs) (hR : Row e enc k v l R) (hs : Sl (Pl enc) k (hp W) vs m) (hb : appB by_ l m = some r)
    (h : ∀ W' v' R', ST dd F w W' μ (X ++ (R' ++ Y)) → Row e enc k v' r R' → K v' W') : Eff P E ⟨d, .call ⟨.builtin .append, #[x, y], #[t, t]⟩, ty, pos, af, g⟩ W K := by
  unfold appB at hb
  split at hb
  case isFalse => cases hb
  rename_i hbb
  cases hb
  have hrun : ∀ (V : Value) (W' : World), (Builtin.append_ #[t, t] ty #[v, vs]).run P W = .ok V W' → (execOp (evE E) ⟨d, .call ⟨.builtin .append, #[x, y], #[t, t]⟩, ty, pos, af, g⟩).run P W = .ok (.value V) W' := by
    intro V W' hV
    show (do let d ← resolve (evE E) ⟨.builtin .append, #[x, y], #[t, t]⟩ ty; invoke d.target d.args : Sem Next).run P W = _
    simp [resolve, invoke, builtin, hx, hy, hV]
  obtain ⟨A, c, rfl, hc1, hc2, hc3⟩ := hs
  have hown : W.ownsRow 0 e k v l.length (l.map enc).flatten := by
    refine ⟨flat_length hk l, ?_⟩
    rcases hR with ⟨rfl, rfl, rfl⟩ | ⟨g, cap, cur, rfl, rfl, h1, h2, h3, h4⟩
    · exact .inl ⟨rfl, rfl⟩
    · exact .inr ⟨g, cap, cur, rfl, Nat.zero_le _, (hST.box g _ (by simp)).1, h1, h2, h3, h4⟩
  have hsrc : m.length = 0 ∨ ∃ ad, A = some ad ∧ ∀ j u, (m.map enc).flatten[j]? = some u → W.cell? (ad.add j) = some u := by
    rcases Nat.eq_zero_or_pos m.length with h0 | h0
    · exact .inl h0
    · obtain ⟨b, off, cs, T, fr, rfl, h6, h7⟩ := hc3 h0
      refine .inr ⟨⟨b, off, none⟩, rfl, fun j u hu => ?_⟩
      obtain ⟨i, x, q, h8, h9, rfl⟩ := flat_inv hk m j u hu
      obtain ⟨ys, _, h11, h12⟩ := h7 i x h8
      cases h11
      rw [Addr.add_lit, cell_of_row W b (off + (i * k + q)) cs T fr h6, ← Nat.add_assoc]
      exact h12 q u h9
  have hone : ∀ u ∈ (m.map enc).flatten, u.oneCell' = true := by
    intro u hu
    obtain ⟨ys, hys, hu'⟩ := List.mem_flatten.1 hu
    obtain ⟨x, _, rfl⟩ := List.mem_map.1 hys
    exact h1 x u hu'
  by_cases hm0 : m.length = 0
  · have hm : m = [] := List.eq_nil_of_length_eq_zero hm0
    subst hm
    have hr : (Builtin.append_ #[t, t] ty #[v, .slice A 0 c]).run P W = .ok v W := by
      rcases hown.2 with ⟨rfl, h0⟩ | ⟨g, cap, cur, rfl, _, hg, hnc, _, hcs, _⟩
      · cases A with
        | none => simp [Builtin.append_, run_underlying ht, sizeOf, typeInfo, hi, Builtin.lenOf, Builtin.firstCells]
        | some ad => simp [Builtin.append_, run_underlying ht, sizeOf, typeInfo, hi, Builtin.lenOf, Builtin.firstCells, loadCells, loadCellsFrom]
      · cases A with
        | none => simp [Builtin.append_, run_underlying ht, sizeOf, typeInfo, hi, Builtin.lenOf, Builtin.firstCells, hnc, storeCells]
        | some ad => simp [Builtin.append_, run_underlying ht, sizeOf, typeInfo, hi, Builtin.lenOf, Builtin.firstCells, loadCells, loadCellsFrom, hnc, storeCells]
    exact .inl ⟨v, W, hrun _ _ (by simpa using hr), by simpa using h W v R hST (by simpa using hR)⟩
  rcases hsrc with h0 | ⟨ad, rfl, hcells⟩
  · exact absurd h0 hm0
  obtain ⟨v', W', hr, hown', hgrow, hnil, hwhere⟩ := run_append_own_at (P := P) W 0 t ty e i z k by_ ht hi hz hsz hby hzs hk0 v l.length (l.map enc).flatten hown ad m.length c (m.map enc).flatten (flat_length hk m) hcells hone hbb.2 hbb.1 (Nat.zero_le _)
  have hdr := run_drawn _ _ _ _ hr
  refine .inl ⟨v', W', hrun _ _ hr, ?_⟩
  have hlen : (l ++ m).length = l.length + m.length := by simp
  rcases hown'.2 with ⟨_, h0⟩ | ⟨g', cap', cur', rfl, _, hg', hnc', hcm', hcs', htk'⟩
  · omega
  have hrow' : Row e enc k (.slice (some ⟨g', 0, none⟩) (l.length + m.length) cap') (l ++ m) [(g', .cells cur' e (0, 0))] :=
    .inr ⟨g', cap', cur', by rw [hlen], rfl, by omega, hcm', hcs', by rw [hlen, htk']; simp⟩
  refine h W' _ _ ?_ hrow'
  have hnd := hST.nd
  rcases hR with ⟨rfl, rfl, rfl⟩ | ⟨g, cap, cur, rfl, rfl, q1, q2, q3, q4⟩
  · -- nil: a new block
    have hnew : W.heap.size ≤ g' := by
      rcases hwhere with h | h <;> simp [Value.ownBlock] at h
      omega
    have hex : Ex dd W W' := ⟨hgrow.os, hgrow.tape, hgrow.output, Low.of hdr, hgrow.size, fun b hb => hgrow.block b hb (by simp [Value.ownBlock])⟩
    have h1 := hST.call0 hex
    refine ⟨h1.os, h1.tape, h1.output, h1.drawn, h1.size, h1.old, h1.mem, fun b o hb => ?_, ?_⟩
    · simp only [List.mem_append, List.mem_singleton] at hb
      rcases hb with hb | hb | hb
      · exact h1.box b o (by simp [hb])
      · cases hb
        refine ⟨hg', ?_, .inl (Nat.le_trans hST.size hnew)⟩
        cases hm : μ g' with
        | none => rfl
        | some x => have := hST.mu_lt hm; omega
      · exact h1.box b o (by simp [hb])
    · simp only [List.nil_append, List.map_append, List.map_cons, List.singleton_append] at hnd ⊢
      refine (List.Perm.nodup_iff List.perm_middle).2 (List.nodup_cons.2 ⟨fun hm => ?_, hnd⟩)
      rw [← List.map_append] at hm
      obtain ⟨⟨b, o⟩, hb, e1⟩ := List.mem_map.1 hm
      have hb' : (b, o) ∈ X ++ ([] ++ Y) := by simpa using hb
      have := hST.box_lt hb'
      simp at e1
      omega
  · by_cases hgg : g' = g
    · subst hgg
      have h0 : ST dd F w W μ (X ++ (g', Obj.cells cur e (0, 0)) :: Y) := by simpa using hST
      have hold : ∀ b, b < W.heap.size → b ≠ g' → W'.heap[b]? = W.heap[b]? := fun b hb hne => hgrow.block b hb (by simp [Value.ownBlock]; exact hne)
      have hnd0 := h0.nd
      simp only [List.map_append, List.map_cons] at hnd0
      have hne : ∀ b o, (b, o) ∈ X ++ Y → b ≠ g' := fun b o hb e1 => by
        subst e1
        rcases List.mem_append.1 hb with hb | hb
        · exact (List.nodup_append.1 hnd0).2.2 b (List.mem_map.2 ⟨_, hb, rfl⟩) b (by simp) rfl
        · exact (List.nodup_cons.1 (List.nodup_append.1 hnd0).2.1).1 (List.mem_map.2 ⟨_, hb, rfl⟩)
      have hgb := h0.box g' (Obj.cells cur e (0, 0)) (by simp)
      refine ⟨hgrow.os.trans hST.os, hgrow.tape.trans hST.tape, hgrow.output.trans hST.output, Low.trans hST.drawn (Low.of hdr), Nat.le_trans hST.size hgrow.size, fun b hb hF => ?_, fun b o hb => ?_, fun b o hb => ?_, by simpa using hnd0⟩
      · rw [hold b (Nat.lt_of_lt_of_le hb hST.size) (fun e1 => by subst e1; rcases hgb.2.2 with h | h; omega; exact hF h)]
        exact hST.old b hb hF
      · rw [hold b (hST.mu_lt hb) (fun e1 => by subst e1; rw [hgb.2.1] at hb; cases hb)]
        exact hST.mem b o hb
      · simp only [List.mem_append, List.mem_singleton] at hb
        rcases hb with hb | hb | hb
        · obtain ⟨r1, r2⟩ := hST.box b o (by simp [hb])
          exact ⟨by rw [hold b (lt_of_heap r1) (hne b o (by simp [hb]))]; exact r1, r2⟩
        · cases hb; exact ⟨hg', hgb.2⟩
        · obtain ⟨r1, r2⟩ := hST.box b o (by simp [hb])
          exact ⟨by rw [hold b (lt_of_heap r1) (hne b o (by simp [hb]))]; exact r1, r2⟩
    · have hnew : W.heap.size ≤ g' := by
        rcases hwhere with h | h <;> simp [Value.ownBlock] at h
        · exact absurd h hgg
        · omega
      have h0 : ST dd F w W μ (X ++ (g, Obj.cells cur e (0, 0)) :: Y) := by simpa using hST
      have hgb := h0.box g (Obj.cells cur e (0, 0)) (by simp)
      have hnd0 := h0.nd
      simp only [List.map_append, List.map_cons] at hnd0
      have hne : ∀ b o, (b, o) ∈ X ++ Y → b ≠ g := fun b o hb e1 => by
        subst e1
        rcases List.mem_append.1 hb with hb | hb
        · exact (List.nodup_append.1 hnd0).2.2 b (List.mem_map.2 ⟨_, hb, rfl⟩) b (by simp) rfl
        · exact (List.nodup_cons.1 (List.nodup_append.1 hnd0).2.1).1 (List.mem_map.2 ⟨_, hb, rfl⟩)
      have hold : ∀ b, b < W.heap.size → b ≠ g → W'.heap[b]? = W.heap[b]? := fun b hb hne => hgrow.block b hb (by simp [Value.ownBlock]; exact hne)
      refine ⟨hgrow.os.trans hST.os, hgrow.tape.trans hST.tape, hgrow.output.trans hST.output, Low.trans hST.drawn (Low.of hdr), Nat.le_trans hST.size hgrow.size, fun b hb hF => ?_, fun b o hb => ?_, fun b o hb => ?_, ?_⟩
      · rw [hold b (Nat.lt_of_lt_of_le hb hST.size) (fun e1 => by subst e1; rcases hgb.2.2 with h | h; omega; exact hF h)]
        exact hST.old b hb hF
      · rw [hold b (hST.mu_lt hb) (fun e1 => by subst e1; rw [hgb.2.1] at hb; cases hb)]
        exact hST.mem b o hb
      · simp only [List.mem_append, List.mem_singleton] at hb
        rcases hb with hb | hb | hb
        · obtain ⟨r1, r2⟩ := hST.box b o (by simp [hb])
          exact ⟨by rw [hold b (lt_of_heap r1) (hne b o (by simp [hb]))]; exact r1, r2⟩
        · cases hb
          refine ⟨hg', ?_, .inl (Nat.le_trans hST.size hnew)⟩
          cases hm : μ g' with
          | none => rfl
          | some x => have := hST.mu_lt hm; omega
        · obtain ⟨r1, r2⟩ := hST.box b o (by simp [hb])
          exact ⟨by rw [hold b (lt_of_heap r1) (hne b o (by simp [hb]))]; exact r1, r2⟩
      · have hXY : (X.map (·.1) ++ Y.map (·.1)).Nodup := (List.nodup_cons.1 ((List.Perm.nodup_iff List.perm_middle).1 hnd0)).2
        simp only [List.map_append, List.map_cons, List.singleton_append]
        refine (List.Perm.nodup_iff List.perm_middle).2 (List.nodup_cons.2 ⟨fun hm => ?_, hXY⟩)
        rw [← List.map_append] at hm
        obtain ⟨⟨b, o⟩, hb, e1⟩ := List.mem_map.1 hm
        have := hST.box_lt (b := b) (o := o) (by rcases List.mem_append.1 hb with h | h <;> simp [h])
        simp at e1
        omega
end
end Go.Proofs.Ytfjdjbdnnoijgaa
