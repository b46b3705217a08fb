/- a part of a proof of MergeThrees -/
import Derived.Test.YtfjdjbdnnoijgaaGreatRtN
set_option linter.all false
namespace Go.Proofs.YtfjdjbdnnoijgaaGreat
open Go.RowKit
section
variable {P : Program} {n : Nat} {Q : Post} {E : Nat → Value} {W : World} {ops : Array Oper} {rest : List Oper}
variable {dd : Bool} {α : Type} {enc : α → List Value} {k : Nat} {μ : Mem} {v : Value}
variable {d : Option Nat} {ty : TypeId} {pos : String} {af : Array Edge} {g : Option (Nat × Bool)} {F : Nat → Prop} {w : World} {L : List (Nat × Obj)}
def SlR (enc : α → List Value) (k : Nat) : Rep (List α) := fun μ ys x => ∃ v, ys = [v] ∧ Sl (Pl enc) k μ v x
theorem SlR.mono (enc : α → List Value) (k : Nat) : MonoR (SlR enc k) := fun _ _ _ _ hs ⟨v, h1, h2⟩ => ⟨v, h1, h2.mono (Pl.mono _) hs⟩
inductive SlAll (enc : α → List Value) (k : Nat) (μ : Mem) : List Value → List (List α) → Prop
  | nil : SlAll enc k μ [] []
  | cons {v : Value} {x : List α} {vs : List Value} {l : List (List α)} : Sl (Pl enc) k μ v x → SlAll enc k μ vs l → SlAll enc k μ (v :: vs) (x :: l)
theorem SlAll.length {vs : List Value} {l : List (List α)} (h : SlAll enc k μ vs l) : vs.length = l.length := by
  induction h with
  | nil => rfl
  | cons _ _ ih => simp [ih]
theorem SlAll.get {vs : List Value} {l : List (List α)} (h : SlAll enc k μ vs l) : ∀ (i : Nat) (x : List α), l[i]? = some x → ∃ v, vs[i]? = some v ∧ Sl (Pl enc) k μ v x := by
  induction h with
  | nil => intro i x hx; simp at hx
  | cons h1 _ ih =>
    intro i x hx
    cases i with
    | zero => simp at hx; subst hx; exact ⟨_, rfl, h1⟩
    | succ i => simpa using ih i x (by simpa using hx)
theorem SlR.lit {b m : Nat} {vs : List Value} {e : TypeId} {l : List (List α)} (hm : l.length = m) (hM : m ≤ maxLen) (hb : μ b = some (.cells vs.toArray e (0, 0))) (h : SlAll enc k μ vs l) : Sl (SlR enc k) 1 μ (.slice (some ⟨b, 0, none⟩) m m) l := by
  subst hm
  refine ⟨_, _, rfl, Nat.le_refl _, hM, fun _ => ⟨b, 0, _, _, _, rfl, hb, fun i x hx => ?_⟩⟩
  obtain ⟨v, h1, h2⟩ := h.get i x hx
  refine ⟨[v], rfl, ⟨v, rfl, h2⟩, fun j y hy => ?_⟩
  cases j with
  | zero => simp at hy; subst hy; simpa using h1
  | succ j => simp at hy
theorem R_indexN {k2 : Nat} {t e : TypeId} {x ix : Operand} {ik : IntKind} {i : Int} {l : List (List α)} {x0 : List α}
    (ht : P.underlying t = some (.slice e)) (he : ∀ w, (sizeOf e).run P w = .ok 1 w) (hx : evE E x = v) (hi : evE E ix = .int ik i) (hs : Sl (SlR enc k2) 1 μ v l) (h0 : 0 ≤ i) (hl : l[i.toNat]? = some x0) :
    ∃ p, (∃ v0, At μ p [v0] ∧ Sl (Pl enc) k2 μ v0 x0) ∧ ∀ W, Runs P E ⟨d, .indexAddr t x ix, ty, pos, af, g⟩ W p W := by
  obtain ⟨p, ys, h1, ⟨v0, rfl, h2⟩, h3, h4⟩ := R_index (d := d) (ty := ty) (pos := pos) (af := af) (g := g) ht he hx hi hs h0 hl
  exact ⟨p, ⟨v0, h3, h2⟩, h4⟩
theorem R_capNil {x : Operand} {t e : TypeId} (ht : P.underlying t = some (.slice e)) (hx : evE E x = .slice none 0 0) : Runs P E ⟨d, .call ⟨.builtin .cap, #[x], #[t]⟩, ty, pos, af, g⟩ W (.int .i64 0) W := by
  show (do let d ← resolve (evE E) ⟨.builtin .cap, #[x], #[t]⟩ ty; invoke d.target d.args : Sem Next).run P W = _
  simp [resolve, invoke, builtin, Builtin.cap_, run_underlying ht, hx, goInt]
theorem R_sliceNil {t e : TypeId} {x ih : Operand} {ik : IntKind} (ht : P.underlying t = some (.slice e)) (he : ∀ w, (sizeOf e).run P w = .ok k w) (hx : evE E x = .slice none 0 0) (hi : evE E ih = .int ik 0) :
    Runs P E ⟨d, .slice t x none (some ih) none, ty, pos, af, g⟩ W (.slice none 0 0) W := by
  show (do pure (.value (← Instr.sliceAt t (evE E x) none (some (evE E ih)) none)) : Sem Next).run P W = _
  rw [hx, hi]
  simp [Instr.sliceAt, Instr.slice, Instr.sliceBounds, Instr.sliceBound, asIntOf, run_underlying ht, he W]
theorem R_fieldV1 {t : TypeId} {x : Operand} {f : Nat} {fs : Array Field} {fd : Field} {cs : Array Value} (ht : P.underlying t = some (.struct fs)) (hf : fs[f]? = some fd) (hA : ∀ w, (isAgg fd.type).run P w = .ok false w) (hx : evE E x = .agg cs) (hc : cs.toList[fd.offset]? = some v) :
    Runs P E ⟨d, .field t x f, ty, pos, af, g⟩ W v W := by
  show (do pure (.value (← Instr.field t (evE E x) f)) : Sem Next).run P W = _
  rw [hx]
  rw [Array.getElem?_toList] at hc
  simp [Instr.field, run_underlying ht, hf, part, asAgg, hA W, hc]
def makeB {α : Type} (by_ : Nat) (z : α) (n : Int) : Option (List α) := if 0 < n ∧ n * by_ ≤ 140737488355328 ∧ n ≤ (maxLen : Int) then some (List.replicate n.toNat z) else none
theorem run_append_make (t ti ty e : TypeId) (i : TypeInfo) (z : Value) (ht : P.underlying t = some (.slice e)) (hti : P.underlying ti = some (.int .i64)) (hi : P.info? e = some i) (hz : i.zero = some z)
    (n : Nat) (h0 : 0 < n) (hsz : 0 < i.size) (h63 : n ≤ 9223372036854775807) (h48 : n * i.bytes ≤ 140737488355328) (W : World) :
    (Builtin.append_ #[t, ti] ty #[.slice none 0 0, .int .i64 (n : Int)]).run P W =
      .ok (.slice (some ⟨W.heap.size, 0, none⟩) n (grownCap W n 0 e)) (W.drew.alloc (.cells (Builtin.zeroCells z.cells n ++ Builtin.zeroCells z.cells (grownCap W n 0 e - n)) e)) := by
  have hw : IntKind.i64.wrap (n : Int) = (n : Int) := by unfold IntKind.wrap; simp [IntKind.bits, IntKind.signed]; omega
  have h1 : ¬ ((n : Int) < 0) := by omega
  have h48'' : ¬ (281474976710656 < (n : Int) * i.bytes) := by
    have := Int.ofNat_le.2 h48
    rw [Int.natCast_mul] at this
    omega
  have hn0 : ¬ (n * i.size = 0) := fun h => by rcases Nat.mul_eq_zero.1 h with h | h <;> omega
  have hn : n ≠ 0 := by omega
  have hs0 : i.size ≠ 0 := by omega
  have h63' : ¬ (9223372036854775807 < (n : Int)) := by omega
  have hnc : ¬ (281474976710656 < Builtin.nextslicecap n 0 * i.bytes) := by rw [nextslicecap_zero h0]; omega
  simp [Builtin.append_, run_underlying ht, run_underlying hti, sizeOf, typeInfo, zeroValue, hi, hz, asInt, asIntOf, hw, h1, h48'', hn, h63', hnc, Question.forced, run_firstCells_none, newRow, grownCap]
  exact fun h => absurd h hn0
theorem E_appendMake {K : Value → World → Prop} {α : Type} {e t ti : TypeId} {enc : α → List Value} {k by_ : Nat} {zv : Value} {n : Int} {z : α} {r : List α} (X : List (Nat × Obj)) {Y : List (Nat × Obj)} {x y : Operand} {i : TypeInfo}
    (hST : ST dd F w W μ (X ++ Y)) (hk : ∀ x, (enc x).length = k) (hk0 : 0 < k) (ht : P.underlying t = some (.slice e)) (hti : P.underlying ti = some (.int .i64)) (hi : P.info? e = some i) (hz : i.zero = some zv) (hsz : i.size = k) (hby : i.bytes = by_) (hc : zv.cells = (enc z).toArray)
    (hx : evE E x = .slice none 0 0) (hy : evE E y = .int .i64 n) (hb : makeB by_ z n = some r)
    (h : ∀ W' v' R', ST dd F w W' μ (X ++ (R' ++ Y)) → Row e enc k v' r R' → K v' W') : Eff P E ⟨d, .call ⟨.builtin .append, #[x, y], #[t, ti]⟩, ty, pos, af, g⟩ W K := by
  unfold makeB at hb
  split at hb
  case isFalse => cases hb
  rename_i hbb
  cases hb
  obtain ⟨n, rfl⟩ : ∃ m : Nat, n = (m : Int) := ⟨n.toNat, by omega⟩
  have hn0 : 0 < n := by omega
  subst hsz; subst hby
  have hM : n ≤ maxLen := by omega
  have h63 : n ≤ 9223372036854775807 := by simp only [maxLen] at hM; omega
  have h48 : n * i.bytes ≤ 140737488355328 := Int.ofNat_le.1 (by rw [Int.natCast_mul]; exact hbb.2.1)
  have hr := run_append_make (P := P) t ti ty e i zv ht hti hi hz n hn0 hk0 h63 h48 W
  have hrun : (execOp (evE E) ⟨d, .call ⟨.builtin .append, #[x, y], #[t, ti]⟩, ty, pos, af, g⟩).run P W = .ok (.value (.slice (some ⟨W.heap.size, 0, none⟩) n (grownCap W n 0 e))) (W.drew.alloc (.cells (Builtin.zeroCells zv.cells n ++ Builtin.zeroCells zv.cells (grownCap W n 0 e - n)) e)) := by
    show (do let d ← resolve (evE E) ⟨.builtin .append, #[x, y], #[t, ti]⟩ ty; invoke d.target d.args : Sem Next).run P W = _
    simp [resolve, invoke, builtin, hx, hy, hr]
  have hdr := run_drawn _ _ _ _ hr
  refine .inl ⟨_, _, hrun, ?_⟩
  have hge := grownCap_ge W n 0 e
  have hcm : grownCap W n 0 e ≤ maxLen := grownCap_le_maxLen W n 0 e hM
  have hzl : ∀ m, (Builtin.zeroCells zv.cells m).toList = (List.replicate m (enc z)).flatten := fun m => by rw [hc, zeroCells_list]
  have hzk : zv.cells.size = i.size := by rw [hc, List.size_toArray, hk]
  have hrow' : Row e enc i.size (.slice (some ⟨W.heap.size, 0, none⟩) n (grownCap W n 0 e)) (List.replicate n z) [(W.heap.size, .cells (Builtin.zeroCells zv.cells n ++ Builtin.zeroCells zv.cells (grownCap W n 0 e - n)) e (0, 0))] := by
    refine .inr ⟨W.heap.size, grownCap W n 0 e, _, by rw [List.length_replicate], rfl, by simpa using hge, hcm, ?_, ?_⟩
    · simp only [Array.size_append, size_zeroCells, hzk, ← Nat.add_mul]
      congr 1
      omega
    · have e1 : (Builtin.zeroCells zv.cells n).toList.length = n * i.size := by rw [Array.length_toList, size_zeroCells, hzk]
      rw [List.length_replicate, Array.toList_append, ← e1, List.take_left, hzl, List.map_replicate]
  refine h _ _ _ ?_ hrow'
  have hex : Ex dd W (W.drew.alloc (.cells (Builtin.zeroCells zv.cells n ++ Builtin.zeroCells zv.cells (grownCap W n 0 e - n)) e)) := ⟨rfl, rfl, rfl, Low.of hdr, by simp, fun b hb => heap_alloc_old W.drew _ hb⟩
  have h1 := hST.call0 hex
  have hnd := h1.nd
  refine ⟨h1.os, h1.tape, h1.output, h1.drawn, h1.size, h1.old, h1.mem, fun b o hb => ?_, ?_⟩
  · simp only [List.mem_append, List.mem_singleton] at hb
    rcases hb with hb | hb | hb
    · exact h1.box b o (by simp [hb])
    · cases hb
      refine ⟨heap_alloc_new W.drew _, ?_, .inl hST.size⟩
      cases hm : μ W.heap.size with
      | none => rfl
      | some x => have := hST.mu_lt hm; omega
    · exact h1.box b o (by simp [hb])
  · simp only [List.map_append, List.map_cons, List.map_nil, List.singleton_append] at hnd ⊢
    refine (List.Perm.nodup_iff List.perm_middle).2 (List.nodup_cons.2 ⟨fun hm => ?_, hnd⟩)
    rw [← List.map_append] at hm
    obtain ⟨⟨b, o⟩, hb, e1⟩ := List.mem_map.1 hm
    have := hST.box_lt hb
    simp at e1
    omega
end
section
variable {P : Program} {n : Nat} {Q : Post} {E : Nat → Value} {W : World} {ops : Array Oper} {rest : List Oper}
theorem LV {o : Oper} {dd : Nat} {v : Value} (hr : Runs P E o W v W) (h : LW P n ops Q rest (upd E dd v) W) (hw : Wanted n ops E o := by exact .inl rfl) (hd : o.dst = some dd := by rfl) (hn : dd < n := by decide) : LW P n ops Q (o :: rest) E W := LW_v hw hd hn hr h
theorem LE {o : Oper} {dd : Nat} (h : Eff P E o W fun v W' => LW P n ops Q rest (upd E dd v) W') (hw : Wanted n ops E o := by exact .inl rfl) (hd : o.dst = some dd := by rfl) (hn : dd < n := by decide) : LW P n ops Q (o :: rest) E W := LW_e hw hd hn h
theorem LQ {A : Value → Prop} {o : Oper} {dd : Nat} (hr : ∃ p, A p ∧ ∀ W, Runs P E o W p W) (h : ∀ p, A p → LW P n ops Q rest (upd E dd p) W) (hw : Wanted n ops E o := by exact .inl rfl) (hd : o.dst = some dd := by rfl) (hn : dd < n := by decide) : LW P n ops Q (o :: rest) E W := LW_q hw hd hn hr h
theorem PV {S : Array Bool → World → Prop} {fuel : Nat} {listed : Array Bool} {o : Oper} {dd : Nat} {v : Value} (i : Nat) (hi : ops[i]? = some o) (hS : S (listed.setIfInBounds i true) W) (hy : ∀ {W}, Runs P E o W v W) (h : PX P n ops Q S fuel (listed.setIfInBounds i true) (upd E dd v) W)
    (hk : okB ops listed i = true := by kernel_rfl) (hw : Wanted n ops E o := by exact .inl rfl) (hd : o.dst = some dd := by rfl) (hn : dd < n := by decide) (hm : ∀ l w, S (l.setIfInBounds i true) w → S l w := by exact fun _ _ h => h) : PX P n ops Q S (fuel + 1) listed E W :=
  PX_v i hi hk hw hd hn hm hS (fun _ _ _ _ => hy) h
end
end Go.Proofs.YtfjdjbdnnoijgaaGreat
