/- a part of a proof of ModelLeast -/
import Derived.Test.YtfjdjbdnnoijgaaRt5x2
set_option linter.all false
namespace Go.Proofs.Ytfjdjbdnnoijgaa
open Go.RowKit
variable {dd : Bool}
def encIk (k : IntKind) (x : Int) : List Value := [.int k x]
def encSk (x : ByteArray) : List Value := [.string x]
theorem oneI (k : IntKind) (x : Int) : ∀ u ∈ encIk k x, u.oneCell' = true := by intro u hu; simp [encIk] at hu; subst hu; rfl
theorem oneS (x : ByteArray) : ∀ u ∈ encSk x, u.oneCell' = true := by intro u hu; simp [encSk] at hu; subst hu; rfl
def zS : ByteArray := ⟨#[]⟩
def ltS (a b : ByteArray) : Bool := Op.bytesLess a.toList b.toList
@[irreducible] def FUEL : Nat := 18446744073709551616
theorem FUEL_eq : FUEL = 18446744073709551616 := by unfold FUEL; rfl
def idx {α : Type} (l : List α) (i : Int) : Option α := if 0 ≤ i then l[i.toNat]? else none
theorem idx_nonneg {α : Type} {l : List α} {i : Int} {x : α} (h : idx l i = some x) : 0 ≤ i := by
  unfold idx at h; split at h
  · assumption
  · cases h
theorem idx_get {α : Type} {l : List α} {i : Int} {x : α} (h : idx l i = some x) : l[i.toNat]? = some x := by
  unfold idx at h; split at h
  · exact h
  · cases h
theorem idx_nat {α : Type} (l : List α) (i : Nat) : idx l (i : Int) = l[i]? := by simp [idx]
def idxS (s : ByteArray) (i : Int) : Option UInt8 := if 0 ≤ i then s[i.toNat]? else none
theorem idxS_nonneg {s : ByteArray} {i : Int} {x : UInt8} (h : idxS s i = some x) : 0 ≤ i := by
  unfold idxS at h; split at h
  · assumption
  · cases h
theorem idxS_get {s : ByteArray} {i : Int} {x : UInt8} (h : idxS s i = some x) : s[i.toNat]? = some x := by
  unfold idxS at h; split at h
  · exact h
  · cases h
section
variable {F : Nat → Prop} {w W : World} {μ : Mem} {L L' : List (Nat × Obj)} {α : Type} {e : TypeId} {enc : α → List Value} {k : Nat} {v : Value} {l : List α} {R : List (Nat × Obj)}
theorem ST.at_ (h : ST dd F w W μ L) {b : Nat} {o : Obj} (hb : (b, o) ∈ L) : hp W b = some o := (h.box b o hb).1
theorem Row.slM (h : Row e enc k v l R) (hk : ∀ x, (enc x).length = k) (hST : ST dd F w W μ L) (hR : ∀ p, p ∈ R → p ∈ L) : Sl (Pl enc) k (hp W) v l :=
  h.sl hk (fun _ _ hb => hST.at_ (hR _ hb))
theorem Row.form (h : Row e enc k v l R) : ∃ A c, v = .slice A l.length c := by
  rcases h with ⟨rfl, rfl, rfl⟩ | ⟨g, cap, cur, rfl, rfl, h1, h2, h3, h4⟩
  · exact ⟨_, _, rfl⟩
  · exact ⟨_, _, rfl⟩
theorem Sl.form {R : Rep α} (h : Sl R k μ v l) : ∃ A c, v = .slice A l.length c := let ⟨A, c, h, _⟩ := h; ⟨A, c, h⟩
theorem Row.frM (h : Row e enc k v l R) (hST : ST dd NoF w W μ L) (hR : ∀ p, p ∈ R → p ∈ L) : Fr w.heap.size v := by
  rcases h with ⟨rfl, rfl, rfl⟩ | ⟨g, cap, cur, rfl, rfl, h1, h2, h3, h4⟩
  · exact Fr.nil _
  · intro b hb
    simp [Value.ownBlock] at hb
    subst hb
    rcases (hST.box g (.cells cur e (0, 0)) (hR _ (List.mem_singleton.2 rfl))).2.2 with h | h
    · exact h
    · exact h.elim
theorem Sl.lit {b m : Nat} {cs : Array Value} (hk : ∀ x, (enc x).length = k) (hm : l.length = m) (hM : m ≤ maxLen) (hc : cs.toList = (l.map enc).flatten) (hb : μ b = some (.cells cs e (0, 0))) : Sl (Pl enc) k μ (.slice (some ⟨b, 0, none⟩) m m) l :=
  (Row.lit (e := e) (b := b) hm hM hc (by have := congrArg List.length hc; rw [flat_length hk, Array.length_toList, hm] at this; exact this)).sl hk (fun b' o h => by simp at h; obtain ⟨rfl, rfl⟩ := h; exact hb)
theorem Fr.box (h : ST dd NoF w W μ L) {b m c : Nat} {o : Obj} (hb : (b, o) ∈ L) : Fr w.heap.size (.slice (some ⟨b, 0, none⟩) m c) := by
  intro b' hb'
  simp [Value.ownBlock] at hb'
  subst hb'
  rcases (h.box b o hb).2.2 with h | h
  · exact h
  · exact h.elim
theorem ST.perm (h : ST dd F w W μ L) (hp : L.Perm L') : ST dd F w W μ L' :=
  ⟨h.os, h.tape, h.output, h.drawn, h.size, h.old, h.mem, fun b o hb => h.box b o (hp.mem_iff.2 hb), (hp.map _).nodup_iff.1 h.nd⟩
theorem ST.sublist (h : ST dd F w W μ L) (hs : L'.Sublist L) : ST dd F w W μ L' :=
  ⟨h.os, h.tape, h.output, h.drawn, h.size, h.old, h.mem, fun b o hb => h.box b o (hs.subset hb), h.nd.sublist (hs.map _)⟩
end
section
variable {E : Nat → Value} {x1 x2 x3 x4 x5 x6 : Operand} {v1 v2 v3 v4 v5 v6 : Value}
theorem args0 : (#[] : Array Operand).map (evE E) ++ (#[] : Array Value) = [].toArray := by simp
theorem args1 (h1 : evE E x1 = v1) : #[x1].map (evE E) ++ (#[] : Array Value) = [v1].toArray := by simp [h1]
theorem args2 (h1 : evE E x1 = v1) (h2 : evE E x2 = v2) : #[x1, x2].map (evE E) ++ (#[] : Array Value) = [v1, v2].toArray := by simp [h1, h2]
theorem args3 (h1 : evE E x1 = v1) (h2 : evE E x2 = v2) (h3 : evE E x3 = v3) : #[x1, x2, x3].map (evE E) ++ (#[] : Array Value) = [v1, v2, v3].toArray := by simp [h1, h2, h3]
theorem args4 (h1 : evE E x1 = v1) (h2 : evE E x2 = v2) (h3 : evE E x3 = v3) (h4 : evE E x4 = v4) : #[x1, x2, x3, x4].map (evE E) ++ (#[] : Array Value) = [v1, v2, v3, v4].toArray := by simp [h1, h2, h3, h4]
end
theorem foldl_put : ∀ (v : List Value) (i off : Nat) (cells : Array Value), off + i + v.length ≤ cells.size →
    (v.zipIdx i).foldl (fun cs (c, j) => cs.setIfInBounds (off + j) c) cells = (cells.toList.take (off + i) ++ v ++ cells.toList.drop (off + i + v.length)).toArray
  | [], i, off, cells, h => by simp
  | c :: v, i, off, cells, h => by
    simp only [List.zipIdx_cons, List.foldl_cons]
    simp only [List.length_cons] at h
    rw [foldl_put v (i + 1) off _ (by simp; omega)]
    have hlt : off + i < cells.toList.length := by simp; omega
    congr 1
    rw [Array.toList_setIfInBounds]
    apply List.ext_getElem?
    intro j
    have hs : (cells.toList.take (off + i)).length = off + i := by simp; omega
    by_cases h1 : j < off + i
    · simp only [List.getElem?_append, List.length_append, List.length_take, List.length_set, Array.length_toList, List.length_cons, List.getElem?_take, List.getElem?_set, List.getElem?_drop]
      rw [show min (off + (i + 1)) cells.size = off + (i + 1) by omega, show min (off + i) cells.size = off + i by omega]
      rw [if_pos (by omega), if_pos (by omega), if_pos (by omega), if_neg (by omega), if_pos (by omega), if_pos (by omega), if_pos (by omega)]
    · by_cases h2 : j = off + i
      · subst h2
        simp [List.getElem?_append, List.getElem?_take, List.getElem?_set, show off + i < off + (i + 1) by omega]
        rw [if_pos (by omega), if_pos (by omega), if_neg (by omega), show off + i - min (off + i) cells.size = 0 by omega]
        rfl
      · simp only [List.getElem?_append, List.length_append, List.length_take, List.length_set, Array.length_toList, List.length_cons, List.getElem?_take, List.getElem?_set, List.getElem?_drop]
        rw [show min (off + (i + 1)) cells.size = off + (i + 1) by omega, show min (off + i) cells.size = off + i by omega]
        by_cases h3 : j < off + (i + 1) + v.length
        · rw [if_pos h3, if_neg (by omega), if_pos (by omega), if_neg (by omega)]
          rw [show j - (off + i) = (j - (off + (i + 1))) + 1 by omega]
          simp
        · rw [if_neg h3, if_neg (by omega), if_neg (by omega)]
          congr 1
          omega
theorem fill_all {k : Nat} : ∀ (vs : List Value) (i : Nat) (pre rest : List Value), (∀ v ∈ vs, v.cells.size = k) → pre.length = i * k → rest.length = vs.length * k →
    Instr.fill (fun i => some (i * k, k)) (pre ++ rest).toArray ((vs.zipIdx i).map (fun p => (p.2, p.1))) = some (pre ++ vs.flatMap (fun v => v.cells.toList)).toArray
  | [], i, pre, rest, hv, hp, hr => by
    have : rest = [] := by cases rest <;> simp at hr ⊢
    simp [Instr.fill, this]
  | v :: vs, i, pre, rest, hv, hp, hr => by
    have hvk := hv v (by simp)
    have hz : v.cells.zipIdx.foldl (fun cs (c, j) => cs.setIfInBounds (i * k + j) c) (pre ++ rest).toArray = (pre ++ v.cells.toList ++ rest.drop k).toArray := by
      have := foldl_put v.cells.toList 0 (i * k) (pre ++ rest).toArray (by simp [hp, hr, hvk, Nat.add_mul])
      rw [← Array.toList_zipIdx, Array.foldl_toList] at this
      rw [this]
      congr 1
      simp [← hp, hvk]
    simp only [List.zipIdx_cons, List.map_cons, Instr.fill]
    rw [if_neg (by simp [hvk, hp, hr, Nat.add_mul]), hz]
    have := fill_all vs (i + 1) (pre ++ v.cells.toList) (rest.drop k) (fun u hu => hv u (by simp [hu])) (by simp [hp, hvk, Nat.add_mul]) (by simp [hr, Nat.add_mul])
    rw [this]
    simp
theorem fill_lit {k m : Nat} {cs0 cs : Array Value} {qs : Array (Nat × Value)} (vs : List Value) (hq : qs.toList = vs.zipIdx.map (fun p => (p.2, p.1))) (hv : ∀ v ∈ vs, v.cells.size = k) (hm : vs.length = m) (hs : cs0.size = m * k)
    (hc : (vs.flatMap (fun v => v.cells.toList)).toArray = cs) : Instr.fill (fun i => some (i * k, k)) cs0 qs.toList = some cs := by
  subst hm hc
  rw [hq]
  have := fill_all vs 0 [] cs0.toList hv (by simp) (by simpa using hs)
  simpa using this
theorem run_lit {P : Program} {t e : TypeId} {m k : Nat} {z : Value} {qs : Array (Nat × Value)} {cs : Array Value} (vs : List Value) (ht : P.underlying t = some (.slice e)) (hs : ∀ w, (sizeOf e).run P w = .ok k w) (hz : ∀ w, (zeroValue e).run P w = .ok z w)
    (hm : m * k ≤ 16777216) (hq : qs.toList = vs.zipIdx.map (fun p => (p.2, p.1))) (hv : ∀ v ∈ vs, v.cells.size = k) (hl : vs.length = m) (hc : (vs.flatMap (fun v => v.cells.toList)).toArray = cs) (W : World) :
    (Instr.buildSlice t m qs).run P W = .ok (.slice (some ⟨W.heap.size, 0, none⟩) m m) (W.alloc (.cells cs e (0, 0))) :=
  run_buildSlice ht hs hz hm (fill_lit vs hq hv hl (by simp) hc) W
theorem parts0 {E : Nat → Value}  : (#[] : Array (Nat × Operand)).map (fun (i, x) => (i, evE E x)) = #[] := by simp
theorem parts1 {E : Nat → Value} {x0 : Operand} {v0 : Value} {i0 : Nat} (h0 : evE E x0 = v0) : (#[(i0, x0)] : Array (Nat × Operand)).map (fun (i, x) => (i, evE E x)) = #[(i0, v0)] := by simp [h0]
theorem parts2 {E : Nat → Value} {x0 x1 : Operand} {v0 v1 : Value} {i0 i1 : Nat} (h0 : evE E x0 = v0) (h1 : evE E x1 = v1) : (#[(i0, x0), (i1, x1)] : Array (Nat × Operand)).map (fun (i, x) => (i, evE E x)) = #[(i0, v0), (i1, v1)] := by simp [h0, h1]
theorem parts3 {E : Nat → Value} {x0 x1 x2 : Operand} {v0 v1 v2 : Value} {i0 i1 i2 : Nat} (h0 : evE E x0 = v0) (h1 : evE E x1 = v1) (h2 : evE E x2 = v2) : (#[(i0, x0), (i1, x1), (i2, x2)] : Array (Nat × Operand)).map (fun (i, x) => (i, evE E x)) = #[(i0, v0), (i1, v1), (i2, v2)] := by simp [h0, h1, h2]
theorem parts4 {E : Nat → Value} {x0 x1 x2 x3 : Operand} {v0 v1 v2 v3 : Value} {i0 i1 i2 i3 : Nat} (h0 : evE E x0 = v0) (h1 : evE E x1 = v1) (h2 : evE E x2 = v2) (h3 : evE E x3 = v3) : (#[(i0, x0), (i1, x1), (i2, x2), (i3, x3)] : Array (Nat × Operand)).map (fun (i, x) => (i, evE E x)) = #[(i0, v0), (i1, v1), (i2, v2), (i3, v3)] := by simp [h0, h1, h2, h3]
theorem FieldAt_of {P : Program} {t : TypeId} {f off : Nat} {fs : Array Field} {fd : Field} (ht : P.underlying t = some (.struct fs)) (hf : fs[f]? = some fd) {k : Nat} (hs : ∀ w, (sizeOf fd.type).run P w = .ok k w) (hk : k ≠ 0) (ho : fd.offset = off) : FieldAt P t f off := by
  intro b o w
  subst ho
  simp [Instr.fieldAt, run_underlying ht, hf, Instr.sureAddr, fieldPlace, Addr.add_lit, hs w, hk]
theorem Ag.yield_none {n : Nat} {a : Act} {E : Nat → Value} (h : Ag n a E) {ops : Array Oper} {j t : Nat} (hj : (ops[j]?).bind (·.dst) = some t) (ht : t < n) (hv : E t = undef) : yielded ops a.tmps j = none := by
  have h3 := h.2.2 t
  have hs : a.tmps[t]? = some (E t) := by
    rw [← h3]
    simp [Array.getD_eq_getD_getElem?, h.1, ht]
  simp [yielded, hj, hs, hv, undef]
theorem LW_nou {P : Program} {n : Nat} {Q : Post} {E : Nat → Value} {W : World} {ops : Array Oper} {rest : List Oper} {o : Oper} {d j t : Nat} {want : Bool} (hd : o.dst = some d) (hn : d < n) (hg : o.guard = some (j, want)) (hj : (ops[j]?).bind (·.dst) = some t) (ht : t < n) (hE : E t = undef)
    (h : LW P n ops Q rest (upd E d undef) W) : LW P n ops Q (o :: rest) E W := fun a ha => by
  unfold wpList
  have hy := ha.yield_none hj ht hE
  rw [if_neg (by simp [Region.wanted, hg, hy])]
  rw [hd]
  exact h _ (ha.put hn _)
theorem LW_q {P : Program} {n : Nat} {Q : Post} {E : Nat → Value} {W : World} {ops : Array Oper} {rest : List Oper} {A : Value → Prop} {o : Oper} {dd : Nat} (hw : Wanted n ops E o) (hd : o.dst = some dd) (hn : dd < n)
    (hr : ∃ p, A p ∧ ∀ W, Runs P E o W p W) (h : ∀ p, A p → LW P n ops Q rest (upd E dd p) W) : LW P n ops Q (o :: rest) E W := by
  obtain ⟨p, h1, h2⟩ := hr
  exact LW_v hw hd hn (h2 W) (h p h1)
end Go.Proofs.Ytfjdjbdnnoijgaa
