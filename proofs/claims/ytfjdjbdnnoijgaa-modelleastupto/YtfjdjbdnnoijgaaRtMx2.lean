/- a part of a proof of ModelLeast -/
import Derived.Test.YtfjdjbdnnoijgaaRtLx2
import Derived.Deep.AppendSrc
set_option linter.all false
namespace Go.Proofs.Ytfjdjbdnnoijgaa
open Go.RowKit
variable {dd : Bool}
section
variable {κ γ : Type} {Q : Value → γ → List (Nat × Obj) → Prop} {beq : κ → κ → Bool} {kenc : κ → Value}
def DeepE (kenc : κ → Value) (Q : Value → γ → List (Nat × Obj) → Prop) (v : Value) (l : List (κ × γ)) (R : List (Nat × Obj)) : Prop := ∃ lv, DeepV kenc Q v lv l R
def DeepAt (kenc : κ → Value) (Q : Value → γ → List (Nat × Obj) → Prop) (μ : Mem) (v : Value) (l : List (κ × γ)) : Prop := ∃ lv R, DeepV kenc Q v lv l R ∧ ∀ b o, (b, o) ∈ R → μ b = some o
theorem DeepE.at {v : Value} {l : List (κ × γ)} {R : List (Nat × Obj)} {μ : Mem} (h : DeepE kenc Q v l R) (hR : ∀ b o, (b, o) ∈ R → μ b = some o) : DeepAt kenc Q μ v l := let ⟨lv, h⟩ := h; ⟨lv, R, h, hR⟩
theorem DeepAt.mono {v : Value} {l : List (κ × γ)} {μ μ' : Mem} (h : DeepAt kenc Q μ v l) (hs : Sub μ μ') : DeepAt kenc Q μ' v l := let ⟨lv, R, h, hR⟩ := h; ⟨lv, R, h, fun b o hb => hs _ _ (hR b o hb)⟩
theorem DeepV.form {v : Value} {lv : List (κ × Value)} {l : List (κ × γ)} {R : List (Nat × Obj)} (h : DeepV kenc Q v lv l R) : ∃ m, v = .map (some m) := let ⟨_, _, _, h, _⟩ := h; h.form
theorem DeepV.e {v : Value} {lv : List (κ × Value)} {l : List (κ × γ)} {R : List (Nat × Obj)} (h : DeepV kenc Q v lv l R) : DeepE kenc Q v l R := ⟨lv, h⟩
theorem DeepE.form {v : Value} {l : List (κ × γ)} {R : List (Nat × Obj)} (h : DeepE kenc Q v l R) : ∃ m, v = .map (some m) := let ⟨_, h⟩ := h; h.form
theorem DeepE.new {v : Value} {R : List (Nat × Obj)} (h : MapRow (β := Value) kenc (fun x => x) v [] R) : DeepE kenc Q v [] R := ⟨[], R, [], (List.append_nil R).symm, h, rfl⟩
theorem DeepV.rowAt {α : Type} {e : TypeId} {enc : α → List Value} {n : Nat} {mv : Value} {lv : List (κ × Value)} {l : List (κ × List α)} {R : List (Nat × Obj)} (hk : ∀ {x y : κ}, beq x y = true → x = y) (h : DeepV kenc (Row e enc n) mv lv l R) (k : κ) :
    ∃ R1, Row e enc n (valAt beq lv k (.slice none 0 0)) ((mget beq l k).getD []) R1 ∧ ∀ b o, (b, o) ∈ R1 → (b, o) ∈ R := by
  cases hx : mget beq l k with
  | none => refine ⟨[], ?_, fun b o h => by cases h⟩; rw [valAt, h.miss hx]; exact .inl ⟨rfl, rfl, rfl⟩
  | some x =>
    obtain ⟨v, A, R1, B, g1, rfl, g3, _⟩ := h.found hk hx
    refine ⟨R1, ?_, fun b o hb => by simp [hb]⟩
    rw [valAt, g1]; exact g3
theorem Row.slL {α : Type} {e : TypeId} {enc : α → List Value} {k : Nat} {v : Value} {l : List α} {R : List (Nat × Obj)} (h : Row e enc k v l R) (hk : ∀ x, (enc x).length = k) : Sl (Pl enc) k (memL R) v l := by
  refine h.sl hk (fun b o hb => ?_)
  rcases h with ⟨rfl, rfl, rfl⟩ | ⟨g, cap, cur, rfl, rfl, _⟩
  · cases hb
  · simp at hb; obtain ⟨rfl, rfl⟩ := hb; simp [memL]
end
theorem Has.hp (W : World) : Has (hp W) [] W := ⟨fun _ _ h => h, fun _ _ h => by cases h⟩
section
variable {P : Program} {W : World} {E : Nat → Value} {d : Option Nat} {ty : TypeId} {pos : String} {af : Array Edge} {g : Option (Nat × Bool)} {F : Nat → Prop} {w : World} {μ : Mem} {L : List (Nat × Obj)}
theorem equalIn_map_nil {t k e : TypeId} (dd : Nat) (ht : P.underlying t = some (.map k e)) (a : Option Nat) (W : World) : (Op.equalIn (dd + 1) t (.map a) (.map none)).run P W = .ok a.isNone W := by
  cases a <;> simp [Op.equalIn, run_underlying ht]
theorem R_mapEqNil {tx tv k e : TypeId} {x y : Operand} {r : Option Nat} {b : Bool} (ht : P.underlying tx = some (.map k e)) (hx : evE E x = .map r) (hy : evE E y = .map none) (hb : r.isNone = b) :
    Runs P E ⟨d, .binOp .eql tx x y tv, ty, pos, af, g⟩ W (.bool b) W := by
  subst hb
  show (do let r ← (do eqGuard .eql tx x y (evE E x) (evE E y); binOp .eql tx (evE E x) (evE E y)); pure (.value r) : Sem Next).run P W = _
  rw [hx, hy]
  have h0 := equalIn_map_nil 9999 ht r W
  simp [eqGuard, binOp, Op.equal, show Op.maxDepth = 9999 + 1 from rfl, h0]
theorem R_mapEqNilD {κ κ2 β : Type} {kenc : κ → Value} {kenc2 : κ2 → Value} {vf : β → Value} {beq : κ → κ → Bool} {tx tv kt e : TypeId} {x y : Operand} {mv : Value} {lv : List (κ × Value)} {l : List (κ × List (κ2 × β))} {R : List (Nat × Obj)} {k : κ} (hk : ∀ {x y : κ}, beq x y = true → x = y)
    (ht : P.underlying tx = some (.map kt e)) (h : DeepV kenc (MapRow kenc2 vf) mv lv l R) (hx : evE E x = valAt beq lv k (.map none)) (hy : evE E y = .map none) :
    Runs P E ⟨d, .binOp .eql tx x y tv, ty, pos, af, g⟩ W (.bool (mget beq l k).isNone) W := by
  obtain ⟨r, h1, h2⟩ := h.isNil hk k
  exact R_mapEqNil ht (hx.trans h1) hy h2
theorem E_makeMapD {κ γ : Type} {Kk : Value → World → Prop} {t : TypeId} (kenc : κ → Value) (Q : Value → γ → List (Nat × Obj) → Prop) (hST : ST dd F w W μ L) (hK : ∀ W' v R, ST dd F w W' μ (R ++ L) → DeepE kenc Q v [] R → Kk v W') : Eff P E ⟨d, .makeMap t none, ty, pos, af, g⟩ W Kk :=
  E_makeMap kenc (fun x : Value => x) hST (fun W' v R h1 h2 => hK W' v R h1 (DeepE.new h2))
end
def Que {α : Type} (e : TypeId) (enc : α → List Value) (k : Nat) (v : Value) (l : List α) (R : List (Nat × Obj)) : Prop :=
  (v = .slice none 0 0 ∧ l = [] ∧ R = []) ∨
  ∃ g off cap cur, v = .slice (some ⟨g, off, none⟩) l.length cap ∧ R = [(g, .cells cur e (0, 0))] ∧ l.length ≤ cap ∧ cap ≤ maxLen ∧ off + cap * k ≤ cur.size ∧ (cur.toList.drop off).take (l.length * k) = (l.map enc).flatten
section
variable {α : Type} {e : TypeId} {enc : α → List Value} {k : Nat} {v : Value} {l : List α} {R : List (Nat × Obj)}
theorem Que.nil (e : TypeId) (enc : α → List Value) (k : Nat) : Que e enc k (.slice none 0 0) [] [] := .inl ⟨rfl, rfl, rfl⟩
theorem Row.que (h : Row e enc k v l R) : Que e enc k v l R := by
  rcases h with h | ⟨g, cap, cur, h1, h2, h3, h4, h5, h6⟩
  · exact .inl h
  · exact .inr ⟨g, 0, cap, cur, h1, h2, h3, h4, by omega, by simpa using h6⟩
theorem Que.len (h : Que e enc k v l R) : l.length ≤ 9223372036854775807 := by
  rcases h with ⟨rfl, rfl, rfl⟩ | ⟨g, off, cap, cur, rfl, rfl, h1, h2, _⟩
  · simp
  · unfold maxLen at h2; omega
theorem Que.form (h : Que e enc k v l R) : ∃ A c, v = .slice A l.length c := by
  rcases h with ⟨rfl, rfl, rfl⟩ | ⟨g, off, cap, cur, rfl, rfl, _⟩
  · exact ⟨_, _, rfl⟩
  · exact ⟨_, _, rfl⟩
theorem Que.slL (h : Que e enc k v l R) (hk : ∀ x, (enc x).length = k) : Sl (Pl enc) k (memL R) v l := by
  rcases h with ⟨rfl, rfl, rfl⟩ | ⟨g, off, cap, cur, rfl, rfl, h1, h2, h3, h4⟩
  · exact Sl.nil _ _ _
  · refine ⟨_, cap, rfl, h1, h2, fun _ => ⟨g, off, cur, e, (0, 0), rfl, by simp [memL], fun i x hx => ⟨enc x, hk x, rfl, fun j y hy => ?_⟩⟩⟩
    have := flat_get hk l i x hx j y hy
    rw [← h4] at this
    have hlt : i * k + j < l.length * k := by
      have := (List.getElem?_eq_some_iff.1 this).1
      simp at this; omega
    rw [List.getElem?_take_of_lt hlt, List.getElem?_drop] at this
    simpa [Nat.add_assoc] using this
variable {P : Program} {W : World} {E : Nat → Value} {d : Option Nat} {ty : TypeId} {pos : String} {af : Array Edge} {g : Option (Nat × Bool)} {F : Nat → Prop} {w : World} {μ : Mem} {L : List (Nat × Obj)}
theorem R_lenQue {x : Operand} {t e2 : TypeId} (ht : P.underlying t = some (.slice e2)) (hx : evE E x = v) (h : Que e enc k v l R) : Runs P E ⟨d, .call ⟨.builtin .len, #[x], #[t]⟩, ty, pos, af, g⟩ W (.int .i64 l.length) W := by
  obtain ⟨A, c, rfl⟩ := h.form
  exact R_lenSl ht hx
theorem R_sliceQue {t e2 : TypeId} {x il : Operand} {ik : IntKind} {i : Int} (ht : P.underlying t = some (.slice e2)) (he : ∀ w, (sizeOf e2).run P w = .ok k w) (hx : evE E x = v) (hi : evE E il = .int ik i) (hk : ∀ x, (enc x).length = k) (h : Que e enc k v l R) (h0 : 0 ≤ i) (hl : i ≤ l.length) :
    ∃ u, Que e enc k u (l.drop i.toNat) R ∧ ∀ W, Runs P E ⟨d, .slice t x (some il) none none, ty, pos, af, g⟩ W u W := by
  rcases h with ⟨rfl, rfl, rfl⟩ | ⟨g', off, cap, cur, rfl, rfl, h1, h2, h3, h4⟩
  · have : i = 0 := by simp at hl; omega
    subst this
    refine ⟨.slice none 0 0, by simpa using Que.nil e enc k, fun W => ?_⟩
    show (do pure (.value (← Instr.sliceAt t (evE E x) (some (evE E il)) none none)) : Sem Next).run P W = _
    rw [hx, hi]
    simp [Instr.sliceAt, Instr.slice, Instr.sliceBounds, Instr.sliceBound, asIntOf, run_underlying ht, he W]
  · refine ⟨.slice (some (if cap = i.toNat then ⟨g', off, none⟩ else (Addr.add ⟨g', off, none⟩ (i.toNat * k)))) (l.length - i.toNat) (cap - i.toNat), .inr ?_, fun W => ?_⟩
    · have hll : (l.drop i.toNat).length = l.length - i.toNat := by simp
      have hmap : (l.map enc).flatten.drop (i.toNat * k) = ((l.drop i.toNat).map enc).flatten := by
        have h5 : l = l.take i.toNat ++ l.drop i.toNat := (List.take_append_drop _ _).symm
        have h6 : ((l.take i.toNat).map enc).flatten.length = i.toNat * k := by rw [flat_length hk, List.length_take, Nat.min_eq_left (by omega)]
        conv => lhs; rw [h5, List.map_append, List.flatten_append]
        rw [← h6, List.drop_left]
      by_cases hc : cap = i.toNat
      · rw [if_pos hc]
        have hn : l.drop i.toNat = [] := List.drop_eq_nil_of_le (by omega)
        refine ⟨g', off, cap - i.toNat, cur, by rw [hn]; simp; omega, rfl, by rw [hn]; simp, by omega, by have : (cap - i.toNat) * k ≤ cap * k := Nat.mul_le_mul_right _ (by omega); omega, by rw [hn]; simp⟩
      · rw [if_neg hc]
        refine ⟨g', off + i.toNat * k, cap - i.toNat, cur, by rw [hll, Addr.add_lit], rfl, by rw [hll]; omega, by omega, ?_, ?_⟩
        · have : i.toNat * k + (cap - i.toNat) * k = cap * k := by rw [← Nat.add_mul]; congr 1; omega
          omega
        · rw [hll, ← hmap, ← h4, List.drop_take, List.drop_drop, Nat.sub_mul]
    · show (do pure (.value (← Instr.sliceAt t (evE E x) (some (evE E il)) none none)) : Sem Next).run P W = _
      rw [hx, hi]
      have hb : 0 ≤ i ∧ i ≤ (l.length : Int) := ⟨h0, hl⟩
      simp [Instr.sliceAt, Instr.slice, Instr.sliceBounds, Instr.sliceBound, asIntOf, run_underlying ht, he W, hb]
      split <;> rfl
theorem E_appendQue {K : Value → World → Prop} {t : TypeId} {by_ : Nat} {z vs : Value} {m r : List α} (X : List (Nat × Obj)) {Y : List (Nat × Obj)} {x y : Operand} {i : TypeInfo}
    (hST : ST dd F w W μ (X ++ (R ++ Y))) (hk : ∀ x, (enc x).length = k) (hk0 : 0 < k) (h1 : ∀ x, ∀ u ∈ enc x, u.oneCell' = true) (ht : P.underlying t = some (.slice e)) (hi : P.info? e = some i) (hz : i.zero = some z) (hzs : z.cells.size = k) (hsz : i.size = k) (hby : i.bytes = by_)
    (hx : evE E x = v) (hy : evE E y = vs) (hR : Que e enc k v l R) (hs : Sl (Pl enc) k (hp W) vs m) (hb : appB by_ l m = some r)
    (h : ∀ W' v' R', ST dd F w W' μ (X ++ (R' ++ Y)) → Que e enc k v' r R' → K v' W') : Eff P E ⟨d, .call ⟨.builtin .append, #[x, y], #[t, t]⟩, ty, pos, af, g⟩ W K := by
  rcases hR with ⟨rfl, rfl, rfl⟩ | ⟨g', off, cap, cur, rfl, rfl, h2, h3, h4, h5⟩
  · exact E_append X hST hk hk0 h1 ht hi hz hzs hsz hby hx hy (Row.nil e enc k) hs hb (fun W' v' R' a b => h W' v' R' a b.que)
  unfold appB at hb
  split at hb
  case isFalse => cases hb
  rename_i hbb
  cases hb
  have hrun : ∀ (V : Value) (W' : World), (Builtin.append_ #[t, t] ty #[.slice (some ⟨g', off, none⟩) l.length cap, vs]).run P W = .ok V W' → (execOp (evE E) ⟨d, .call ⟨.builtin .append, #[x, y], #[t, t]⟩, ty, pos, af, g⟩).run P W = .ok (.value V) W' := by
    intro V W' hV
    show (do let d ← resolve (evE E) ⟨.builtin .append, #[x, y], #[t, t]⟩ ty; invoke d.target d.args : Sem Next).run P W = _
    simp [resolve, invoke, builtin, hx, hy, hV]
  obtain ⟨A, c, rfl, hc1, hc2, hc3⟩ := hs
  have hST0 : ST dd F w W μ (X ++ (g', .cells cur e (0, 0)) :: Y) := by simpa using hST
  have hg : W.heap[g']? = some (.cells cur e (0, 0)) := (hST0.box g' _ (by simp)).1
  have hfl := flat_length hk l
  have hone : ∀ u ∈ (m.map enc).flatten, u.oneCell' = true := by
    intro u hu
    obtain ⟨ys, hys, hu'⟩ := List.mem_flatten.1 hu
    obtain ⟨x, _, rfl⟩ := List.mem_map.1 hys
    exact h1 x u hu'
  have hsrc : Src P i.size t (.slice A m.length c) m.length ((m.map enc).flatten) W := by
    rw [hsz]
    rcases Nat.eq_zero_or_pos m.length with h0 | h0
    · have hm : m = [] := List.eq_nil_of_length_eq_zero h0
      subst hm
      cases A with
      | none => exact Src.ofNil W ht c
      | some ad => exact Src.ofSlice W ht ad 0 c [] (by simp) (fun j u hu => by simp at hu) (fun u hu => by cases hu)
    · obtain ⟨b, o, cs, T, fr, rfl, h6, h7⟩ := hc3 h0
      refine Src.ofSlice W ht _ _ c _ (flat_length hk m) (fun j u hu => ?_) hone
      obtain ⟨i, x, q, h8, h9, rfl⟩ := flat_inv hk m j u hu
      obtain ⟨ys, _, h11, h12⟩ := h7 i x h8
      cases h11
      rw [Addr.add_lit, cell_of_row W b (o + (i * k + q)) cs T fr h6, ← Nat.add_assoc]
      exact h12 q u h9
  have hfml := flat_length hk m
  have hfin : ((l ++ m).map enc).flatten = (l.map enc).flatten ++ (m.map enc).flatten := by simp
  generalize (m.map enc).flatten = fm at hsrc hone hfml hfin
  subst hsz
  have hlk : l.length * i.size ≤ cap * i.size := Nat.mul_le_mul_right _ h2
  by_cases hroom : l.length + m.length ≤ cap
  · have hmk : l.length * i.size + m.length * i.size ≤ cap * i.size := by rw [← Nat.add_mul]; exact Nat.mul_le_mul_right _ hroom
    have hst := run_storeCells_at (P := P) g' (off + l.length * i.size) e fm 0 cur W hg (by rw [hfml]; omega) hone
    have happ : (Builtin.append_ #[t, t] ty #[.slice (some ⟨g', off, none⟩) l.length cap, .slice A m.length c]).run P W = .ok (.slice (some ⟨g', off, none⟩) (l.length + m.length) cap) (W.setRow g' (cur.toList.take (off + l.length * i.size) ++ fm ++ cur.toList.drop (off + l.length * i.size + fm.length)).toArray) := by
      simp [Builtin.append_, run_underlying ht, sizeOf, typeInfo, hi, hsrc.len, hroom, hsrc.cells, Addr.add_lit]
      simp only [Nat.add_zero] at hst
      rw [hst]
      simp
    refine .inl ⟨_, _, hrun _ _ happ, h _ _ [(g', _)] (by simpa using hST0.store _) (.inr ⟨g', off, cap, _, by rw [List.length_append], rfl, by simpa using hroom, h3, ?_, ?_⟩)⟩
    · simp only [List.size_toArray, List.length_append, List.length_take, List.length_drop, Array.length_toList, hfml]
      rw [Nat.min_eq_left (by omega)]
      omega
    · have hA : (cur.toList.take (off + l.length * i.size)).length = off + l.length * i.size := by simp; omega
      show ((cur.toList.take (off + l.length * i.size) ++ (fm ++ cur.toList.drop (off + l.length * i.size + fm.length))).drop off).take ((l ++ m).length * i.size) = _
      rw [hfin, List.drop_append, List.drop_take, hA, show off - (off + l.length * i.size) = 0 by omega, List.drop_zero, show off + l.length * i.size - off = l.length * i.size by omega, h5]
      rw [List.length_append, Nat.add_mul, List.take_append, List.take_append, hfl, hfml, List.take_of_length_le (by rw [hfl]; omega), show l.length * i.size + m.length * i.size - l.length * i.size = m.length * i.size by omega, List.take_of_length_le (by rw [hfml]; omega)]
      simp
  · have hold : (Builtin.firstCells i.size l.length (.slice (some ⟨g', off, none⟩) l.length cap)).run P W.drew = .ok ((l.map enc).flatten).toArray W.drew := by
      refine run_firstCells_some W.drew i.size l.length ⟨g', off, none⟩ l.length cap _ hfl (fun j u hu => ?_)
      rw [Addr.add_lit]
      show W.cell? ⟨g', off + j, none⟩ = some u
      rw [cell_of_row W g' (off + j) cur e (0, 0) hg]
      rw [← h5] at hu
      have hj : j < l.length * i.size := by have := (List.getElem?_eq_some_iff.1 hu).1; simp at this; omega
      rw [List.getElem?_take_of_lt hj, List.getElem?_drop] at hu
      simpa using hu
    have hlen : (l ++ m).length = l.length + m.length := List.length_append
    have hge := grownCap_ge W (l.length + m.length) cap e
    have hcm := grownCap_le_maxLen W (l.length + m.length) cap e hbb.2
    have happ := run_append_grow_src (P := P) W t t ty e i z ht hi hz (some ⟨g', off, none⟩) l.length cap ((l.map enc).flatten) hold _ m.length _ hsrc (by omega) (by have := hbb.2; unfold maxLen at this; omega) (growslice_fits (by omega) (by rw [hby]; exact hbb.1))
    have h6 := hST0.drew.alloc (.cells (((l.map enc).flatten ++ fm).toArray ++ Builtin.zeroCells z.cells (grownCap W (l.length + m.length) cap e - (l.length + m.length))) e (0, 0))
    have h7 := (ST.drop (A := (W.drew.heap.size, _) :: X) h6).perm (L' := X ++ ([(W.heap.size, _)] ++ Y)) (by simpa using (List.perm_middle (a := (W.heap.size, _)) (l₁ := X) (l₂ := Y)).symm)
    refine .inl ⟨_, _, hrun _ _ happ, h _ _ _ h7 (Row.que (.inr ⟨W.heap.size, grownCap W (l.length + m.length) cap e, _, by rw [hlen], rfl, by rw [hlen]; exact hge, hcm, ?_, ?_⟩))⟩
    · rw [Array.size_append, size_zeroCells, hzs]
      simp only [List.size_toArray, List.length_append, hfl, hfml]
      rw [← Nat.add_mul, ← Nat.add_mul]
      congr 1
      omega
    · rw [Array.toList_append, List.toList_toArray, hlen, hfin, List.take_append_of_le_length (by simp only [List.length_append, hfl, hfml]; rw [Nat.add_mul]; exact Nat.le_refl _), List.take_of_length_le (by simp only [List.length_append, hfl, hfml]; rw [Nat.add_mul]; exact Nat.le_refl _)]
end
end Go.Proofs.Ytfjdjbdnnoijgaa
