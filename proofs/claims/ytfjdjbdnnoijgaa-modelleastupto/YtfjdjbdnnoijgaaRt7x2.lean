/- a part of a proof of ModelLeast -/
import Derived.Test.YtfjdjbdnnoijgaaRt6x2
import Derived.Laws.IdiomStrings
set_option linter.all false
namespace Go.Proofs.Ytfjdjbdnnoijgaa
open Go.RowKit
variable {dd : Bool}
theorem CW_tail {P : Program} {n : Nat} {x : Code} {Q : Post} {E : Nat → Value} {W : World} (h : CW P n x (seqQ (fun E W => Q .normal E W) Q) E W) : CW P n x Q E W :=
  CW_mono h (fun e E W h => by cases e <;> exact h)
section
variable {P : Program} {n : Nat} {Q : Post} {E : Nat → Value} {W : World} {d : Option Nat} {ty : TypeId} {pos : String} {af : Array Edge} {g : Option (Nat × Bool)}
  {F : Nat → Prop} {w : World} {μ : Mem} {L : List (Nat × Obj)}
def divOp (k : IntKind) (op : BinOp) (a b : Int) : Option Value :=
  match op with
  | .quo => some (.int k (k.wrap (a.tdiv b)))
  | .rem => some (.int k (a.tmod b))
  | .and => some (.int k (k.wrap (BitVec.ofInt k.bits a &&& BitVec.ofInt k.bits b).toNat))
  | .or => some (.int k (k.wrap (BitVec.ofInt k.bits a ||| BitVec.ofInt k.bits b).toNat))
  | _ => none
theorem R_div {op : BinOp} {tx tv : TypeId} {x y : Operand} {k : IntKind} {a b : Int} {v : Value} (hx : evE E x = .int k a) (hy : evE E y = .int k b) (h0 : b ≠ 0) (hv : divOp k op a b = some v) :
    Runs P E ⟨d, .binOp op tx x y tv, ty, pos, af, g⟩ W v W := by
  show (do let r ← (do eqGuard op tx x y (evE E x) (evE E y); binOp op tx (evE E x) (evE E y)); pure (.value r) : Sem Next).run P W = _
  rw [hx, hy]
  cases op <;> simp [divOp] at hv <;> subst hv <;> simp [eqGuard, binOp, Op.intDiv, Op.intBits, h0]
theorem R_convInt {s t : TypeId} {x : Operand} {k k' : IntKind} {a : Int} {u : TypeDesc} (hs : P.underlying s = some u) (ht : P.underlying t = some (.int k)) (hx : evE E x = .int k' a) :
    Runs P E ⟨d, .convert s t x, ty, pos, af, g⟩ W (.int k (k.wrap a)) W := by
  show (do pure (.value (← convert s t (evE E x))) : Sem Next).run P W = _
  rw [hx]
  simp [convert, run_underlying hs, run_underlying ht, Conv.intToInt]
def bytesI (s : ByteArray) : List Int := s.data.toList.map (fun b => (b.toNat : Int))
def bytesB (s : ByteArray) : Option (List Int) := if s.size ≤ maxLen then some (bytesI s) else none
theorem bytesI_length (s : ByteArray) : (bytesI s).length = s.size := by simp only [bytesI, List.length_map, Array.length_toList]; rfl
theorem bytesI_row {s : ByteArray} {cap i : Nat} {x : Int} (h : (bytesI s)[i]? = some x) : (bytesRow s cap)[i]? = some (.int .u8 x) := by
  have hi : i < s.size := by have := (List.getElem?_eq_some_iff.1 h).1; rwa [bytesI_length] at this
  have hi' : i < s.data.size := hi
  simp [bytesI] at h
  obtain ⟨b, hb, rfl⟩ := h
  rw [bytesRow, Array.getElem?_append_left (by simpa using hi')]
  simp [hb]
theorem E_bytesOf {K : Value → World → Prop} {s t e : TypeId} {x : Operand} {str : ByteArray} {l : List Int} (hST : ST dd F w W μ L) (hs : P.underlying s = some .string) (hd : P.underlying t = some (.slice e)) (he : P.underlying e = some (.int .u8)) (hx : evE E x = .string str) (hb : bytesB str = some l)
    (h : ∀ W' v μ', ST dd F w W' μ' L → Sub μ μ' → Sl (Pl (encIk .u8)) 1 μ' v l → Fr w.heap.size v → K v W') : Eff P E ⟨d, .convert s t x, ty, pos, af, g⟩ W K := by
  unfold bytesB at hb
  split at hb
  case isFalse => cases hb
  rename_i hm
  cases hb
  have hrun := run_bytes_of_string (P := P) W s t e str hs hd he
  have h1 := hST.drew.alloc (.cells (bytesRow str (grownCap W str.size 0 e)) e ((bytesRow str (grownCap W str.size 0 e)).size, (bytesRow str (grownCap W str.size 0 e)).size + 1))
  refine .inl ⟨.slice (some ⟨W.heap.size, 0, none⟩) str.size (grownCap W str.size 0 e), _, ?_, h _ _ _ (ST.publish (A := []) h1) (ST.pub_sub (A := []) h1) ?_ ?_⟩
  · show (do pure (.value (← convert s t (evE E x))) : Sem Next).run P W = _
    rw [hx]
    simp only [Sem.run_bind, hrun, Result.andThen_ok, Sem.run_pure]
  · refine ⟨_, grownCap W str.size 0 e, by rw [bytesI_length], by rw [bytesI_length]; exact grownCap_ge W str.size 0 e, grownCap_le_maxLen W str.size 0 e hm, fun _ => ⟨W.heap.size, 0, bytesRow str (grownCap W str.size 0 e), e, _, rfl, if_pos rfl, fun i x hx => ⟨_, rfl, rfl, fun j y hy => ?_⟩⟩⟩
    cases j with
    | zero => simp [encIk] at hy; subst hy; simpa using bytesI_row hx
    | succ j => simp [encIk] at hy
  · intro b hb
    simp [Value.ownBlock] at hb
    subst hb
    exact hST.size
def strI (l : List Int) : ByteArray := l.foldl (fun r n => r.push (UInt8.ofNat n.toNat)) ByteArray.empty
theorem R_strOf {s t e : TypeId} {x : Operand} {v : Value} {l : List Int} (hs : P.underlying s = some (.slice e)) (he : P.underlying e = some (.int .u8)) (hd : P.underlying t = some .string) (hx : evE E x = v) (hv : Sl (Pl (encIk .u8)) 1 (hp W) v l) :
    Runs P E ⟨d, .convert s t x, ty, pos, af, g⟩ W (.string (strI l)) W := by
  show (do pure (.value (← convert s t (evE E x))) : Sem Next).run P W = _
  obtain ⟨A, c, rfl, h2, h3, h4⟩ := hv
  rw [hx]
  simp only [Sem.run_bind, run_convert_bytes_string W s t e A l.length c hs he hd]
  rcases Nat.eq_zero_or_pos l.length with h0 | h0
  · have : l = [] := List.length_eq_zero_iff.1 h0
    subst this
    cases A with
    | none => simp [Conv.bytesToString, strI]
    | some a =>
      have h5 := run_bytesToString (P := P) W a 0 c [] (by simpa using run_loadCells_list (P := P) W a [] (by simp))
      simp only [List.length_nil]
      rw [h5]
      simp [strI]
  · obtain ⟨b, off, cs, T, fr, rfl, h6, h7⟩ := h4 h0
    have hl := run_loadCells_list (P := P) W ⟨b, off, none⟩ (l.map (Value.int .u8)) (fun j v hj => by
      simp at hj
      obtain ⟨x, hx1, rfl⟩ := hj
      obtain ⟨ys, _, hys, h12⟩ := h7 j x hx1
      cases hys
      rw [Addr.add_lit, cell_of_row W b (off + j) cs T fr h6]
      have := h12 0 (.int .u8 x) rfl
      simpa using this)
    simp only [List.length_map] at hl
    rw [run_bytesToString W _ l.length c l hl]
    simp [strI]
end
end Go.Proofs.Ytfjdjbdnnoijgaa
