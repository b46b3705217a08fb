/- a part of a proof of ModelLeast -/
import Derived.Test.YtfjdjbdnnoijgaaRtAx2
import Derived.Maps.RangeRun
set_option linter.all false
namespace Go.Proofs.Ytfjdjbdnnoijgaa
open Go.RowKit
variable {dd : Bool}
def mget {κ β : Type} (beq : κ → κ → Bool) (l : List (κ × β)) (k : κ) : Option β := (l.find? (fun p => beq k p.1)).map (·.2)
def mput {κ β : Type} (beq : κ → κ → Bool) (l : List (κ × β)) (k : κ) (v : β) : List (κ × β) :=
  match l.findIdx? (fun p => beq k p.1) with
  | some i => l.set i (k, v)
  | none => l ++ [(k, v)]
structure MapOf {κ β : Type} (kenc : κ → Value) (vf : β → Value) (l : List (κ × β)) (es : Array MapEntry) (clock : Nat) : Prop where
  pairs : es.toList.map (fun e => (e.key, e.val)) = l.map (fun p => (kenc p.1, vf p.2))
  born : es.toList.Pairwise (fun a b => a.born < b.born)
  lt : ∀ e ∈ es.toList, e.born < clock
def MapRow {κ β : Type} (kenc : κ → Value) (vf : β → Value) (v : Value) (l : List (κ × β)) (R : List (Nat × Obj)) : Prop :=
  ∃ m es clock, v = .map (some m) ∧ R = [(m, .map es clock)] ∧ MapOf kenc vf l es clock
def MapAt {κ β : Type} (kenc : κ → Value) (vf : β → Value) (μ : Mem) (v : Value) (l : List (κ × β)) : Prop :=
  (v = .map none ∧ l = []) ∨ ∃ m es clock, v = .map (some m) ∧ μ m = some (.map es clock) ∧ MapOf kenc vf l es clock
theorem MapAt.mono {κ β : Type} {kenc : κ → Value} {vf : β → Value} {μ μ' : Mem} {v : Value} {l : List (κ × β)} (h : MapAt kenc vf μ v l) (hs : Sub μ μ') : MapAt kenc vf μ' v l := by
  rcases h with h | ⟨m, es, clock, h1, h2, h3⟩
  · exact .inl h
  · exact .inr ⟨m, es, clock, h1, hs _ _ h2, h3⟩
theorem MapRow.at {κ β : Type} {kenc : κ → Value} {vf : β → Value} {μ : Mem} {v : Value} {l : List (κ × β)} {R : List (Nat × Obj)} (h : MapRow kenc vf v l R) (hR : ∀ b o, (b, o) ∈ R → μ b = some o) : MapAt kenc vf μ v l := by
  obtain ⟨m, es, clock, rfl, rfl, h3⟩ := h
  exact .inr ⟨m, es, clock, rfl, hR _ _ (List.mem_singleton.2 rfl), h3⟩
structure KeyLaw {κ : Type} (P : Program) (kt : TypeId) (kenc : κ → Value) (beq : κ → κ → Bool) : Prop where
  check : ∀ b k W, (Instr.checkKey b 10000 kt (kenc k)).run P W = .ok () W
  find : ∀ (k : κ) (l : List κ) (es : List MapEntry), es.map (·.key) = l.map kenc → ∀ W, (Instr.findKey kt (kenc k) es).run P W = .ok ((l.findIdx? (fun x => beq k x)).bind fun i => (es[i]?).map fun e => (i, e.val)) W
  eq : ∀ k x, beq k x = true → kenc x = kenc k
  bits : ∀ k, Instr.sameBits 10000 (kenc k) (kenc k) = true
section
variable {P : Program} {W : World} {κ : Type} {kt : TypeId} {kenc : κ → Value} {beq : κ → κ → Bool}
theorem findAsking_run (hq : ∀ x y W, (Op.equal kt (kenc x) (kenc y)).run P W = .ok (beq x y) W) (k : κ) : ∀ (l : List κ) (es : List MapEntry) (i : Nat), es.map (·.key) = l.map kenc →
    (Instr.findAsking kt (kenc k) es i).run P W = .ok ((l.findIdx? (fun x => beq k x)).bind fun j => (es[j]?).map fun e => (i + j, e.val)) W
  | [], [], i, h => by simp [Instr.findAsking]
  | [], _ :: _, i, h => by simp at h
  | _ :: _, [], i, h => by simp at h
  | x :: l, e :: es, i, h => by
    simp only [List.map_cons, List.cons.injEq] at h
    obtain ⟨h1, h2⟩ := h
    simp only [Instr.findAsking, Sem.run_bind, h1, hq, Result.andThen_ok, List.findIdx?_cons]
    cases hb : beq k x with
    | true => simp
    | false =>
      simp only [Bool.false_eq_true, if_false]
      rw [findAsking_run hq k l es (i + 1) h2]
      cases l.findIdx? (fun x => beq k x) with
      | none => rfl
      | some j => simp [Nat.add_assoc, Nat.add_comm 1 j]
theorem findNow_agg {kind : TypeDesc} (hk : ∀ a b, Instr.sameNow kind (.agg a) b = none) (a : Array Value) : ∀ (es : List MapEntry) (i : Nat), Instr.findNow kind (.agg a) es i = if es = [] then some none else none
  | [], i => by simp [Instr.findNow]
  | e :: es, i => by simp [Instr.findNow, hk]
theorem KeyLaw.struct {enc : κ → List Value} {fs : Array Field} (ht : P.underlying kt = some (.struct fs)) (hq : ∀ d x y W, (Op.equalIn (d + 10) kt (.agg (enc x).toArray) (.agg (enc y).toArray)).run P W = .ok (beq x y) W)
    (hc : ∀ b k W, (Instr.checkKey b 10000 kt (.agg (enc k).toArray)).run P W = .ok () W) (he : ∀ k x, beq k x = true → x = k) (hb : ∀ k, Instr.sameBits 10000 (.agg (enc k).toArray) (.agg (enc k).toArray) = true) : KeyLaw P kt (fun x => .agg (enc x).toArray) beq where
  check := hc
  find := fun k l es h W => by
    have hq' : ∀ x y W, (Op.equal kt (.agg (enc x).toArray) (.agg (enc y).toArray)).run P W = .ok (beq x y) W := fun x y W => hq 9990 x y W
    simp only [Instr.findKey, Sem.run_bind, run_underlying ht, Result.andThen_ok]
    rw [findNow_agg (fun a b => by cases b <;> rfl)]
    by_cases h0 : es = []
    · subst h0
      have : l = [] := by simpa using h.symm
      subst this
      simp
    · rw [if_neg h0]
      dsimp only
      rw [show Instr.findAsking kt (.agg (enc k).toArray) es = Instr.findAsking kt (.agg (enc k).toArray) es 0 from rfl, findAsking_run hq' k l es 0 h]
      simp
  eq := fun k x h => by rw [he k x h]
  bits := hb
theorem beqS_iff {a b : ByteArray} : beqS a b = true ↔ a = b := by
  unfold beqS
  rw [ByteArray.toList_eq, ByteArray.toList_eq]
  constructor
  · intro h
    have h1 : a.data.toList = b.data.toList := by simpa using h
    exact ByteArray.ext (Array.toList_inj.1 h1)
  · rintro rfl
    simp
theorem bytes_beq (a b : ByteArray) : (a == b) = beqS a b := by
  rw [Bool.eq_iff_iff, beqS_iff]
  constructor
  · intro h
    have h1 : (a.data == b.data) = true := h
    exact ByteArray.ext (by simpa using h1)
  · rintro rfl
    show (a.data == a.data) = true
    simp
theorem findNow_string (k : ByteArray) : ∀ (l : List ByteArray) (es : List MapEntry) (i : Nat), es.map (·.key) = l.map Value.string →
    Instr.findNow .string (.string k) es i = some ((l.findIdx? (fun x => beqS k x)).bind fun j => (es[j]?).map fun e => (i + j, e.val))
  | [], [], i, h => by simp [Instr.findNow]
  | [], _ :: _, i, h => by simp at h
  | _ :: _, [], i, h => by simp at h
  | x :: l, e :: es, i, h => by
    simp only [List.map_cons, List.cons.injEq] at h
    obtain ⟨h1, h2⟩ := h
    simp only [Instr.findNow, h1, Instr.sameNow, bytes_beq, List.findIdx?_cons]
    cases hb : beqS k x with
    | true => simp
    | false =>
      simp only [Bool.false_eq_true, if_false]
      rw [findNow_string k l es (i + 1) h2]
      cases l.findIdx? (fun x => beqS k x) with
      | none => rfl
      | some j => simp [Nat.add_assoc, Nat.add_comm 1 j]
theorem checkKey_string (ht : P.underlying kt = some .string) (n : Nat) (b : Bool) (k : ByteArray) (W : World) : (Instr.checkKey b (n + 1) kt (.string k)).run P W = .ok () W := by
  simp [Instr.checkKey, run_underlying ht]
theorem KeyLaw.string (ht : P.underlying kt = some .string) : KeyLaw P kt Value.string beqS where
  check := fun b k W => checkKey_string ht 9999 b k W
  find := fun k l es h W => by
    simp only [Instr.findKey, Sem.run_bind, run_underlying ht, Result.andThen_ok]
    have := findNow_string k l es 0 h
    rw [this]
    simp
  eq := fun k x h => by rw [beqS_iff.1 h]
  bits := fun k => by simp only [Instr.sameBits]; rw [bytes_beq]; exact beqS_iff.2 rfl
variable {β : Type} {vf : β → Value} {E : Nat → Value} {d : Option Nat} {ty : TypeId} {pos : String} {af : Array Edge} {g : Option (Nat × Bool)} {F : Nat → Prop} {w : World} {μ : Mem} {L : List (Nat × Obj)}
theorem MapOf.keys {l : List (κ × β)} {es : Array MapEntry} {clock : Nat} (h : MapOf kenc vf l es clock) : es.toList.map (·.key) = (l.map (·.1)).map kenc := by
  have := congrArg (List.map Prod.fst) h.pairs
  simpa [Function.comp_def] using this
theorem MapOf.length {l : List (κ × β)} {es : Array MapEntry} {clock : Nat} (h : MapOf kenc vf l es clock) : es.size = l.length := by
  have := congrArg List.length h.pairs
  simpa using this
theorem MapOf.get {l : List (κ × β)} {es : Array MapEntry} {clock : Nat} (h : MapOf kenc vf l es clock) (k : κ) :
    (((l.map (·.1)).findIdx? (fun x => beq k x)).bind fun i => (es.toList[i]?).map fun e => (i, e.val)) = (l.findIdx? (fun p => beq k p.1)).bind fun i => (l[i]?).map fun p => (i, vf p.2) := by
  rw [List.findIdx?_map]
  show ((l.findIdx? (fun p => beq k p.1)).bind _) = _
  congr 1
  funext i
  have := congrArg (fun q => q[i]?) h.pairs
  simp only [List.getElem?_map] at this
  cases h1 : es.toList[i]? with
  | none => rw [h1] at this; cases h2 : l[i]? with
    | none => rfl
    | some p => rw [h2] at this; cases this
  | some e => rw [h1] at this; cases h2 : l[i]? with
    | none => rw [h2] at this; cases this
    | some p => rw [h2] at this; simp at this; simp [this.2]
theorem mget_idx (l : List (κ × β)) (k : κ) : mget beq l k = (l.findIdx? (fun p => beq k p.1)).bind fun i => (l[i]?).map (·.2) := by
  induction l with
  | nil => rfl
  | cons p l ih =>
    simp only [mget, List.find?_cons, List.findIdx?_cons] at ih ⊢
    cases beq k p.1 with
    | true => rfl
    | false =>
      simp only [Bool.false_eq_true, if_false]
      rw [ih]
      cases l.findIdx? (fun p => beq k p.1) <;> simp
theorem R_lookup {t e : TypeId} {m x : Operand} {mv z : Value} {l : List (κ × β)} {k : κ} (K : KeyLaw P kt kenc beq) (ht : P.underlying t = some (.map kt e)) (hz : ∀ w, (zeroValue e).run P w = .ok z w) (hm : evE E m = mv) (hx : evE E x = kenc k) (hM : MapAt kenc vf (hp W) mv l) :
    Runs P E ⟨d, .lookup t m x false, ty, pos, af, g⟩ W (((mget beq l k).map vf).getD z) W := by
  show (do pure (.value (← Instr.lookup t (evE E m) (evE E x) false)) : Sem Next).run P W = _
  rw [hm, hx]
  rcases hM with ⟨rfl, rfl⟩ | ⟨mb, es, clock, rfl, hb, h3⟩
  · have := K.find k [] [] rfl W
    simp [Instr.lookup, run_underlying ht, K.check, this, hz W, mget]
  · have hb' : W.heap[mb]? = some (.map es clock) := hb
    have h5 : ((getObj mb : Sem Obj)).run P W = .ok (.map es clock) W := by simp [getObj, Sem.run, hb']
    have h6 := K.find k _ _ h3.keys W
    rw [h3.get k] at h6
    simp only [Instr.lookup, Sem.run_bind, run_underlying ht, Result.andThen_ok, h5, Sem.run_pure, K.check, h6, mget_idx]
    cases h7 : l.findIdx? (fun p => beq k p.1) with
    | none => simp [hz W]
    | some i =>
      cases h8 : l[i]? with
      | none => simp [h8, hz W]
      | some p => simp [h8]
theorem findIdx_lt {l : List (κ × β)} {k : κ} {i : Nat} (h : l.findIdx? (fun p => beq k p.1) = some i) : ∃ p, l[i]? = some p ∧ beq k p.1 = true := by
  rw [List.findIdx?_eq_some_iff_getElem] at h
  obtain ⟨h1, h2, _⟩ := h
  exact ⟨l[i], List.getElem?_eq_getElem h1, h2⟩
theorem MapOf.put {l : List (κ × β)} {es : Array MapEntry} {clock : Nat} (h : MapOf kenc vf l es clock) (k : κ) (v : β) :
    match l.findIdx? (fun p => beq k p.1) with
    | some i => MapOf kenc vf (l.set i (k, v)) (es.modify i fun e => { e with key := kenc k, val := vf v }) clock
    | none => MapOf kenc vf (l ++ [(k, v)]) (es.push { key := kenc k, val := vf v, born := clock }) (clock + 1) := by
  cases h7 : l.findIdx? (fun p => beq k p.1) with
  | none =>
    refine ⟨?_, ?_, ?_⟩
    · simp [h.pairs]
    · simp only [Array.toList_push, List.pairwise_append]
      exact ⟨h.born, by simp, fun a ha b hb => by simp at hb; subst hb; exact h.lt a ha⟩
    · intro e he
      simp at he
      rcases he with he | rfl
      · exact Nat.lt_succ_of_lt (h.lt e (by simpa using he))
      · exact Nat.lt_succ_self _
  | some i =>
    obtain ⟨p, hp, _⟩ := findIdx_lt h7
    have hi : i < l.length := (List.getElem?_eq_some_iff.1 hp).1
    have hborn : (es.modify i fun e => { e with key := kenc k, val := vf v }).toList.map (·.born) = es.toList.map (·.born) := by
      apply List.ext_getElem?
      intro j
      simp only [List.getElem?_map, Array.getElem?_toList, Array.getElem?_modify]
      split
      · cases es[j]? <;> simp
      · rfl
    refine ⟨?_, ?_, ?_⟩
    · apply List.ext_getElem?
      intro j
      have hj := congrArg (fun q => q[j]?) h.pairs
      simp only [List.getElem?_map, Array.getElem?_toList] at hj
      simp only [List.getElem?_map, Array.getElem?_toList, Array.getElem?_modify, List.getElem?_set]
      by_cases hij : i = j
      · subst hij
        simp only [if_true]
        rw [if_pos hi]
        cases h8 : es[i]? with
        | none => rw [h8, hp] at hj; cases hj
        | some e => rfl
      · rw [if_neg hij, if_neg hij]; exact hj
    · have := h.born
      rw [← List.pairwise_map (f := fun e : MapEntry => e.born) (R := (· < ·))] at this ⊢
      rw [hborn]; exact this
    · intro e he
      have : e.born ∈ es.toList.map (·.born) := by rw [← hborn]; exact List.mem_map.2 ⟨e, he, rfl⟩
      obtain ⟨e', he', h9⟩ := List.mem_map.1 this
      rw [← h9]; exact h.lt e' he'
theorem run_setMap {W : World} {r : Nat} {es : Array MapEntry} {c : Nat} (hr : W.heap[r]? = some (.map es c)) (o' : Obj) : (setObj r o').run P W = .ok () (ChangeMaps.setBlock W r o') := by
  simp [setObj, Sem.run, hr, ChangeMaps.setBlock]
theorem ST.setBlock {A B : List (Nat × Obj)} {b : Nat} {o : Obj} (h : ST dd F w W μ (A ++ (b, o) :: B)) (o' : Obj) : ST dd F w (ChangeMaps.setBlock W b o') μ (A ++ (b, o') :: B) := by
  have hb := (h.box b o (by simp)).1
  have hlt := lt_of_heap hb
  refine h.put ⟨rfl, rfl, rfl, Nat.le_refl _, by simp [ChangeMaps.setBlock]⟩ (fun k hk => ?_) ?_
  · simp only [ChangeMaps.setBlock]
    rw [Array.getElem?_setIfInBounds_ne (fun e => hk e.symm)]
  · simp only [ChangeMaps.setBlock]
    rw [Array.getElem?_setIfInBounds_self_of_lt hlt]
theorem E_mapUpdate {Kk : Value → World → Prop} (X : List (Nat × Obj)) {Y R : List (Nat × Obj)} {t e : TypeId} {m x y : Operand} {mv : Value} {l : List (κ × β)} {k : κ} {v : β} (K : KeyLaw P kt kenc beq) (ht : P.underlying t = some (.map kt e)) (hST : ST dd F w W μ (X ++ (R ++ Y))) (h : MapRow kenc vf mv l R)
    (hm : evE E m = mv) (hx : evE E x = kenc k) (hy : evE E y = vf v) (hK : ∀ W' R', ST dd F w W' μ (X ++ (R' ++ Y)) → MapRow kenc vf mv (mput beq l k v) R' → Kk undef W') : Eff P E ⟨d, .mapUpdate t m x y, ty, pos, af, g⟩ W Kk := by
  obtain ⟨mb, es, clock, rfl, rfl, h3⟩ := h
  have hb : W.heap[mb]? = some (.map es clock) := (hST.box mb (.map es clock) (by simp)).1
  have h5 : ((getObj mb : Sem Obj)).run P W = .ok (.map es clock) W := by simp [getObj, Sem.run, hb]
  have h6 := K.find k _ _ h3.keys W
  rw [h3.get k] at h6
  have hput := h3.put (beq := beq) k v
  have hrun : ∀ W', (Instr.mapUpdate t (.map (some mb)) (kenc k) (vf v)).run P W = .ok () W' → (execOp (evE E) ⟨d, .mapUpdate t m x y, ty, pos, af, g⟩).run P W = .ok .skip W' := by
    intro W' hr
    show (do Instr.mapUpdate t (evE E m) (evE E x) (evE E y); pure .skip : Sem Next).run P W = _
    rw [hm, hx, hy]
    simp [hr]
  cases h7 : l.findIdx? (fun p => beq k p.1) with
  | none =>
    rw [h7] at h6 hput
    refine .inr (.inl ⟨ChangeMaps.setBlock W mb (.map (es.push { key := kenc k, val := vf v, born := clock }) (clock + 1)), hrun _ ?_, hK _ [(mb, _)] (hST.setBlock _) ⟨mb, _, _, rfl, rfl, ?_⟩⟩)
    · simp [Instr.mapUpdate, run_underlying ht, h5, K.check, h6, run_setMap hb]
    · rw [mput, h7]; exact hput
  | some i =>
    obtain ⟨p, hp, hbq⟩ := findIdx_lt h7
    rw [h7] at h6 hput
    simp only [Option.bind_some, hp, Option.map_some] at h6
    have hkey : ((es[i]?).map (·.key)).getD (kenc k) = kenc k := by
      have := congrArg (fun q => q[i]?) h3.keys
      simp only [List.getElem?_map, hp, Option.map_some, Array.getElem?_toList] at this
      rw [this]
      simp [K.eq k p.1 hbq]
    refine .inr (.inl ⟨ChangeMaps.setBlock W mb (.map (es.modify i fun e => { e with key := kenc k, val := vf v }) clock), hrun _ ?_, hK _ [(mb, _)] (hST.setBlock _) ⟨mb, _, _, rfl, rfl, ?_⟩⟩)
    · simp only [Instr.mapUpdate, Sem.run_bind, run_underlying ht, h5, K.check, h6, Result.andThen_ok, hkey, Instr.keyThatStays, K.bits, if_true, Sem.run_pure]
      exact run_setMap hb _
    · rw [mput, h7]; exact hput
theorem R_lenMap {t e : TypeId} {m : Operand} {mv : Value} {l : List (κ × β)} (ht : P.underlying t = some (.map kt e)) (hm : evE E m = mv) (hM : MapAt kenc vf (hp W) mv l) :
    Runs P E ⟨d, .call ⟨.builtin .len, #[m], #[t]⟩, ty, pos, af, g⟩ W (.int .i64 l.length) W := by
  show (do let d ← resolve (evE E) ⟨.builtin .len, #[m], #[t]⟩ ty; invoke d.target d.args : Sem Next).run P W = _
  rcases hM with ⟨rfl, rfl⟩ | ⟨mb, es, clock, rfl, hb, h3⟩
  · simp [resolve, invoke, builtin, Builtin.len_, run_underlying ht, hm, goInt]
  · have hb' : W.heap[mb]? = some (.map es clock) := hb
    simp [resolve, invoke, builtin, Builtin.len_, run_underlying ht, hm, goInt, getObj, Sem.run, hb', h3.length]
theorem E_makeMap {Kk : Value → World → Prop} {t : TypeId} (kenc : κ → Value) (vf : β → Value) (hST : ST dd F w W μ L) (hK : ∀ W' v R, ST dd F w W' μ (R ++ L) → MapRow kenc vf v [] R → Kk v W') : Eff P E ⟨d, .makeMap t none, ty, pos, af, g⟩ W Kk :=
  .inl ⟨.map (some W.heap.size), W.alloc (.map #[] 0), by
      show (do pure (.value (← Instr.makeMap t none)) : Sem Next).run P W = _
      simp [Instr.makeMap, newObj, Sem.run], hK _ _ [(W.heap.size, .map #[] 0)] (hST.alloc _) ⟨_, _, _, rfl, rfl, ⟨rfl, by simp, by simp⟩⟩⟩
end
end Go.Proofs.Ytfjdjbdnnoijgaa
