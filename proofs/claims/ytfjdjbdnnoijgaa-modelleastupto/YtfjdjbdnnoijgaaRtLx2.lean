/- a part of a proof of ModelLeast -/
import Derived.Test.YtfjdjbdnnoijgaaRtKx2
set_option linter.all false
namespace Go.Proofs.Ytfjdjbdnnoijgaa
open Go.RowKit
variable {dd : Bool}
section
variable {κ γ : Type} {Q : Value → γ → List (Nat × Obj) → Prop} {beq : κ → κ → Bool} {kenc : κ → Value}
variable {P : Program} {W : World} {kt : TypeId} {E : Nat → Value} {d : Option Nat} {ty : TypeId} {pos : String} {af : Array Edge} {g : Option (Nat × Bool)} {F : Nat → Prop} {w : World} {μ : Mem} {L : List (Nat × Obj)}
theorem modify_congr {es : Array MapEntry} {i : Nat} {f f' : MapEntry → MapEntry} (h : ∀ e, es[i]? = some e → f e = f' e) : es.modify i f = es.modify i f' := by
  apply Array.ext_getElem?
  intro j
  rw [Array.getElem?_modify, Array.getElem?_modify]
  split
  · rename_i hij
    subst hij
    cases he : es[i]? with
    | none => rfl
    | some e => simp [h e he]
  · rfl
theorem MapOf.val {lv : List (κ × Value)} {es : Array MapEntry} {clock : Nat} (h : MapOf kenc (fun x => x) lv es clock) {i : Nat} {e : MapEntry} (he : es[i]? = some e) : ∃ p, lv[i]? = some p ∧ e.key = kenc p.1 ∧ e.val = p.2 := by
  have hj := congrArg (fun q => q[i]?) h.pairs
  simp only [List.getElem?_map, Array.getElem?_toList, he, Option.map_some] at hj
  cases hp : lv[i]? with
  | none => rw [hp] at hj; cases hj
  | some p =>
    rw [hp] at hj
    simp only [Option.map_some, Option.some.injEq, Prod.mk.injEq] at hj
    exact ⟨p, rfl, hj.1, hj.2⟩
theorem E_mapEntry {Kk : Value → World → Prop} (X : List (Nat × Obj)) {Y R : List (Nat × Obj)} {t e : TypeId} {m x : Operand} {mv z : Value} {x0 : γ} {lv : List (κ × Value)} {l : List (κ × γ)} {k : κ} (hk : ∀ {x y : κ}, beq x y = true ↔ x = y) (K : KeyLaw P kt kenc beq) (ht : P.underlying t = some (.map kt e))
    (hz : ∀ w, (zeroValue e).run P w = .ok z w) (hq0 : Q z x0 []) (hST : ST dd F w W μ (X ++ (R ++ Y))) (h : DeepV kenc Q mv lv l R) (hm : evE E m = mv) (hx : evE E x = kenc k)
    (hK : ∀ W' v st R' R1, ST dd F w W' μ (X ++ (R' ++ (R1 ++ Y))) → Q v ((mget beq l k).getD x0) R1 → HoleE beq kenc Q mv l k st R' → Kk (.tuple #[v, .int .i64 (st : Nat)]) W') : Eff P E ⟨d, .mapEntry t m x, ty, pos, af, g⟩ W Kk := by
  obtain ⟨Rm, Rv, rfl, ⟨mb, es, clock, rfl, rfl, h2⟩, h3⟩ := h
  have hb : W.heap[mb]? = some (.map es clock) := (hST.box mb (.map es clock) (by simp)).1
  have h5 : ((getObj mb : Sem Obj)).run P W = .ok (.map es clock) W := by simp [getObj, Sem.run, hb]
  have h6 := K.find k _ _ h2.keys W
  rw [h2.get k] at h6
  have hf := h3.find (beq := beq) k
  have hrun : ∀ W' v, (Instr.mapEntry t (.map (some mb)) (kenc k)).run P W = .ok v W' → (execOp (evE E) ⟨d, .mapEntry t m x, ty, pos, af, g⟩).run P W = .ok (.value v) W' := by
    intro W' v hr
    show (do pure (.value (← Instr.mapEntry t (evE E m) (evE E x))) : Sem Next).run P W = _
    rw [hm, hx]
    simp [hr]
  have hST1 : ST dd F w W μ (X ++ (mb, .map es clock) :: (Rv ++ Y)) := by simpa using hST
  cases hi : lv.findIdx? (fun p => beq k p.1) with
  | none =>
    rw [hi] at h6 hf
    have hput := h2.put (beq := beq) k z
    rw [hi] at hput
    refine .inl ⟨_, ChangeMaps.setBlock W mb (.map (es.push { key := kenc k, val := z, born := clock }) (clock + 1)), hrun _ (.tuple #[z, .int .i64 (clock : Nat)]) ?_, hK _ z clock ((mb, .map (es.push { key := kenc k, val := z, born := clock }) (clock + 1)) :: (Rv ++ [])) [] ?_ ?_ ?_⟩
    · simp [Instr.mapEntry, run_underlying ht, h5, K.check, h6, run_setMap hb, hz _, goInt]
    · have := hST1.setBlock (.map (es.push { key := kenc k, val := z, born := clock }) (clock + 1))
      simpa using this
    · rw [mget_miss hf.symm]; exact hq0
    · refine ⟨mb, _, _, lv ++ [(k, z)], Rv, [], es.size, { key := kenc k, val := z, born := clock }, rfl, rfl, hput, by simp, rfl, ?_, fun v x R1 hq => ?_⟩
      · rw [List.findIdx?_append, hi]
        have hsz := h2.length
        simp [List.findIdx?_cons, hk, hsz]
      · rw [← mput_miss hi, mput_mput (fun x => hk.2 rfl), mput_miss hi, mput_miss hf.symm]
        simpa using h3.push k hq
  | some i =>
    rw [hi] at h6 hf
    obtain ⟨p, hp, hbq⟩ := findIdx_lt hi
    obtain ⟨q, hqq, hbq2⟩ := findIdx_lt hf.symm
    have hkq := hk.1 hbq2
    obtain ⟨v, A, R1, B, g1, rfl, g3, g4⟩ := h3.get i q.1 q.2 hqq
    have hpv : p.2 = v := by rw [g1] at hp; cases hp; rfl
    have hsz := h2.length
    have hil : i < lv.length := (List.getElem?_eq_some_iff.1 hp).1
    obtain ⟨en, hen⟩ : ∃ en, es[i]? = some en := ⟨es[i], Array.getElem?_eq_getElem (by omega)⟩
    obtain ⟨p', hp', hkey', hval'⟩ := h2.val hen
    rw [hp] at hp'
    cases hp'
    simp only [Option.bind_some, hp, Option.map_some] at h6
    have hput := h2.put (beq := beq) k v
    rw [hi] at hput
    have hkey : ((es[i]?).map (·.key)).getD (kenc k) = kenc k := by
      rw [hen]
      simp only [Option.map_some, Option.getD_some, hkey']
      exact K.eq k p.1 hbq
    have hmod : es.modify i (fun e => { e with key := kenc k }) = es.modify i (fun e => { e with key := kenc k, val := v }) := modify_congr fun e he => by
      rw [hen] at he; cases he
      rw [← hpv, ← hval']
    refine .inl ⟨_, ChangeMaps.setBlock W mb (.map (es.modify i fun e => { e with key := kenc k, val := v }) clock), hrun _ (.tuple #[v, .int .i64 (en.born : Nat)]) ?_, hK _ v en.born ((mb, .map (es.modify i fun e => { e with key := kenc k, val := v }) clock) :: (A ++ B)) R1 ?_ ?_ ?_⟩
    · simp only [Instr.mapEntry, Sem.run_bind, run_underlying ht, h5, K.check, h6, Result.andThen_ok, hkey, Instr.keyThatStays, K.bits, if_true, Sem.run_pure]
      rw [run_setMap hb, hmod]
      simp [hen, goInt, hpv]
    · have := hST1.setBlock (.map (es.modify i fun e => { e with key := kenc k, val := v }) clock)
      refine this.perm ?_
      simp only [List.append_assoc, List.cons_append]
      refine List.Perm.append_left _ (List.Perm.cons _ (List.Perm.append_left _ ?_))
      rw [← List.append_assoc, ← List.append_assoc]
      exact List.Perm.append_right _ List.perm_append_comm
    · rw [mget_found hf.symm hqq]; exact g3
    · refine ⟨mb, _, _, lv.set i (k, v), A, B, i, { en with key := kenc k, val := v }, rfl, rfl, hput, ?_, rfl, ?_, fun v2 x2 R2 hq => ?_⟩
      · rw [Array.getElem?_modify, if_pos rfl, hen]; rfl
      · rw [List.findIdx?_eq_some_iff_getElem] at hi ⊢
        obtain ⟨h1, h2, h3⟩ := hi
        refine ⟨by simpa using h1, by simp [hk], fun j hj => ?_⟩
        rw [List.getElem_set_ne (by omega)]
        exact h3 j hj
      · rw [← mput_found hi, mput_mput (fun x => hk.2 rfl), mput_found hi, mput_found hf.symm]
        exact g4 k v2 x2 R2 hq
theorem born_find {es : Array MapEntry} (h : es.toList.Pairwise (fun a b => a.born < b.born)) {i : Nat} {e : MapEntry} (he : es[i]? = some e) : es.findIdx? (fun a => (a.born : Int) == (e.born : Int)) = some i := by
  rw [Array.findIdx?_eq_some_iff_getElem]
  obtain ⟨hl, hei⟩ := Array.getElem?_eq_some_iff.1 he
  refine ⟨hl, by rw [hei]; simp, fun j hj => ?_⟩
  have := List.pairwise_iff_getElem.1 h j i (by simpa using Nat.lt_trans hj hl) (by simpa using hl) hj
  simp only [Array.getElem_toList] at this
  rw [hei] at this
  simp
  omega
theorem E_entryStore {Kk : Value → World → Prop} (X : List (Nat × Obj)) {Y R R1 : List (Nat × Obj)} {t e : TypeId} {m s y : Operand} {mv u : Value} {z : γ} {l : List (κ × γ)} {k : κ} {st : Nat} (hk : ∀ {x y : κ}, beq x y = true ↔ x = y) (K : KeyLaw P kt kenc beq)
    (hST : ST dd F w W μ (X ++ (R ++ (R1 ++ Y)))) (h : HoleE beq kenc Q mv l k st R) (hm : evE E m = mv) (hs : evE E s = .int .i64 (st : Nat)) (hy : evE E y = u) (hq : Q u z R1)
    (hK : ∀ W' lv' R', ST dd F w W' μ (X ++ (R' ++ Y)) → DeepV kenc Q mv lv' (mput beq l k z) R' → Kk undef W') : Eff P E ⟨d, .entryStore t m s y, ty, pos, af, g⟩ W Kk := by
  obtain ⟨mb, es, clock, lv, A, B, i, en, rfl, rfl, h2, hen, hborn, hi, h3⟩ := h
  have hb : W.heap[mb]? = some (.map es clock) := (hST.box mb (.map es clock) (by simp)).1
  have h5 : ((getObj mb : Sem Obj)).run P W = .ok (.map es clock) W := by simp [getObj, Sem.run, hb]
  obtain ⟨p, hp, hbq⟩ := findIdx_lt hi
  obtain ⟨p', hp', hkey', hval'⟩ := h2.val hen
  rw [hp] at hp'
  cases hp'
  have hput := h2.put (beq := beq) k u
  rw [hi] at hput
  have hmod : es.modify i (fun e => { e with val := u }) = es.modify i (fun e => { e with key := kenc k, val := u }) := modify_congr fun e he => by
    rw [hen] at he; cases he
    have hen2 : en.key = kenc k := by rw [hkey']; exact K.eq k p.1 hbq
    rw [← hen2]
  have hfi := born_find h2.born hen
  rw [hborn] at hfi
  have hST1 : ST dd F w W μ (X ++ (mb, .map es clock) :: (A ++ (B ++ (R1 ++ Y)))) := by simpa using hST
  refine .inr (.inl ⟨ChangeMaps.setBlock W mb (.map (es.modify i fun e => { e with key := kenc k, val := u }) clock), ?_, hK _ (mput beq lv k u) ((mb, .map (es.modify i fun e => { e with key := kenc k, val := u }) clock) :: (A ++ (R1 ++ B))) ?_ ⟨[(mb, .map (es.modify i fun e => { e with key := kenc k, val := u }) clock)], A ++ (R1 ++ B), rfl, ⟨mb, _, _, rfl, rfl, ?_⟩, h3 u z R1 hq⟩⟩)
  · show (do Instr.entryStore t (evE E m) (evE E s) (evE E y); pure .skip : Sem Next).run P W = _
    rw [hm, hs, hy]
    simp only [Instr.entryStore, Sem.run_bind, h5, Result.andThen_ok, asInt, asIntOf, Sem.run_pure, hfi]
    rw [run_setMap hb, hmod]
    rfl
  · have := hST1.setBlock (.map (es.modify i fun e => { e with key := kenc k, val := u }) clock)
    refine this.perm ?_
    simp only [List.append_assoc, List.cons_append]
    refine List.Perm.append_left _ (List.Perm.cons _ (List.Perm.append_left _ ?_))
    rw [← List.append_assoc, ← List.append_assoc]
    exact List.Perm.append_right _ List.perm_append_comm
  · rw [mput_found hi]; exact hput
end
end Go.Proofs.Ytfjdjbdnnoijgaa
