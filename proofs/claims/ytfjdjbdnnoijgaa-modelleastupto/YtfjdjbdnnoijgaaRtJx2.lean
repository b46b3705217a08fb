/- a part of a proof of ModelLeast -/
import Derived.Test.YtfjdjbdnnoijgaaRtHx2
import Derived.ChangeKeysEq
set_option linter.all false
namespace Go.Proofs.Ytfjdjbdnnoijgaa
open Go.RowKit
variable {dd : Bool}
def Vals {κ γ : Type} (Q : Value → γ → List (Nat × Obj) → Prop) : List (κ × Value) → List (κ × γ) → List (Nat × Obj) → Prop
  | [], [], R => R = []
  | p :: lv, q :: l, R => p.1 = q.1 ∧ ∃ R1 R2, R = R1 ++ R2 ∧ Q p.2 q.2 R1 ∧ Vals Q lv l R2
  | _, _, _ => False
def DeepV {κ γ : Type} (kenc : κ → Value) (Q : Value → γ → List (Nat × Obj) → Prop) (v : Value) (lv : List (κ × Value)) (l : List (κ × γ)) (R : List (Nat × Obj)) : Prop :=
  ∃ Rm Rv, R = Rm ++ Rv ∧ MapRow kenc (fun x => x) v lv Rm ∧ Vals Q lv l Rv
section
variable {κ γ : Type} {Q : Value → γ → List (Nat × Obj) → Prop} {beq : κ → κ → Bool} {kenc : κ → Value}
theorem Vals.keys : ∀ {lv : List (κ × Value)} {l : List (κ × γ)} {R : List (Nat × Obj)}, Vals Q lv l R → lv.map (·.1) = l.map (·.1)
  | [], [], _, _ => rfl
  | [], _ :: _, _, h => h.elim
  | _ :: _, [], _, h => h.elim
  | p :: lv, q :: l, R, h => by
    obtain ⟨h1, R1, R2, _, _, h4⟩ := h
    simp [h1, Vals.keys h4]
theorem Vals.find {lv : List (κ × Value)} {l : List (κ × γ)} {R : List (Nat × Obj)} (h : Vals Q lv l R) (k : κ) : lv.findIdx? (fun p => beq k p.1) = l.findIdx? (fun p => beq k p.1) := by
  have h1 : (lv.map (·.1)).findIdx? (fun x => beq k x) = (l.map (·.1)).findIdx? (fun x => beq k x) := by rw [h.keys]
  rw [List.findIdx?_map, List.findIdx?_map] at h1
  exact h1
theorem Vals.get : ∀ {lv : List (κ × Value)} {l : List (κ × γ)} {R : List (Nat × Obj)}, Vals Q lv l R → ∀ (i : Nat) (k : κ) (x : γ), l[i]? = some (k, x) →
    ∃ v A R1 B, lv[i]? = some (k, v) ∧ R = A ++ (R1 ++ B) ∧ Q v x R1 ∧ ∀ k2 v2 x2 R2, Q v2 x2 R2 → Vals Q (lv.set i (k2, v2)) (l.set i (k2, x2)) (A ++ (R2 ++ B))
  | [], [], _, _, i, k, x, hi => by simp at hi
  | [], _ :: _, _, h, _, _, _, _ => h.elim
  | _ :: _, [], _, h, _, _, _, _ => h.elim
  | p :: lv, q :: l, R, h, 0, k, x, hi => by
    obtain ⟨h1, R1, R2, rfl, h3, h4⟩ := h
    simp at hi
    subst hi
    refine ⟨p.2, [], R1, R2, by simp only [List.getElem?_cons_zero]; exact congrArg some (Prod.ext h1 rfl), rfl, h3, fun k2 v2 x2 R2' hq => ⟨rfl, R2', R2, rfl, hq, h4⟩⟩
  | p :: lv, q :: l, R, h, i + 1, k, x, hi => by
    obtain ⟨h1, R1, R2, rfl, h3, h4⟩ := h
    simp at hi
    obtain ⟨v, A, R1', B, g1, rfl, g3, g4⟩ := Vals.get h4 i k x hi
    exact ⟨v, R1 ++ A, R1', B, by simpa using g1, by simp, g3, fun k2 v2 x2 R2' hq => ⟨h1, R1, A ++ (R2' ++ B), by simp, h3, g4 k2 v2 x2 R2' hq⟩⟩
theorem Vals.push : ∀ {lv : List (κ × Value)} {l : List (κ × γ)} {R : List (Nat × Obj)}, Vals Q lv l R → ∀ (k : κ) {v : Value} {x : γ} {R1 : List (Nat × Obj)}, Q v x R1 → Vals Q (lv ++ [(k, v)]) (l ++ [(k, x)]) (R ++ R1)
  | [], [], _, h, k, v, x, R1, hq => by
    have h' : _ = [] := h
    subst h'
    exact ⟨rfl, R1, [], by simp, hq, rfl⟩
  | [], _ :: _, _, h, _, _, _, _, _ => h.elim
  | _ :: _, [], _, h, _, _, _, _, _ => h.elim
  | p :: lv, q :: l, R, h, k, v, x, R1, hq => by
    obtain ⟨h1, Ra, Rb, rfl, h3, h4⟩ := h
    exact ⟨h1, Ra, Rb ++ R1, by simp, h3, Vals.push h4 k hq⟩
theorem DeepV.found {mv : Value} {lv : List (κ × Value)} {l : List (κ × γ)} {R : List (Nat × Obj)} (hk : ∀ {x y : κ}, beq x y = true → x = y) (h : DeepV kenc Q mv lv l R) {k : κ} {x : γ} (hx : mget beq l k = some x) :
    ∃ v A R1 B, mget beq lv k = some v ∧ R = A ++ (R1 ++ B) ∧ Q v x R1 ∧ (∀ x2 R2, Q v x2 R2 → DeepV kenc Q mv lv (mput beq l k x2) (A ++ (R2 ++ B))) := by
  obtain ⟨Rm, Rv, rfl, h2, h3⟩ := h
  rw [mget_idx] at hx
  cases hi : l.findIdx? (fun p => beq k p.1) with
  | none => rw [hi] at hx; cases hx
  | some i =>
    rw [hi] at hx
    obtain ⟨p, hp, hb⟩ := findIdx_lt hi
    simp only [Option.bind_some, hp, Option.map_some, Option.some.injEq] at hx
    subst hx
    have hkk := hk hb
    obtain ⟨v, A, R1, B, g1, rfl, g3, g4⟩ := h3.get i p.1 p.2 hp
    have hi2 : lv.findIdx? (fun p => beq k p.1) = some i := by rw [h3.find k, hi]
    refine ⟨v, Rm ++ A, R1, B, by rw [mget_idx, hi2]; simp [g1], by simp, g3, fun x2 R2 hq => ⟨Rm, A ++ (R2 ++ B), by simp, h2, ?_⟩⟩
    have hset := g4 k v x2 R2 hq
    have e : lv.set i (k, v) = lv := by
      apply List.ext_getElem?
      intro j
      rw [List.getElem?_set]
      split
      · rename_i hij
        subst hij
        rw [g1, hkk]
        simp [(List.getElem?_eq_some_iff.1 g1).1]
      · rfl
    rw [e] at hset
    rw [mput, hi]
    exact hset
theorem DeepV.miss {mv : Value} {lv : List (κ × Value)} {l : List (κ × γ)} {R : List (Nat × Obj)} (h : DeepV kenc Q mv lv l R) {k : κ} (hx : mget beq l k = none) : mget beq lv k = none := by
  obtain ⟨Rm, Rv, rfl, h2, h3⟩ := h
  rw [mget_idx] at hx ⊢
  rw [h3.find k]
  cases hi : l.findIdx? (fun p => beq k p.1) with
  | none => rfl
  | some i =>
    rw [hi] at hx
    obtain ⟨p, hp, hb⟩ := findIdx_lt hi
    simp [hp] at hx
def valAt (beq : κ → κ → Bool) (lv : List (κ × Value)) (k : κ) (z : Value) : Value := (mget beq lv k).getD z
variable {P : Program} {W : World} {kt : TypeId} {E : Nat → Value} {d : Option Nat} {ty : TypeId} {pos : String} {af : Array Edge} {g : Option (Nat × Bool)} {F : Nat → Prop} {w : World} {μ : Mem} {L : List (Nat × Obj)}
theorem R_lookupDeep {t e : TypeId} {m x : Operand} {mv z : Value} {lv : List (κ × Value)} {l : List (κ × γ)} {R : List (Nat × Obj)} {k : κ} (K : KeyLaw P kt kenc beq) (ht : P.underlying t = some (.map kt e)) (hz : ∀ w, (zeroValue e).run P w = .ok z w)
    (hm : evE E m = mv) (hx : evE E x = kenc k) (hM : DeepV kenc Q mv lv l R) (hR : ∀ b o, (b, o) ∈ R → W.heap[b]? = some o) : Runs P E ⟨d, .lookup t m x false, ty, pos, af, g⟩ W (valAt beq lv k z) W := by
  obtain ⟨Rm, Rv, rfl, h2, h3⟩ := hM
  have h4 := R_lookup (d := d) (ty := ty) (pos := pos) (af := af) (g := g) K ht hz hm hx (h2.at (μ := hp W) (fun b o h => hR b o (List.mem_append_left _ h)))
  simpa [valAt] using h4
variable {κ2 β : Type} {kenc2 : κ2 → Value} {vf : β → Value} {beq2 : κ2 → κ2 → Bool} {kt2 : TypeId}
theorem DeepV.mapAt {mv : Value} {lv : List (κ × Value)} {l : List (κ × List (κ2 × β))} {R : List (Nat × Obj)} (hk : ∀ {x y : κ}, beq x y = true → x = y) (h : DeepV kenc (MapRow kenc2 vf) mv lv l R) (k : κ) {μ : Mem} (hR : ∀ b o, (b, o) ∈ R → μ b = some o) :
    MapAt kenc2 vf μ (valAt beq lv k (.map none)) ((mget beq l k).getD []) := by
  cases hx : mget beq l k with
  | none => rw [valAt, h.miss hx]; exact .inl ⟨rfl, rfl⟩
  | some x =>
    obtain ⟨v, A, R1, B, g1, rfl, g3, _⟩ := h.found hk hx
    rw [valAt, g1]
    exact g3.at (fun b o hb => hR b o (by simp [hb]))
theorem DeepV.isNil {mv : Value} {lv : List (κ × Value)} {l : List (κ × List (κ2 × β))} {R : List (Nat × Obj)} (hk : ∀ {x y : κ}, beq x y = true → x = y) (h : DeepV kenc (MapRow kenc2 vf) mv lv l R) (k : κ) :
    ∃ r, valAt beq lv k (.map none) = .map r ∧ r.isNone = (mget beq l k).isNone := by
  cases hx : mget beq l k with
  | none => rw [valAt, h.miss hx]; exact ⟨none, rfl, rfl⟩
  | some x =>
    obtain ⟨v, A, R1, B, g1, rfl, g3, _⟩ := h.found hk hx
    obtain ⟨m, es, clock, rfl, _⟩ := g3
    rw [valAt, g1]
    exact ⟨_, rfl, rfl⟩
def mupd {κ κ2 β : Type} (beq : κ → κ → Bool) (beq2 : κ2 → κ2 → Bool) (l : List (κ × List (κ2 × β))) (k : κ) (k2 : κ2) (x : β) : Option (List (κ × List (κ2 × β))) := (mget beq l k).map fun l2 => mput beq l k (mput beq2 l2 k2 x)
def mnew {κ γ : Type} (beq : κ → κ → Bool) (l : List (κ × γ)) (k : κ) (x : γ) : Option (List (κ × γ)) := if (mget beq l k).isNone then some (mput beq l k x) else none
theorem E_updDeep {Kk : Value → World → Prop} (X : List (Nat × Obj)) {Y R : List (Nat × Obj)} {t e : TypeId} {m x y : Operand} {mv : Value} {lv : List (κ × Value)} {l l' : List (κ × List (κ2 × β))} {k : κ} {k2 : κ2} {v : β} (hk : ∀ {x y : κ}, beq x y = true → x = y) (K : KeyLaw P kt2 kenc2 beq2) (ht : P.underlying t = some (.map kt2 e))
    (hST : ST dd F w W μ (X ++ (R ++ Y))) (h : DeepV kenc (MapRow kenc2 vf) mv lv l R) (hm : evE E m = valAt beq lv k (.map none)) (hx : evE E x = kenc2 k2) (hy : evE E y = vf v) (hl : mupd beq beq2 l k k2 v = some l')
    (hK : ∀ W' R', ST dd F w W' μ (X ++ (R' ++ Y)) → DeepV kenc (MapRow kenc2 vf) mv lv l' R' → Kk undef W') : Eff P E ⟨d, .mapUpdate t m x y, ty, pos, af, g⟩ W Kk := by
  unfold mupd at hl
  cases hg : mget beq l k with
  | none => rw [hg] at hl; cases hl
  | some l2 =>
    rw [hg] at hl
    cases hl
    obtain ⟨u, A, R1, B, g1, rfl, g3, g4⟩ := h.found hk hg
    have hm' : evE E m = u := by rw [hm, valAt, g1]; rfl
    have hST' : ST dd F w W μ ((X ++ A) ++ (R1 ++ (B ++ Y))) := by simpa using hST
    refine E_mapUpdate (X ++ A) K ht hST' g3 hm' hx hy (fun W' R' h1 h2 => hK W' (A ++ (R' ++ B)) ?_ (g4 _ _ h2))
    simpa using h1
theorem E_newDeep {Kk : Value → World → Prop} (X : List (Nat × Obj)) {Y R R2 : List (Nat × Obj)} {t e : TypeId} {m x y : Operand} {mv : Value} {lv : List (κ × Value)} {l l' : List (κ × γ)} {k : κ} {u : Value} {z : γ} (K : KeyLaw P kt kenc beq) (ht : P.underlying t = some (.map kt e))
    (hST : ST dd F w W μ (X ++ (R ++ (R2 ++ Y)))) (h : DeepV kenc Q mv lv l R) (hm : evE E m = mv) (hx : evE E x = kenc k) (hy : evE E y = u) (hq : Q u z R2) (hl : mnew beq l k z = some l')
    (hK : ∀ W' R', ST dd F w W' μ (X ++ (R' ++ Y)) → DeepV kenc Q mv (mput beq lv k u) l' R' → Kk undef W') : Eff P E ⟨d, .mapUpdate t m x y, ty, pos, af, g⟩ W Kk := by
  unfold mnew at hl
  cases hg : mget beq l k with
  | some l2 => rw [hg] at hl; cases hl
  | none =>
    rw [hg] at hl
    simp only [Option.isNone_none, if_true, Option.some.injEq] at hl
    subst hl
    have hn := h.miss hg
    obtain ⟨Rm, Rv, rfl, h2, h3⟩ := h
    have hST' : ST dd F w W μ (X ++ (Rm ++ (Rv ++ (R2 ++ Y)))) := by simpa using hST
    refine E_mapUpdate X K ht hST' h2 hm hx hy (fun W' R' g1 g2 => hK W' (R' ++ (Rv ++ R2)) (by simpa using g1) ⟨R', Rv ++ R2, rfl, g2, ?_⟩)
    have e1 : ∀ {δ : Type} (q : List (κ × δ)) (y : δ), mget beq q k = none → mput beq q k y = q ++ [(k, y)] := fun q y hq' => by
      rw [mget_idx] at hq'
      rw [mput]
      cases hi : q.findIdx? (fun p => beq k p.1) with
      | none => rfl
      | some i =>
        obtain ⟨p, hp, _⟩ := findIdx_lt hi
        rw [hi] at hq'
        simp [hp] at hq'
    rw [e1 lv u hn, e1 l z hg]
    exact h3.push k hq
end
end Go.Proofs.Ytfjdjbdnnoijgaa
