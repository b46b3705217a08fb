/- a part of a proof of ModelLeast -/
import Derived.Test.YtfjdjbdnnoijgaaRtJx2
set_option linter.all false
namespace Go.Proofs.Ytfjdjbdnnoijgaa
open Go.RowKit
variable {dd : Bool}
section
variable {κ γ : Type} {Q : Value → γ → List (Nat × Obj) → Prop} {beq : κ → κ → Bool} {kenc : κ → Value}
theorem mput_found {δ : Type} {l : List (κ × δ)} {k : κ} {i : Nat} (h : l.findIdx? (fun p => beq k p.1) = some i) (x : δ) : mput beq l k x = l.set i (k, x) := by rw [mput, h]
theorem mput_miss {δ : Type} {l : List (κ × δ)} {k : κ} (h : l.findIdx? (fun p => beq k p.1) = none) (x : δ) : mput beq l k x = l ++ [(k, x)] := by rw [mput, h]
theorem mget_miss {δ : Type} {l : List (κ × δ)} {k : κ} (h : l.findIdx? (fun p => beq k p.1) = none) : mget beq l k = none := by rw [mget_idx, h]; rfl
theorem mget_found {δ : Type} {l : List (κ × δ)} {k : κ} {i : Nat} {p : κ × δ} (h : l.findIdx? (fun p => beq k p.1) = some i) (hp : l[i]? = some p) : mget beq l k = some p.2 := by rw [mget_idx, h]; simp [hp]
def HoleV (beq : κ → κ → Bool) (kenc : κ → Value) (Q : Value → γ → List (Nat × Obj) → Prop) (mv : Value) (lv : List (κ × Value)) (l : List (κ × γ)) (k : κ) (R : List (Nat × Obj)) : Prop :=
  ∃ Rm A B, R = Rm ++ (A ++ B) ∧ MapRow kenc (fun x => x) mv lv Rm ∧ ∀ v x R1, Q v x R1 → Vals Q (mput beq lv k v) (mput beq l k x) (A ++ (R1 ++ B))
theorem DeepV.open (hk : ∀ {x y : κ}, beq x y = true → x = y) {mv z : Value} {x0 : γ} (hq0 : Q z x0 []) {lv : List (κ × Value)} {l : List (κ × γ)} {R : List (Nat × Obj)} (h : DeepV kenc Q mv lv l R) (k : κ) :
    ∃ R' R1, R.Perm (R' ++ R1) ∧ Q (valAt beq lv k z) ((mget beq l k).getD x0) R1 ∧ HoleV beq kenc Q mv lv l k R' := by
  obtain ⟨Rm, Rv, rfl, h2, h3⟩ := h
  have hf := h3.find (beq := beq) k
  cases hi : l.findIdx? (fun p => beq k p.1) with
  | none =>
    rw [hi] at hf
    refine ⟨Rm ++ Rv, [], by simp, ?_, Rm, Rv, [], by simp, h2, fun v x R1 hq => ?_⟩
    · rw [valAt, mget_miss hi, mget_miss hf]; exact hq0
    · rw [mput_miss hi, mput_miss hf]; simpa using h3.push k hq
  | some i =>
    rw [hi] at hf
    obtain ⟨p, hp, hb⟩ := findIdx_lt hi
    have hkk := hk hb
    obtain ⟨v, A, R1, B, g1, rfl, g3, g4⟩ := h3.get i p.1 p.2 hp
    refine ⟨Rm ++ (A ++ B), R1, ?_, ?_, Rm, A, B, rfl, h2, fun v2 x2 R2 hq => ?_⟩
    · rw [List.append_assoc, List.append_assoc]
      refine List.Perm.append_left _ (List.Perm.append_left _ List.perm_append_comm)
    · rw [valAt, mget_found hi hp, mget_found hf g1]; exact g3
    · rw [mput_found hi, mput_found hf]; exact g4 k v2 x2 R2 hq
variable {P : Program} {W : World} {kt : TypeId} {E : Nat → Value} {d : Option Nat} {ty : TypeId} {pos : String} {af : Array Edge} {g : Option (Nat × Bool)} {F : Nat → Prop} {w : World} {μ : Mem} {L : List (Nat × Obj)}
theorem E_fill {Kk : Value → World → Prop} (X : List (Nat × Obj)) {Y R R1 : List (Nat × Obj)} {t e : TypeId} {m x y : Operand} {mv : Value} {lv : List (κ × Value)} {l : List (κ × γ)} {k : κ} {u : Value} {z : γ} (K : KeyLaw P kt kenc beq) (ht : P.underlying t = some (.map kt e))
    (hST : ST dd F w W μ (X ++ (R ++ (R1 ++ Y)))) (h : HoleV beq kenc Q mv lv l k R) (hm : evE E m = mv) (hx : evE E x = kenc k) (hy : evE E y = u) (hq : Q u z R1)
    (hK : ∀ W' R', ST dd F w W' μ (X ++ (R' ++ Y)) → DeepV kenc Q mv (mput beq lv k u) (mput beq l k z) R' → Kk undef W') : Eff P E ⟨d, .mapUpdate t m x y, ty, pos, af, g⟩ W Kk := by
  obtain ⟨Rm, A, B, rfl, h2, h3⟩ := h
  have hST' : ST dd F w W μ (X ++ (Rm ++ (A ++ (B ++ (R1 ++ Y))))) := by simpa using hST
  refine E_mapUpdate X K ht hST' h2 hm hx hy (fun W' R' g1 g2 => hK W' (R' ++ (A ++ (R1 ++ B))) ?_ ⟨R', A ++ (R1 ++ B), rfl, g2, h3 u z R1 hq⟩)
  refine g1.perm ?_
  simp only [List.append_assoc]
  refine List.Perm.append_left _ (List.Perm.append_left _ (List.Perm.append_left _ ?_))
  rw [← List.append_assoc, ← List.append_assoc]
  exact List.Perm.append_right _ List.perm_append_comm
def HoleE (beq : κ → κ → Bool) (kenc : κ → Value) (Q : Value → γ → List (Nat × Obj) → Prop) (mv : Value) (l : List (κ × γ)) (k : κ) (st : Nat) (R : List (Nat × Obj)) : Prop :=
  ∃ m es clock lv A B i e, mv = .map (some m) ∧ R = (m, .map es clock) :: (A ++ B) ∧ MapOf kenc (fun x => x) lv es clock ∧ es[i]? = some e ∧ e.born = st ∧ lv.findIdx? (fun p => beq k p.1) = some i ∧
    ∀ v x R1, Q v x R1 → Vals Q (mput beq lv k v) (mput beq l k x) (A ++ (R1 ++ B))
theorem mput_mput {δ : Type} (hk : ∀ x : κ, beq x x = true) (lv : List (κ × δ)) (k : κ) (a b : δ) : mput beq (mput beq lv k a) k b = mput beq lv k b := by
  cases hi : lv.findIdx? (fun p => beq k p.1) with
  | none =>
    have h1 : (lv ++ [(k, a)]).findIdx? (fun p => beq k p.1) = some lv.length := by
      rw [List.findIdx?_append, hi]
      simp [List.findIdx?_cons, hk]
    rw [mput_miss hi, mput_miss hi, mput_found h1]
    simp
  | some i =>
    obtain ⟨p, hp, hb⟩ := findIdx_lt hi
    have h1 : (lv.set i (k, a)).findIdx? (fun p => beq k p.1) = some i := by
      rw [List.findIdx?_eq_some_iff_getElem] at hi ⊢
      obtain ⟨h1, h2, h3⟩ := hi
      refine ⟨by simpa using h1, by simp [hk], fun j hj => ?_⟩
      rw [List.getElem_set_ne (by omega)]
      exact h3 j hj
    rw [mput_found hi, mput_found hi, mput_found h1]
    simp
end
end Go.Proofs.Ytfjdjbdnnoijgaa
