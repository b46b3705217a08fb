/- a part of a proof of ModelLeast -/
import Derived.Test.YtfjdjbdnnoijgaaMex2
set_option linter.all false
namespace Go.Proofs.Ytfjdjbdnnoijgaa
open Go.RowKit
def tt {κ : Type} (ks : List κ) : List (κ × Bool) := ks.map fun k => (k, true)
def hasB {κ : Type} (beq : κ → κ → Bool) (ks : List κ) (k : κ) : Bool := ks.any fun x => beq k x
def ins {κ : Type} (beq : κ → κ → Bool) (ks : List κ) (k : κ) : List κ := if hasB beq ks k then ks else ks ++ [k]
section
variable {κ : Type} {beq : κ → κ → Bool}
theorem hasB_iff (hb : ∀ {x y}, beq x y = true ↔ x = y) (ks : List κ) (k : κ) : hasB beq ks k = true ↔ k ∈ ks := by
  simp [hasB, List.any_eq_true, hb]
theorem mem_ins (hb : ∀ {x y}, beq x y = true ↔ x = y) (ks : List κ) (k x : κ) : x ∈ ins beq ks k ↔ x ∈ ks ∨ x = k := by
  unfold ins
  split
  · rename_i h
    have := (hasB_iff hb ks k).1 h
    exact ⟨.inl, fun h => by rcases h with h | rfl; exact h; exact this⟩
  · simp
theorem nodup_ins (hb : ∀ {x y}, beq x y = true ↔ x = y) {ks : List κ} (h : ks.Nodup) (k : κ) : (ins beq ks k).Nodup := by
  unfold ins
  split
  · exact h
  · rename_i hk
    have : k ∉ ks := fun hm => hk ((hasB_iff hb ks k).2 hm)
    exact List.nodup_append.2 ⟨h, by simp, fun a ha b hb2 => by simp at hb2; subst hb2; intro e; subst e; exact this ha⟩
theorem tt_length (ks : List κ) : (tt ks).length = ks.length := by simp [tt]
theorem mgetD_tt (ks : List κ) (k : κ) : mgetD beq (tt ks) k false = hasB beq ks k := by
  unfold mgetD mget hasB tt
  induction ks with
  | nil => rfl
  | cons x xs ih =>
    simp only [List.map_cons, List.find?_cons, List.any_cons]
    cases h : beq k x with
    | true => simp
    | false => simpa using ih
theorem mput_tt (hb : ∀ {x y}, beq x y = true ↔ x = y) (ks : List κ) (k : κ) : mput beq (tt ks) k true = tt (ins beq ks k) := by
  unfold mput ins
  have hf : (tt ks).findIdx? (fun p => beq k p.1) = ks.findIdx? (fun x => beq k x) := by
    unfold tt; rw [List.findIdx?_map]; rfl
  rw [hf]
  cases h : ks.findIdx? (fun x => beq k x) with
  | none =>
    rw [List.findIdx?_eq_none_iff] at h
    rw [if_neg]
    · simp [tt]
    · intro hh
      unfold hasB at hh
      rw [List.any_eq_true] at hh
      obtain ⟨x, hx, hx2⟩ := hh
      rw [h x hx] at hx2
      cases hx2
  | some i =>
    rw [List.findIdx?_eq_some_iff_getElem] at h
    obtain ⟨hi, h1, _⟩ := h
    have e := hb.1 h1
    rw [if_pos]
    · simp only [tt]
      apply List.ext_getElem?
      intro j
      rw [List.getElem?_set]
      split
      · rename_i hij
        subst hij
        simp [hi, e]
      · rfl
    · unfold hasB
      exact List.any_eq_true.2 ⟨ks[i], List.getElem_mem hi, h1⟩
end
inductive Clo (all : List Cred) (wants : List Role) : Role ⊕ ByteArray ⊕ Cred → Prop
  | want (r : Role) : r ∈ wants → Clo all wants (.inl r)
  | relH (c : Cred) : c ∈ all → Clo all wants (.inl c.Head) → Clo all wants (.inr (.inr c))
  | relW (c : Cred) : c ∈ all → Clo all wants (.inr (.inl c.Head.Word)) → Clo all wants (.inr (.inr c))
  | toB (c : Cred) : Clo all wants (.inr (.inr c)) → c.Kind > 1 → Clo all wants (.inl c.B)
  | toC (c : Cred) : Clo all wants (.inr (.inr c)) → c.Kind = 4 → Clo all wants (.inl c.C)
  | toW (c : Cred) : Clo all wants (.inr (.inr c)) → c.Kind = 3 → Clo all wants (.inr (.inl c.Word2))
structure GInv (all : List Cred) (wants : List Role) (T : List Role) (W : List ByteArray) (R : List Cred) : Prop where
  sT : ∀ r ∈ T, Clo all wants (.inl r)
  sW : ∀ w ∈ W, Clo all wants (.inr (.inl w))
  sR : ∀ c ∈ R, Clo all wants (.inr (.inr c))
  want : ∀ r ∈ wants, r ∈ T
  sub : ∀ c ∈ R, c ∈ all
  nd : R.Nodup
  toB : ∀ c ∈ R, c.Kind > 1 → c.B ∈ T
  toC : ∀ c ∈ R, c.Kind = 4 → c.C ∈ T
  toW : ∀ c ∈ R, c.Kind = 3 → c.Word2 ∈ W
  lT : T.length ≤ wants.length + 2 * R.length
  lW : W.length ≤ R.length
section
variable {all : List Cred} {wants : List Role} {T : List Role} {W : List ByteArray} {R : List Cred}
def rolesOf (c : Cred) : List Role := if c.Kind = 1 then [] else if c.Kind = 4 then [c.B, c.C] else [c.B]
theorem GInv.add (h : GInv all wants T W R) {c : Cred} (hc : c ∈ all) (hk : rightC c = true) (hn : c ∉ R) (hf : c.Head ∈ T ∨ c.Head.Word ∈ W) {T' : List Role} {W' : List ByteArray} (hT : ∀ r, r ∈ T' ↔ r ∈ T ∨ r ∈ rolesOf c) (hW : ∀ w, w ∈ W' ↔ w ∈ W ∨ (c.Kind = 3 ∧ w = c.Word2))
    (lT : T'.length ≤ T.length + 2) (lW : W'.length ≤ W.length + 1) : GInv all wants T' W' (R ++ [c]) := by
  have hcl : Clo all wants (.inr (.inr c)) := by
    rcases hf with hf | hf
    · exact .relH c hc (h.sT _ hf)
    · exact .relW c hc (h.sW _ hf)
  have hkk : c.Kind = 1 ∨ c.Kind = 2 ∨ c.Kind = 3 ∨ c.Kind = 4 := by rcases rightC_cases hk with h | h | h | h <;> simp [h.1]
  refine ⟨fun r hr => ?_, fun w hw => ?_, fun d hd => ?_, fun r hr => (hT r).2 (.inl (h.want r hr)), fun d hd => ?_, ?_, fun d hd hk2 => ?_, fun d hd hk2 => ?_, fun d hd hk2 => ?_, ?_, ?_⟩
  · rcases (hT r).1 hr with hr | hr
    · exact h.sT r hr
    · unfold rolesOf at hr
      split at hr
      · cases hr
      · split at hr
        · rename_i h4
          simp at hr
          rcases hr with rfl | rfl
          · exact .toB c hcl (by omega)
          · exact .toC c hcl h4
        · simp at hr; subst hr; exact .toB c hcl (by omega)
  · rcases (hW w).1 hw with hw | ⟨h3, rfl⟩
    · exact h.sW w hw
    · exact .toW c hcl h3
  · rcases List.mem_append.1 hd with hd | hd
    · exact h.sR d hd
    · simp at hd; subst hd; exact hcl
  · rcases List.mem_append.1 hd with hd | hd
    · exact h.sub d hd
    · simp at hd; subst hd; exact hc
  · exact List.nodup_append.2 ⟨h.nd, by simp, fun a ha b hb => by simp at hb; subst hb; intro e; subst e; exact hn ha⟩
  · rcases List.mem_append.1 hd with hd | hd
    · exact (hT _).2 (.inl (h.toB d hd hk2))
    · simp at hd; subst hd
      refine (hT _).2 (.inr ?_)
      unfold rolesOf
      rw [if_neg (by omega)]
      split <;> simp
  · rcases List.mem_append.1 hd with hd | hd
    · exact (hT _).2 (.inl (h.toC d hd hk2))
    · simp at hd; subst hd
      refine (hT _).2 (.inr ?_)
      unfold rolesOf
      rw [if_neg (by omega), if_pos hk2]
      simp
  · rcases List.mem_append.1 hd with hd | hd
    · exact (hW _).2 (.inl (h.toW d hd hk2))
    · simp at hd; subst hd; exact (hW _).2 (.inr ⟨hk2, rfl⟩)
  · have := h.lT; simp; omega
  · have := h.lW; simp; omega
end
end Go.Proofs.Ytfjdjbdnnoijgaa
