/- a part of a proof of ModelLeast -/
import Derived.Test.YtfjdjbdnnoijgaaMfx2
set_option linter.all false
namespace Go.Proofs.Ytfjdjbdnnoijgaa
open Go.RowKit
theorem rolesC {c : Cred} (h : rightC c = true) : m_cred_Roles c = some (c.Head :: rolesOf c) := by
  unfold m_cred_Roles
  rw [m_cred_Right_eq, h]
  simp only [Option.bind_some, Bool.not_true, Bool.false_eq_true, if_false]
  have hkk : c.Kind = 1 ∨ c.Kind = 2 ∨ c.Kind = 3 ∨ c.Kind = 4 := by rcases rightC_cases h with h | h | h | h <;> simp [h.1]
  rcases hkk with k | k | k | k
  · simp [k, rolesOf]
  · rw [if_pos (by simp [k]), appB_ok (by simp) (by simp)]
    simp [k, rolesOf]
  · rw [if_pos (by simp [k]), appB_ok (by simp) (by simp)]
    simp [k, rolesOf]
  · rw [if_pos (by simp [k]), appB_ok (by simp) (by simp)]
    simp only [Option.bind_some]
    rw [if_pos (by simp [k]), appB_ok (by simp) (by simp)]
    simp [k, rolesOf]
theorem Clo.mono {all : List Cred} {wants wants' : List Role} (hw : ∀ r ∈ wants, r ∈ wants') {x : Role ⊕ ByteArray ⊕ Cred} (h : Clo all wants x) : Clo all wants' x := by
  induction h with
  | want r hr => exact .want r (hw r hr)
  | relH c hc _ ih => exact .relH c hc ih
  | relW c hc _ ih => exact .relW c hc ih
  | toB c _ hk ih => exact .toB c ih hk
  | toC c _ hk ih => exact .toC c ih hk
  | toW c _ hk ih => exact .toW c ih hk
theorem IsSet.congr {α : Type} {lt : α → α → Prop} {P : α → Prop} {l m s : List α} (h : IsSet lt P l s) (hm : ∀ x, x ∈ l ↔ x ∈ m) : IsSet lt P m s := ⟨h.1, fun x => by rw [h.2, hm]⟩
theorem tt_keys {κ : Type} (ks : List κ) : (tt ks).map (·.1) = ks := by simp [tt, Function.comp_def]
end Go.Proofs.Ytfjdjbdnnoijgaa
