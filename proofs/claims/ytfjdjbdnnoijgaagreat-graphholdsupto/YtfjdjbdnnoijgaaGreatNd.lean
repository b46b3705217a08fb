/- a part of a proof of GraphHolds -/
import Derived.Test.YtfjdjbdnnoijgaaGreatNc
set_option linter.all false
namespace Go.Proofs.YtfjdjbdnnoijgaaGreat
open Go.RowKit
def ltF (a b : Fact) : Bool := ltR a.Role b.Role || (beqRole a.Role b.Role && ltS a.Who b.Who)
theorem ltF_iff {a b : Fact} : ltF a b = true ↔ ltR a.Role b.Role = true ∨ (a.Role = b.Role ∧ ltS a.Who b.Who = true) := by simp [ltF, beqRole_iff]
def anyF (_ : Fact) : Bool := true
theorem ltOnF : LtOn (fun a b => ltF a b = true) (fun x => anyF x = true) := by
  have H := ltOnR (fun _ => True)
  refine ⟨fun x _ => ?_, fun x y z _ _ _ h1 h2 => ?_, fun x y _ _ => ?_⟩
  · rw [ltF_iff]
    rintro (h | ⟨_, h⟩)
    · exact H.irrefl _ trivial h
    · rw [ltS_irrefl] at h; cases h
  · rw [ltF_iff] at *
    rcases h1 with h1 | ⟨e1, h1⟩
    · rcases h2 with h2 | ⟨e2, h2⟩
      · exact .inl (H.trans _ _ _ trivial trivial trivial h1 h2)
      · exact .inl (by rw [← e2]; exact h1)
    · rcases h2 with h2 | ⟨e2, h2⟩
      · exact .inl (by rw [e1]; exact h2)
      · exact .inr ⟨e1.trans e2, ltS_trans h1 h2⟩
  · simp only [ltF_iff]
    rcases H.total x.Role y.Role trivial trivial with h | h | h
    · exact .inl (.inl h)
    · rcases ltS_total x.Who y.Who with h2 | h2 | h2
      · exact .inl (.inr ⟨h, h2⟩)
      · refine .inr (.inl ?_)
        cases x; cases y; simp at h h2; simp [h, h2]
      · exact .inr (.inr (.inr ⟨h.symm, h2⟩))
    · exact .inr (.inr (.inl h))
def IsF (P : Fact → Prop) (s : List Fact) : Prop := s.Pairwise (fun a b => ltF a b = true) ∧ ∀ f, f ∈ s ↔ P f
theorem IsF.unique {P : Fact → Prop} {s t : List Fact} (h : IsF P s) (k : IsF P t) : s = t :=
  IsSet.unique (l := s) ltOnF ⟨h.1, fun x => ⟨fun hx => ⟨hx, rfl⟩, fun hx => hx.1⟩⟩ ⟨k.1, fun x => by rw [k.2, h.2]; exact ⟨fun hx => ⟨hx, rfl⟩, fun hx => hx.1⟩⟩
def StepP (l : List Fact) (c : Cred) (names : List ByteArray) (w : ByteArray) : Prop :=
  (c.Kind = 1 ∧ c.Who = w) ∨ (c.Kind = 2 ∧ (⟨c.B, w⟩ : Fact) ∈ l) ∨ (c.Kind = 4 ∧ (⟨c.B, w⟩ : Fact) ∈ l ∧ (⟨c.C, w⟩ : Fact) ∈ l) ∨
  (c.Kind ≠ 1 ∧ c.Kind ≠ 2 ∧ c.Kind ≠ 4 ∧ ∃ b ∈ names, (⟨c.B, b⟩ : Fact) ∈ l ∧ (⟨⟨b, c.Word2⟩, w⟩ : Fact) ∈ l)
theorem StepP.der {C : List Cred} {l : List Fact} (hl : ∀ f ∈ l, Der C f) {c : Cred} (hc : c ∈ C) (hk : c.Kind = 1 ∨ c.Kind = 2 ∨ c.Kind = 3 ∨ c.Kind = 4) {names : List ByteArray} {w : ByteArray} (h : StepP l c names w) : Der C ⟨c.Head, w⟩ := by
  rcases h with ⟨k, rfl⟩ | ⟨k, h⟩ | ⟨k, h1, h2⟩ | ⟨k1, k2, k4, b, _, h1, h2⟩
  · exact .mem c hc k
  · exact .inc c w hc k (hl _ h)
  · exact .both c w hc k (hl _ h1) (hl _ h2)
  · exact .lnk c b w hc (by omega) (hl _ h1) (hl _ h2)
structure RInv (C : List Cred) (out : List Fact) : Prop where
  nd : out.Nodup
  der : ∀ f ∈ out, Der C f
theorem RInv.len {C : List Cred} {out : List Fact} (h : RInv C out) : out.length ≤ C.length * C.length := by
  rw [← uni_length]; exact length_le_of_nodup h.nd (fun f hf => (h.der f hf).uni)
end Go.Proofs.YtfjdjbdnnoijgaaGreat
