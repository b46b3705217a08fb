/- a part of a proof of ModelLeast -/
import Derived.Test.YtfjdjbdnnoijgaaMgx2
set_option linter.all false
namespace Go.Proofs.Ytfjdjbdnnoijgaa
open Go.RowKit
theorem great_L1 : ∀ (l : List Cred) (n : Int), 0 ≤ n → n ≤ 4000000000000000000 → (∀ c ∈ l, c.Head.Owner.size + c.Head.Word.size + c.Who.size + c.B.Owner.size + c.B.Word.size + c.C.Owner.size + c.C.Word.size + c.Word2.size ≤ 1000000000) → n + l.length * 1000000020 ≤ 4000000000000000000 →
    ∃ r, m_law05_Great_L1 l n = some r ∧ n + 20 * l.length ≤ r
  | [], n, _, _, _, _ => ⟨n, rfl, by simp⟩
  | c :: l, n, h0, h1, hc, hb => by
    have h := hc c (by simp)
    simp only [List.length_cons] at hb ⊢
    rw [m_law05_Great_L1]
    rw [wrap_in (x := 20 + (c.Head.Owner.size : Int)) (by omega) (by omega), wrap_in (x := 20 + (c.Head.Owner.size : Int) + (c.Head.Word.size : Int)) (by omega) (by omega), wrap_in (x := 20 + (c.Head.Owner.size : Int) + (c.Head.Word.size : Int) + (c.Who.size : Int)) (by omega) (by omega), wrap_in (x := 20 + (c.Head.Owner.size : Int) + (c.Head.Word.size : Int) + (c.Who.size : Int) + (c.B.Owner.size : Int)) (by omega) (by omega), wrap_in (x := 20 + (c.Head.Owner.size : Int) + (c.Head.Word.size : Int) + (c.Who.size : Int) + (c.B.Owner.size : Int) + (c.B.Word.size : Int)) (by omega) (by omega), wrap_in (x := 20 + (c.Head.Owner.size : Int) + (c.Head.Word.size : Int) + (c.Who.size : Int) + (c.B.Owner.size : Int) + (c.B.Word.size : Int) + (c.C.Owner.size : Int)) (by omega) (by omega), wrap_in (x := 20 + (c.Head.Owner.size : Int) + (c.Head.Word.size : Int) + (c.Who.size : Int) + (c.B.Owner.size : Int) + (c.B.Word.size : Int) + (c.C.Owner.size : Int) + (c.C.Word.size : Int)) (by omega) (by omega), wrap_in (x := 20 + (c.Head.Owner.size : Int) + (c.Head.Word.size : Int) + (c.Who.size : Int) + (c.B.Owner.size : Int) + (c.B.Word.size : Int) + (c.C.Owner.size : Int) + (c.C.Word.size : Int) + (c.Word2.size : Int)) (by omega) (by omega), wrap_in (by omega) (by omega)]
    obtain ⟨r, e1, e2⟩ := great_L1 l (n + (20 + (c.Head.Owner.size : Int) + (c.Head.Word.size : Int) + (c.Who.size : Int) + (c.B.Owner.size : Int) + (c.B.Word.size : Int) + (c.C.Owner.size : Int) + (c.C.Word.size : Int) + (c.Word2.size : Int))) (by omega) (by omega) (fun d hd => hc d (by simp [hd])) (by omega)
    exact ⟨r, e1, by omega⟩
def sizeC (c : Cred) : Nat := c.Head.Owner.size + c.Head.Word.size + c.Who.size + c.B.Owner.size + c.B.Word.size + c.C.Owner.size + c.C.Word.size + c.Word2.size
theorem sameLen {α : Type} {l m : List α} (h1 : l.Nodup) (h2 : m.Nodup) (h : ∀ x, x ∈ l ↔ x ∈ m) : l.length = m.length := Nat.le_antisymm (length_le_of_nodup h1 (fun x hx => (h x).1 hx)) (length_le_of_nodup h2 (fun x hx => (h x).2 hx))
theorem Clo.congr {all : List Cred} {w w' : List Role} (h : ∀ r, r ∈ w ↔ r ∈ w') (x : Role ⊕ ByteArray ⊕ Cred) : Clo all w x ↔ Clo all w' x := ⟨fun hx => hx.mono (fun r hr => (h r).1 hr), fun hx => hx.mono (fun r hr => (h r).2 hr)⟩
end Go.Proofs.Ytfjdjbdnnoijgaa
