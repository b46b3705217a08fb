/- a part of a proof of ModelLeast -/
import Derived.Test.YtfjdjbdnnoijgaaRt9x2
set_option linter.all false
namespace Go.Proofs.Ytfjdjbdnnoijgaa
open Go.RowKit
variable {dd : Bool}
section
variable {α : Type} {e : TypeId} {enc : α → List Value} {k : Nat} {v : Value} {l : List α} {R : List (Nat × Obj)} {μ : Mem}
theorem Row.one (h : Row e enc k v l R) : v.oneCell' = true := by obtain ⟨A, c, rfl⟩ := h.form; rfl
theorem Sl.one {Rp : Rep α} (h : Sl Rp k μ v l) : v.oneCell' = true := by obtain ⟨A, c, rfl⟩ := h.form; rfl
theorem Sl.isNil {Rp : Rep α} {n c : Nat} (h : Sl Rp k μ (.slice none n c) l) : l = [] := by
  obtain ⟨A, c', h1, h2, h3, h4⟩ := h
  cases h1
  rcases Nat.eq_zero_or_pos l.length with h0 | h0
  · exact List.length_eq_zero_iff.1 h0
  · obtain ⟨b, off, cs, T, fr, h5, _⟩ := h4 h0
    cases h5
theorem Row.isNil {n c : Nat} (h : Row e enc k (.slice none n c) l R) : l = [] := by
  rcases h with ⟨h1, rfl, rfl⟩ | ⟨g, cap, cur, h1, _⟩
  · rfl
  · cases h1
theorem ST.backL {w W : World} {μ : Mem} {L1 L2 : List (Nat × Obj)} (h : ST dd NoF w W μ (L1 ++ L2)) : Back dd [] L1 w W :=
  Back.of_ex h.ex (fun b o hb => ⟨(h.box b o (List.mem_append_left _ hb)).1, by
    rcases (h.box b o (List.mem_append_left _ hb)).2.2 with h | h
    · exact h
    · exact h.elim⟩) (by have := h.nd; rw [List.map_append] at this; exact (List.nodup_append.1 this).1)
theorem ST.backM {w W : World} {μ : Mem} {L0 L1 L2 : List (Nat × Obj)} (h : ST dd (keys L0) w W μ (L1 ++ L2)) : Back dd L0 L1 w W :=
  ⟨⟨h.os, h.tape, h.output, h.drawn, h.size, h.old⟩, fun b o hb => ⟨(h.box b o (List.mem_append_left _ hb)).1, (h.box b o (List.mem_append_left _ hb)).2.2⟩, by have := h.nd; rw [List.map_append] at this; exact (List.nodup_append.1 this).1⟩
end
end Go.Proofs.Ytfjdjbdnnoijgaa
