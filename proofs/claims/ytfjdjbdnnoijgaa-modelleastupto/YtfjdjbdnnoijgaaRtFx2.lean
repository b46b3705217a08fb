/- a part of a proof of ModelLeast -/
import Derived.Test.YtfjdjbdnnoijgaaRtEx2
set_option linter.all false
namespace Go.Proofs.Ytfjdjbdnnoijgaa
open Go.RowKit
theorem checkLoop {P : Program} {cs : Array Value} {b : Bool} {n : Nat} {W : World} : ∀ (l : List Field),
    (∀ f ∈ l, f.name ≠ "_" → ∃ v, (part f.type cs f.offset).run P W = .ok v W ∧ (Instr.checkKey b n f.type v).run P W = .ok () W) →
    ((forIn l PUnit.unit fun f (_ : PUnit) => do
      if f.name ≠ "_" then Instr.checkKey b n f.type (← part f.type cs f.offset)
      pure (ForInStep.yield PUnit.unit)) : Sem PUnit).run P W = .ok PUnit.unit W
  | [], _ => by simp
  | f :: l, h => by
    have ih := checkLoop l (fun f hf => h f (List.mem_cons_of_mem _ hf))
    simp only [List.forIn_cons, Sem.run_bind]
    by_cases hn : f.name ≠ "_"
    · obtain ⟨v, h1, h2⟩ := h f (by simp) hn
      simp only [if_pos hn, Sem.run_bind, h1, Result.andThen_ok, h2, Sem.run_pure]
      exact ih
    · simp only [if_neg hn, Sem.run_bind, Sem.run_pure, Result.andThen_ok]
      exact ih
theorem checkKey_struct {P : Program} {kt : TypeId} {fs : Array Field} {l : List Field} {cs : Array Value} {b : Bool} {n : Nat} {W : World} (ht : P.underlying kt = some (.struct fs)) (hl : fs.toList = l)
    (h : ∀ f ∈ l, f.name ≠ "_" → ∃ v, (part f.type cs f.offset).run P W = .ok v W ∧ (Instr.checkKey b n f.type v).run P W = .ok () W) : (Instr.checkKey b (n + 1) kt (.agg cs)).run P W = .ok () W := by
  obtain ⟨fs⟩ := fs
  subst hl
  simp only [Instr.checkKey, Sem.run_bind, run_underlying ht, Result.andThen_ok, List.forIn_toArray]
  have := checkLoop (P := P) (cs := cs) (b := b) (n := n) (W := W) fs h
  simp only [Sem.run_bind] at this
  first | rw [this]; rfl | simpa using this
end Go.Proofs.Ytfjdjbdnnoijgaa
