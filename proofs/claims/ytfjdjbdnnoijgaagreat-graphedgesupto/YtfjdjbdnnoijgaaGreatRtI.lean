/- A part of the proof that the law GraphEdges answers true for every input of bulk at most 1048576. -/
import Derived.Test.YtfjdjbdnnoijgaaGreatRtH
import Derived.ChangeKeysEq
set_option linter.all false
set_option linter.unusedSimpArgs false
set_option linter.unusedVariables false
namespace Go.Proofs.YtfjdjbdnnoijgaaGreat
open Go.RowKit
/-! ### arrays of a plain element -/
theorem run_buildA {P : Program} {t e : TypeId} {n k : Nat} {z cs : Array Value} {qs : Array (Nat × Value)} (hz : ∀ w, (zeroValue t).run P w = .ok (.agg z) w) (ht : P.underlying t = some (.array n e))
    (hs : ∀ w, (sizeOf e).run P w = .ok k w) (hf : Instr.fill (fun i => some (i * k, k)) z qs.toList = some cs) (W : World) : (Instr.build t qs).run P W = .ok (.agg cs) W := by
  simp only [Instr.build, Sem.run_bind, hz W, Result.andThen_ok, run_underlying ht, Value.cells, hs W]
  simp only [hf, Sem.run_pure]
theorem eqItems_nil {P : Program} {W : World} (d : Nat) (e : TypeId) (c : Nat) (xs ys : Array Value) : (Op.eqItems d e c xs ys []).run P W = .ok true W := by simp [Op.eqItems]
theorem eqItems_cons {P : Program} {W : World} {d : Nat} {e : TypeId} {c : Nat} {xs ys : Array Value} {i : Nat} {is : List Nat} {a b : Value} {r s : Bool} (ha : (part e xs (i * c)).run P W = .ok a W) (hb : (part e ys (i * c)).run P W = .ok b W)
    (he : (Op.equalIn d e a b).run P W = .ok r W) (h : (Op.eqItems d e c xs ys is).run P W = .ok s W) : (Op.eqItems d e c xs ys (i :: is)).run P W = .ok (r && s) W := by
  simp only [Op.eqItems, Sem.run_bind, ha, hb, he, Result.andThen_ok]
  cases r <;> simp [h]
theorem eqIn_array {P : Program} {W : World} {d : Nat} {t e : TypeId} {n c : Nat} {i : TypeInfo} {xs ys : Array Value} {r : Bool} (hu : P.underlying t = some (.array n e)) (hi : P.info? e = some i) (hc : P.cellsOf e = c)
    (h : (Op.eqItems d e c xs ys (List.range n)).run P W = .ok r W) : (Op.equalIn (d + 1) t (.agg xs) (.agg ys)).run P W = .ok r W := by
  rw [run_equalIn_array W d xs ys hu hi, hc, h]
section
variable {P : Program} {E : Nat → Value} {W : World} {d : Option Nat} {ty : TypeId} {pos : String} {af : Array Edge} {g : Option (Nat × Bool)}
theorem R_min2 {x y : Operand} {ats : Array TypeId} {k : IntKind} {a b : Int} (hx : evE E x = .int k a) (hy : evE E y = .int k b) :
    Runs P E ⟨d, .call ⟨.builtin .min, #[x, y], ats⟩, ty, pos, af, g⟩ W (.int k (if b < a then b else a)) W := by
  show (do let d ← resolve (evE E) ⟨.builtin .min, #[x, y], ats⟩ ty; invoke d.target d.args : Sem Next).run P W = _
  simp [resolve, invoke, hx, hy, builtin, Builtin.min_, Builtin.min2]
end
end Go.Proofs.YtfjdjbdnnoijgaaGreat
