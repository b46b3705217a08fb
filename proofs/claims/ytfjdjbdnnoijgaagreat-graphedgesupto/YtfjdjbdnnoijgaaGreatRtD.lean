/- A part of the proof that the law GraphEdges answers true for every input of bulk at most 1048576. -/
import Derived.Test.YtfjdjbdnnoijgaaGreatRtC
set_option linter.all false
set_option linter.unusedSimpArgs false
set_option linter.unusedVariables false
namespace Go.Proofs.YtfjdjbdnnoijgaaGreat
open Go.RowKit

/-! ### functions as values -/
def CbOk {α β : Type} (P : Program) (fv : Value) (μ : Mem) (av : α → List Value) (rv : β → Value) (pm : α → Option β) : Prop :=
  ∃ f caps, fv = .func (.func f) #[] caps ∧ (∀ args w, (callFunc f args).run P w = .ok (.enter f args) w) ∧ ∀ W x r, Sub μ (hp W) → pm x = some r → Gives P f (av x ++ caps.toList) W (rv r)
section
variable {P : Program} {W : World} {E : Nat → Value} {d : Option Nat} {ty : TypeId} {pos : String} {af : Array Edge} {g : Option (Nat × Bool)} {F : Nat → Prop} {w : World} {μ μ0 : Mem} {L : List (Nat × Obj)}
theorem CbOk.mono {α β : Type} {fv : Value} {av : α → List Value} {rv : β → Value} {pm : α → Option β} (h : CbOk P fv μ av rv pm) (hs : Sub μ μ0) : CbOk P fv μ0 av rv pm := by
  obtain ⟨f, caps, h1, h2, h3⟩ := h
  exact ⟨f, caps, h1, h2, fun W x r h => h3 W x r (hs.trans h)⟩
theorem E_cb {α β : Type} {K : Value → World → Prop} {fv : Value} {av : α → List Value} {rv : β → Value} {pm : α → Option β} {fo : Operand} {as : Array Operand} {ats : Array TypeId} (x : α) {r : β} (hST : ST F w W μ L) (hc : CbOk P fv μ0 av rv pm) (hs : Sub μ0 μ)
    (hf : evE E fo = fv) (ha : as.map (evE E) ++ (#[] : Array Value) = (av x).toArray) (hm : pm x = some r) (h : ∀ W', ST F w W' μ L → K (rv r) W') : Eff P E ⟨d, .call ⟨.value fo, as, ats⟩, ty, pos, af, g⟩ W K := by
  obtain ⟨f, caps, rfl, h2, h3⟩ := hc
  refine E_calls (args := (av x ++ caps.toList).toArray) hf h2 ?_ (Calls.mono (h3 W x r (hs.trans hST.sub_hp) hm) (fun _ _ ⟨h4, h5⟩ => ⟨_, h4, h _ (hST.call0 h5)⟩))
  have ha' : as.map (evE E) = (av x).toArray := by simpa using ha
  rw [ha']
  simp

end
end Go.Proofs.YtfjdjbdnnoijgaaGreat
