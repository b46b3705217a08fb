/- a part of a proof of ModelLeast -/
import Derived.Test.YtfjdjbdnnoijgaaRtCx2
set_option linter.all false
namespace Go.Proofs.Ytfjdjbdnnoijgaa
open Go.RowKit
variable {dd : Bool}
def CbO {α β : Type} (P : Program) (fv : Value) (μ : Mem) (av : α → List Value) (rv : β → Value) (pm : α → Option β) : Prop :=
  ∃ f caps, fv = .func (.func f) #[] caps ∧ (∀ args w, (callFunc f args).run P w = .ok (.enter f args) w) ∧ ∀ W x r, Sub μ (hp W) → pm x = some r → Gives true P f (av x ++ caps.toList) W (rv r)
def CbOk {α β : Type} (P : Program) (fv : Value) (μ : Mem) (av : α → List Value) (rv : β → Value) (pm : α → Option β) : Prop :=
  ∃ f first caps, fv = .func (.func f) first caps ∧ (∀ args w, (callFunc f args).run P w = .ok (.enter f args) w) ∧ ∀ W x r, Sub μ (hp W) → pm x = some r → Gives true P f (first.toList ++ (av x ++ caps.toList)) W (rv r)
theorem CbOk.form {α β : Type} {P : Program} {fv : Value} {μ : Mem} {av : α → List Value} {rv : β → Value} {pm : α → Option β} (h : CbOk P fv μ av rv pm) : ∃ f a b, fv = .func f a b := let ⟨f, a, b, h, _⟩ := h; ⟨_, a, b, h⟩
section
variable {P : Program} {W : World} {E : Nat → Value} {d : Option Nat} {ty : TypeId} {pos : String} {af : Array Edge} {g : Option (Nat × Bool)} {F : Nat → Prop} {w : World} {μ μ0 : Mem} {L : List (Nat × Obj)}
theorem CbOk.mono {α β : Type} {fv : Value} {av : α → List Value} {rv : β → Value} {pm : α → Option β} (h : CbOk P fv μ av rv pm) (hs : Sub μ μ0) : CbOk P fv μ0 av rv pm := by
  obtain ⟨f, first, caps, h1, h2, h3⟩ := h
  exact ⟨f, first, caps, h1, h2, fun W x r h => h3 W x r (hs.trans h)⟩
theorem E_cb {α β : Type} {K : Value → World → Prop} {fv : Value} {av : α → List Value} {rv : β → Value} {pm : α → Option β} {fo : Operand} {as : Array Operand} {ats : Array TypeId} (x : α) {r : β} (hST : ST dd F w W μ L) (hc : CbOk P fv μ0 av rv pm) (hs : Sub μ0 μ)
    (hf : evE E fo = fv) (ha : as.map (evE E) ++ (#[] : Array Value) = (av x).toArray) (hm : pm x = some r) (h : ∀ W', ST dd F w W' μ L → K (rv r) W') : Eff P E ⟨d, .call ⟨.value fo, as, ats⟩, ty, pos, af, g⟩ W K := by
  obtain ⟨f, first, caps, rfl, h2, h3⟩ := hc
  have ha' : as.map (evE E) = (av x).toArray := by simpa using ha
  refine .inr (.inr ⟨f, (first.toList ++ (av x ++ caps.toList)).toArray, ?_, Calls.mono (h3 W x r (hs.trans hST.sub_hp) hm) (fun _ _ ⟨h4, h5⟩ => ⟨_, h4, h _ (hST.call0 h5.weak)⟩)⟩)
  show (do let d ← resolve (evE E) ⟨.value fo, as, ats⟩ ty; invoke d.target d.args : Sem Next).run P W = _
  simp only [resolve, hf, Deferred.ofValue, Sem.run_bind, Sem.run_pure, Result.andThen_ok, invoke, ha', h2]
  congr 2
  simp
end
end Go.Proofs.Ytfjdjbdnnoijgaa
