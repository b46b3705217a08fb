/- a part of a proof of ModelLeast -/
import Derived.Test.YtfjdjbdnnoijgaaRtNx2
set_option linter.all false
namespace Go.Proofs.Ytfjdjbdnnoijgaa
open Go.RowKit
section
variable {P : Program} {n : Nat} {Q : Post} {E : Nat → Value} {W : World} {ops : Array Oper} {rest : List Oper}
variable {dd : Bool} {α : Type} {enc : α → List Value} {k : Nat} {μ : Mem} {v : Value}
variable {d : Option Nat} {ty : TypeId} {pos : String} {af : Array Edge} {g : Option (Nat × Bool)} {F : Nat → Prop} {w : World} {L : List (Nat × Obj)}
def SlR (enc : α → List Value) (k : Nat) : Rep (List α) := fun μ ys x => ∃ v, ys = [v] ∧ Sl (Pl enc) k μ v x
theorem SlR.mono (enc : α → List Value) (k : Nat) : MonoR (SlR enc k) := fun _ _ _ _ hs ⟨v, h1, h2⟩ => ⟨v, h1, h2.mono (Pl.mono _) hs⟩
inductive SlAll (enc : α → List Value) (k : Nat) (μ : Mem) : List Value → List (List α) → Prop
  | nil : SlAll enc k μ [] []
  | cons {v : Value} {x : List α} {vs : List Value} {l : List (List α)} : Sl (Pl enc) k μ v x → SlAll enc k μ vs l → SlAll enc k μ (v :: vs) (x :: l)
theorem SlAll.length {vs : List Value} {l : List (List α)} (h : SlAll enc k μ vs l) : vs.length = l.length := by
  induction h with
  | nil => rfl
  | cons _ _ ih => simp [ih]
theorem SlAll.get {vs : List Value} {l : List (List α)} (h : SlAll enc k μ vs l) : ∀ (i : Nat) (x : List α), l[i]? = some x → ∃ v, vs[i]? = some v ∧ Sl (Pl enc) k μ v x := by
  induction h with
  | nil => intro i x hx; simp at hx
  | cons h1 _ ih =>
    intro i x hx
    cases i with
    | zero => simp at hx; subst hx; exact ⟨_, rfl, h1⟩
    | succ i => simpa using ih i x (by simpa using hx)
theorem SlR.lit {b m : Nat} {vs : List Value} {e : TypeId} {l : List (List α)} (hm : l.length = m) (hM : m ≤ maxLen) (hb : μ b = some (.cells vs.toArray e (0, 0))) (h : SlAll enc k μ vs l) : Sl (SlR enc k) 1 μ (.slice (some ⟨b, 0, none⟩) m m) l := by
  subst hm
  refine ⟨_, _, rfl, Nat.le_refl _, hM, fun _ => ⟨b, 0, _, _, _, rfl, hb, fun i x hx => ?_⟩⟩
  obtain ⟨v, h1, h2⟩ := h.get i x hx
  refine ⟨[v], rfl, ⟨v, rfl, h2⟩, fun j y hy => ?_⟩
  cases j with
  | zero => simp at hy; subst hy; simpa using h1
  | succ j => simp at hy
end
section
variable {P : Program} {n : Nat} {Q : Post} {E : Nat → Value} {W : World} {ops : Array Oper} {rest : List Oper}
theorem LV {o : Oper} {dd : Nat} {v : Value} (hr : Runs P E o W v W) (h : LW P n ops Q rest (upd E dd v) W) (hw : Wanted n ops E o := by exact .inl rfl) (hd : o.dst = some dd := by rfl) (hn : dd < n := by decide) : LW P n ops Q (o :: rest) E W := LW_v hw hd hn hr h
theorem LE {o : Oper} {dd : Nat} (h : Eff P E o W fun v W' => LW P n ops Q rest (upd E dd v) W') (hw : Wanted n ops E o := by exact .inl rfl) (hd : o.dst = some dd := by rfl) (hn : dd < n := by decide) : LW P n ops Q (o :: rest) E W := LW_e hw hd hn h
theorem LQ {A : Value → Prop} {o : Oper} {dd : Nat} (hr : ∃ p, A p ∧ ∀ W, Runs P E o W p W) (h : ∀ p, A p → LW P n ops Q rest (upd E dd p) W) (hw : Wanted n ops E o := by exact .inl rfl) (hd : o.dst = some dd := by rfl) (hn : dd < n := by decide) : LW P n ops Q (o :: rest) E W := LW_q hw hd hn hr h
theorem PV {S : Array Bool → World → Prop} {fuel : Nat} {listed : Array Bool} {o : Oper} {dd : Nat} {v : Value} (i : Nat) (hi : ops[i]? = some o) (hS : S (listed.setIfInBounds i true) W) (hy : ∀ {W}, Runs P E o W v W) (h : PX P n ops Q S fuel (listed.setIfInBounds i true) (upd E dd v) W)
    (hk : okB ops listed i = true := by kernel_rfl) (hw : Wanted n ops E o := by exact .inl rfl) (hd : o.dst = some dd := by rfl) (hn : dd < n := by decide) (hm : ∀ l w, S (l.setIfInBounds i true) w → S l w := by exact fun _ _ h => h) : PX P n ops Q S (fuel + 1) listed E W :=
  PX_v i hi hk hw hd hn hm hS (fun _ _ _ _ => hy) h
end
end Go.Proofs.Ytfjdjbdnnoijgaa
