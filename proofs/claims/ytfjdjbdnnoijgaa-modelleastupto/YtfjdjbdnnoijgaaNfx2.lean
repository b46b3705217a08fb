/- a part of a proof of ModelLeast -/
import Derived.Test.YtfjdjbdnnoijgaaNex2
set_option linter.all false
namespace Go.Proofs.Ytfjdjbdnnoijgaa
open Go.RowKit
theorem isF_len {P : Fact → Prop} {s t : List Fact} (h : IsF P s) (ht : ∀ f, P f → f ∈ t) : s.length ≤ t.length := length_le_of_nodup (nodup_of_lt ltOnF (fun _ _ => rfl) h.1) (fun f hf => ht f ((h.2 f).1 hf))
theorem isF_der {C : List Cred} {s : List Fact} (h : IsF (Der C) s) (hC : SM C) : s.length ≤ 900000000 := by
  have := isF_len h (t := uni C) (fun f hf => hf.uni)
  rw [uni_length] at this
  have := hC.sq
  omega
theorem mroles_ok {C : List Cred} (hC : SM C) {T : Tab} {us : List (Role × List Cred)} {ws : List (ByteArray × List Cred)} {n : Int} (h : MS C T us ws n) {s : List Fact} (hs : IsF (Der C) s) (cs : List Cred) (u : List (Role × List Cred)) (w : List (ByteArray × List Cred)) (td : List Fact) (z : Int) (who : ByteArray) :
    m_model_Model_Roles (mm T) cs u w td z who = some ((s.filter fun f => beqS f.Who who).map (·.Role)) := by
  unfold m_model_Model_Roles
  obtain ⟨s', e, hF⟩ := facts_ok hC.small h cs u w td z
  have : s' = s := hF.unique hs
  subst this
  rw [e]
  simp only [Option.bind_some]
  have := isF_der hs hC
  rw [roles_L1 who s' [] (by simp; omega)]
  simp
theorem min_ok {C : List Cred} {T : Tab} {us : List (Role × List Cred)} {ws : List (ByteArray × List Cred)} {n : Int} (h : MS C T us ws n) (cs : List Cred) (u : List (Role × List Cred)) (w : List (ByteArray × List Cred)) (td : List Fact) (z : Int) (r : Role) (who : ByteArray) :
    ∃ b, m_model_Model_In (mm T) cs u w td z r who = some b ∧ (b = true ↔ Der C ⟨r, who⟩) :=
  ⟨_, rfl, by rw [hasB_names h.good.keys, h.all]⟩
def qA : Role := ⟨⟨#[97]⟩, ⟨#[114]⟩⟩
def qB : Role := ⟨⟨#[98]⟩, ⟨#[115]⟩⟩
def qd : ByteArray := ⟨#[100]⟩
def j1 : Cred := ⟨2, qA, zS, qB, ⟨zS, zS⟩, zS⟩
def j2 : Cred := ⟨1, qB, qd, ⟨zS, zS⟩, ⟨zS, zS⟩, zS⟩
theorem j1r : rightC j1 = true := by decide +kernel
theorem j2r : rightC j2 = true := by decide +kernel
theorem qAB : qA ≠ qB := fun e => by have := (beqRole_iff (x := qA) (y := qB)).2 e; revert this; decide +kernel
def fA : Fact := ⟨qA, qd⟩
def fB : Fact := ⟨qB, qd⟩
theorem der1 {C : List Cred} (h : ∀ c, c ∈ C → c = j1) (f : Fact) : ¬ Der C f := fun hd => by
  obtain ⟨c, hc, hk, _⟩ := hd.who
  rw [h c hc] at hk
  exact absurd hk (by decide)
theorem der2 {C : List Cred} (h : ∀ c, c ∈ C ↔ c = j1 ∨ c = j2) (f : Fact) : Der C f ↔ f = fA ∨ f = fB := by
  have hB : Der C fB := Der.mem j2 ((h j2).2 (.inr rfl)) rfl
  constructor
  · intro hd
    induction hd with
    | mem c hc hk =>
      rcases (h c).1 hc with rfl | rfl
      · exact absurd hk (by decide)
      · exact .inr rfl
    | inc c w hc hk _ ih =>
      rcases (h c).1 hc with rfl | rfl
      · rcases ih with ih | ih
        · exact absurd (congrArg Fact.Role ih) (fun e => qAB e.symm)
        · have := congrArg Fact.Who ih
          simp only at this
          subst this
          exact .inl rfl
      · exact absurd hk (by decide)
    | lnk c b w hc hk _ _ _ _ => rcases (h c).1 hc with rfl | rfl <;> exact absurd hk (by decide)
    | both c w hc hk _ _ _ _ => rcases (h c).1 hc with rfl | rfl <;> exact absurd hk (by decide)
  · rintro (rfl | rfl)
    · exact Der.inc j1 qd ((h j1).2 (.inl rfl)) rfl hB
    · exact hB
theorem fAB : fA ≠ fB := fun e => qAB (congrArg Fact.Role e)
theorem isF2 {C : List Cred} (h : ∀ c, c ∈ C ↔ c = j1 ∨ c = j2) : IsF (Der C) [fA, fB] := by
  refine ⟨?_, fun f => ?_⟩
  · have : ltF fA fB = true := by decide +kernel
    simp [this]
  · rw [der2 h]; simp
theorem contains_names (f : ByteArray → Option Bool) (p : ByteArray → Bool) : ∀ (l : List ByteArray) (i : Nat), (∀ x ∈ l, f x = some (p x)) → ∃ z, m_slices_IndexFunc_string_L1 f l i = some z ∧ (z ≥ 0 ↔ ∃ x ∈ l, p x = true)
  | [], i, _ => ⟨-1, rfl, by simp⟩
  | x :: l, i, h => by
    rw [m_slices_IndexFunc_string_L1, h x (by simp)]
    simp only [Option.bind_some]
    cases hp : p x with
    | true => exact ⟨_, rfl, by simp [hp]⟩
    | false =>
      obtain ⟨z, e, hz⟩ := contains_names f p l (i + 1) (fun y hy => h y (by simp [hy]))
      exact ⟨z, e, by rw [hz]; simp [hp]⟩
end Go.Proofs.Ytfjdjbdnnoijgaa
