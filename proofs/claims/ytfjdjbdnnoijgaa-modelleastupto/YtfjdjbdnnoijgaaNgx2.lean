/- a part of a proof of ModelLeast -/
import Derived.Test.YtfjdjbdnnoijgaaNfx2
set_option linter.all false
namespace Go.Proofs.Ytfjdjbdnnoijgaa
open Go.RowKit
def brP (c : Cred) (p : Role × ByteArray → Bool) (names : List ByteArray) (w : ByteArray) : Bool :=
  if c.Kind = 1 then beqS c.Who w else if c.Kind = 2 then p (c.B, w) else if c.Kind = 4 then p (c.B, w) && p (c.C, w) else names.any fun b => p (c.B, b) && p (⟨b, c.Word2⟩, w)
theorem brings_ok {f : Role × ByteArray → Option Bool} {p : Role × ByteArray → Bool} (hf : ∀ x, f x = some (p x)) (c : Cred) (names : List ByteArray) (w : ByteArray) : m_model_brings c f names w = some (brP c p names w) := by
  unfold m_model_brings brP
  simp only [hf, Option.bind_some, andS]
  by_cases h1 : c.Kind = 1
  · rw [if_pos (by simp [h1]), if_pos h1]
  rw [if_neg (by simp [h1]), if_neg h1]
  by_cases h2 : c.Kind = 2
  · rw [if_pos (by simp [h2]), if_pos h2]
  rw [if_neg (by simp [h2]), if_neg h2]
  by_cases h4 : c.Kind = 4
  · rw [if_pos (by simp [h4]), if_pos h4]
  rw [if_neg (by simp [h4]), if_neg h4]
  unfold m_slices_ContainsFunc_string m_slices_IndexFunc_string
  obtain ⟨z, e, hz⟩ := contains_names (fun x => m_model_brings_c1 x f c w) (fun b => p (c.B, b) && p (⟨b, c.Word2⟩, w)) names 0 (fun x _ => by
    unfold m_model_brings_c1
    simp only [hf, Option.bind_some, andS])
  rw [e]
  simp only [Option.bind_some]
  congr 1
  rw [Bool.eq_iff_iff, List.any_eq_true]
  simpa using hz
theorem holds_L1 {f : Role × ByteArray → Option Bool} {p : Role × ByteArray → Bool} (hf : ∀ x, f x = some (p x)) (c : Cred) (names : List ByteArray) : ∀ (l : List ByteArray) (acc : List Fact), acc.length + l.length ≤ 1000000000 →
    m_model_Holds_L1 c f names l acc = some (acc ++ (l.filter (brP c p names)).map fun w => (⟨c.Head, w⟩ : Fact))
  | [], acc, _ => by rw [m_model_Holds_L1]; simp
  | x :: l, acc, h => by
    rw [m_model_Holds_L1, brings_ok hf]
    simp only [Option.bind_some, List.length_cons] at h ⊢
    cases hb : brP c p names x with
    | true =>
      simp only [if_true]
      rw [appB_ok (by simp; omega) (by simp; omega)]
      simp only [Option.bind_some]
      rw [holds_L1 hf c names l _ (by simp; omega)]
      simp [hb]
    | false =>
      simp only [Bool.false_eq_true, if_false]
      rw [holds_L1 hf c names l acc (by omega)]
      simp [hb]
theorem holds_ok {f : Role × ByteArray → Option Bool} {p : Role × ByteArray → Bool} (hf : ∀ x, f x = some (p x)) {c : Cred} (hc : rightC c = true) (l : List ByteArray) (hl : l.length ≤ 900000000) :
    ∃ names, IsSetN l names ∧ m_model_Holds c f l = some (((if c.Kind = 1 then [c.Who] else names).filter (brP c p names)).map fun w => (⟨c.Head, w⟩ : Fact)) := by
  obtain ⟨s, e, hs⟩ := setN l (by omega)
  refine ⟨s, hs, ?_⟩
  have hlen : s.length ≤ l.length := isSet_length (ltOnS _) hs
  unfold m_model_Holds
  rw [m_cred_Right_eq, hc]
  simp only [Option.bind_some, Bool.not_true, Bool.false_eq_true, if_false]
  rw [e]
  simp only [Option.bind_some]
  by_cases h1 : c.Kind = 1
  · rw [if_pos (by simp [h1]), if_pos h1]
    simp only [Option.bind_some]
    rw [holds_L1 hf c s _ [] (by simp)]
    simp
  · rw [if_neg (by simp [h1]), if_neg h1]
    simp only [Option.bind_some]
    rw [holds_L1 hf c s _ [] (by simp; omega)]
    simp
theorem first08 : m_law08_first = some true := by
  unfold m_law08_first
  obtain ⟨C, T, us, ws, n, e1, M1, hC, hlen⟩ := of_ok [j1] (by simp)
  have hC' : ∀ c ∈ C, c = j1 := fun c hc => by have := ((hC c).1 hc).1; simpa using this
  have hn : n = 0 := by
    rw [M1.good.num]
    have : FS T = [] := by
      cases h : FS T with
      | nil => rfl
      | cons f l => exact absurd (M1.good.der f (by rw [h]; simp)) (der1 hC' f)
    rw [this]; rfl
  obtain ⟨C2, T2, us2, ws2, n2, e2, M2, hC2, hlen2, _⟩ := add_ok M1 [j2] (by simp at hlen ⊢; omega)
  have hD : ∀ c, c ∈ C2 ↔ c = j1 ∨ c = j2 := fun c => by
    rw [hC2]
    constructor
    · rintro (h | h)
      · exact .inl (hC' c h)
      · exact .inr (by simpa using h.1)
    · rintro (rfl | rfl)
      · exact .inl ((hC j1).2 ⟨by simp, j1r⟩)
      · exact .inr ⟨by simp, j2r⟩
  have hF := isF2 hD
  have hn2 : n2 = 2 := by
    rw [M2.good.num]
    have := sameLen M2.good.nd (m := [fA, fB]) (by simp [fAB]) (fun f => by rw [M2.all, der2 hD]; simp)
    rw [this]; rfl
  have hSM : SM C2 := by unfold SM; simp at hlen hlen2; omega
  rw [show m_model_Of [(⟨2, (⟨(⟨#[97]⟩ : ByteArray), (⟨#[114]⟩ : ByteArray)⟩ : Role), zS, (⟨(⟨#[98]⟩ : ByteArray), (⟨#[115]⟩ : ByteArray)⟩ : Role), (⟨zS, zS⟩ : Role), zS⟩ : Cred)] = _ from e1]
  simp only [Option.bind_some]
  rw [show m_model_Model_Add_w (mm T) C us ws [] n [(⟨1, (⟨(⟨#[98]⟩ : ByteArray), (⟨#[115]⟩ : ByteArray)⟩ : Role), (⟨#[100]⟩ : ByteArray), (⟨zS, zS⟩ : Role), (⟨zS, zS⟩ : Role), zS⟩ : Cred)] = _ from e2]
  simp only [Option.bind_some]
  have hin : ∀ x : Role × ByteArray, m_model_Model_In (mm T2) C2 us2 ws2 [] n2 x.1 x.2 = some (mgetD beqS ((mget beqRole (mm T2) x.1).getD []) x.2 false) := fun x => rfl
  have hinD : ∀ r w, mgetD beqS ((mget beqRole (mm T2) r).getD []) w false = true ↔ (⟨r, w⟩ : Fact) = fA ∨ (⟨r, w⟩ : Fact) = fB := fun r w => by rw [hasB_names M2.good.keys, M2.all, der2 hD]
  obtain ⟨names, hN, e3⟩ := holds_ok (f := fun x => m_model_Model_In (mm T2) C2 us2 ws2 [] n2 x.1 x.2) hin j1r [(⟨#[97]⟩ : ByteArray), (⟨#[100]⟩ : ByteArray)] (by simp)
  have hfil : names.filter (brP j1 (fun x => mgetD beqS ((mget beqRole (mm T2) x.1).getD []) x.2 false) names) = [qd] := by
    refine IsSet.unique (l := [qd]) (ltOnS (fun _ => True)) ⟨hN.1.filter _, fun x => ?_⟩ ⟨by simp, fun x => by simp⟩
    rw [List.mem_filter]
    have hb : brP j1 (fun x => mgetD beqS ((mget beqRole (mm T2) x.1).getD []) x.2 false) names x = true ↔ x = qd := by
      show mgetD beqS ((mget beqRole (mm T2) qB).getD []) x false = true ↔ _
      rw [hinD]
      constructor
      · rintro (h | h)
        · exact absurd (congrArg Fact.Role h) (fun e => qAB e.symm)
        · exact congrArg Fact.Who h
      · rintro rfl; exact .inr rfl
    rw [hb, List.mem_singleton]
    refine ⟨fun h => ⟨h.2, trivial⟩, fun h => ⟨(hN.2 x).2 ⟨by rw [h.1]; simp [qd], by rw [h.1]; decide +kernel⟩, h.1⟩⟩
  rw [if_neg (by decide), hfil] at e3
  rw [show m_model_Holds (⟨2, (⟨(⟨#[97]⟩ : ByteArray), (⟨#[114]⟩ : ByteArray)⟩ : Role), zS, (⟨(⟨#[98]⟩ : ByteArray), (⟨#[115]⟩ : ByteArray)⟩ : Role), (⟨zS, zS⟩ : Role), zS⟩ : Cred) (fun x => m_model_Model_In (mm T2) C2 us2 ws2 [] n2 x.1 x.2) [(⟨#[97]⟩ : ByteArray), (⟨#[100]⟩ : ByteArray)] = _ from e3]
  simp only [Option.bind_some, List.map_cons, List.map_nil]
  rw [hn, hn2]
  simp only [show ((2 : Int) - 0 == 2) = true from rfl, if_true]
  have i1 : m_model_Model_In (mm T2) C2 us2 ws2 [] 2 (⟨(⟨#[97]⟩ : ByteArray), (⟨#[114]⟩ : ByteArray)⟩ : Role) (⟨#[100]⟩ : ByteArray) = some true := by
    show some (mgetD beqS ((mget beqRole (mm T2) qA).getD []) qd false) = _
    rw [(hinD qA qd).2 (.inl rfl)]
  have i2 : m_model_Model_In (mm T2) C2 us2 ws2 [] 2 (⟨(⟨#[97]⟩ : ByteArray), (⟨#[114]⟩ : ByteArray)⟩ : Role) (⟨#[97]⟩ : ByteArray) = some false := by
    show some (mgetD beqS ((mget beqRole (mm T2) qA).getD []) (⟨#[97]⟩ : ByteArray) false) = _
    congr 1
    cases hh : mgetD beqS ((mget beqRole (mm T2) qA).getD []) (⟨#[97]⟩ : ByteArray) false with
    | false => rfl
    | true =>
      rcases (hinD _ _).1 hh with h | h
      · have := (beqS_iff (a := (⟨#[97]⟩ : ByteArray)) (b := qd)).2 (congrArg Fact.Who h)
        revert this; decide +kernel
      · exact absurd (congrArg Fact.Role h) qAB
  rw [i1, i2]
  simp only [Option.bind_some, Bool.not_false, if_true]
  have hmem : m_model_Model_Members (mm T2) C2 us2 ws2 [] 2 (⟨(⟨#[97]⟩ : ByteArray), (⟨#[114]⟩ : ByteArray)⟩ : Role) = some [qd] := by
    rw [members_ok hSM.small M2.right M2.good]
    congr 1
    refine IsSet.unique (l := [qd]) (ltOnS (fun _ => True)) ⟨sortedS_lt (names_nodup M2.good.nd _), fun x => ?_⟩ ⟨by simp, fun x => by simp⟩
    rw [mem_sortedS, ← mem_FS M2.good.keys ⟨_, x⟩, M2.all, der2 hD, List.mem_singleton]
    constructor
    · rintro (h | h)
      · exact ⟨congrArg Fact.Who h, trivial⟩
      · exact absurd (congrArg Fact.Role h) qAB
    · rintro ⟨rfl, _⟩; exact .inl rfl
  rw [hmem]
  simp only [Option.bind_some, List.length_cons, List.length_nil, show (((0 + 1 : Nat) : Int) == 1) = true from rfl, if_true]
  rw [mroles_ok hSM M2 hF]
  have hfl : ([fA, fB].filter fun f => beqS f.Who (⟨#[100]⟩ : ByteArray)) = [fA, fB] := by
    have h1 : beqS fA.Who (⟨#[100]⟩ : ByteArray) = true := beqS_refl _
    have h2 : beqS fB.Who (⟨#[100]⟩ : ByteArray) = true := beqS_refl _
    simp [h1, h2]
  rw [hfl]
  simp only [Option.bind_some, List.map_cons, List.map_nil, List.length_cons, List.length_nil, show (((0 + 1 + 1 : Nat) : Int) == 2) = true from rfl, if_true]
  obtain ⟨s, e4, hs⟩ := facts_ok hSM.small M2 C2 us2 ws2 [] 2
  rw [e4, hs.unique hF]
  simp only [Option.bind_some, List.length_cons, List.length_nil, show (((0 + 1 + 1 : Nat) : Int) == 2) = true from rfl, if_true]
  have M2' : MS C2 T2 us2 ws2 2 := by rw [← hn2]; exact M2
  obtain ⟨C3, T3, us3, ws3, n3, e5, M3, hC3, _, _⟩ := add_ok M2' [j1] (by simp at hlen hlen2 ⊢; omega)
  have hD3 : ∀ c, c ∈ C3 ↔ c = j1 ∨ c = j2 := fun c => by
    rw [hC3, hD]
    constructor
    · rintro (h | h)
      · exact h
      · exact .inl (by simpa using h.1)
    · exact .inl
  have hn3 : n3 = 2 := by
    rw [M3.good.num]
    have := sameLen M3.good.nd (m := [fA, fB]) (by simp [fAB]) (fun f => by rw [M3.all, der2 hD3]; simp)
    rw [this]; rfl
  rw [show m_model_Model_Add_w (mm T2) C2 us2 ws2 [] 2 [(⟨2, (⟨(⟨#[97]⟩ : ByteArray), (⟨#[114]⟩ : ByteArray)⟩ : Role), zS, (⟨(⟨#[98]⟩ : ByteArray), (⟨#[115]⟩ : ByteArray)⟩ : Role), (⟨zS, zS⟩ : Role), zS⟩ : Cred)] = _ from e5]
  simp only [Option.bind_some, hn3, show ((2 : Int) - 2 == 0) = true from rfl, if_true, show (((0 + 1 : Nat) : Int) == 1) = true from rfl]
  rw [show idx [(⟨j1.Head, qd⟩ : Fact)] 0 = some fA from rfl]
  simp only [Option.bind_some]
  congr 1
  exact beqFact_iff.2 rfl
end Go.Proofs.Ytfjdjbdnnoijgaa
