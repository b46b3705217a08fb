/- a part of a proof of GraphHolds -/
import Derived.Test.YtfjdjbdnnoijgaaGreatNe
import Derived.Test.YtfjdjbdnnoijgaaGreatMi
set_option linter.all false
namespace Go.Proofs.YtfjdjbdnnoijgaaGreat
open Go.RowKit
theorem sameS_total (b : List ByteArray) : ∀ (l : List ByteArray) (i : Nat), i + l.length = b.length → ∃ r, m_ref03_Same_L1 b l i = some r
  | [], i, _ => ⟨_, rfl⟩
  | x :: l, i, h => by
    simp only [List.length_cons] at h
    rw [m_ref03_Same_L1, idx_nat, List.getElem?_eq_getElem (by omega)]
    simp only [Option.bind_some]
    split
    · exact ⟨_, rfl⟩
    · exact sameS_total b l (i + 1) (by omega)
theorem sameS_some (a b : List ByteArray) : ∃ r, m_ref03_Same a b = some r := by
  unfold m_ref03_Same
  split
  · exact ⟨_, rfl⟩
  · rename_i h
    refine sameS_total b a 0 ?_
    simp only [bne_iff_ne, ne_eq, Decidable.not_not] at h
    omega
theorem GInv.back {all R : List Cred} {T wants : List Role} {W : List ByteArray} (h : GInv all wants T W R) (hs : Shut all T W R) {f : Fact} (hd : Der all f) : f.Role ∈ T ∨ f.Role.Word ∈ W → Der R f := by
  induction hd with
  | mem c hc hk => intro hf; exact .mem c (hs c hc hf) hk
  | inc c w hc hk _ ih =>
    intro hf
    have hr := hs c hc hf
    exact .inc c w hr hk (ih (.inl (h.toB c hr (by omega))))
  | lnk c b w hc hk _ _ ih1 ih2 =>
    intro hf
    have hr := hs c hc hf
    exact .lnk c b w hr hk (ih1 (.inl (h.toB c hr (by omega)))) (ih2 (.inr (h.toW c hr hk)))
  | both c w hc hk _ _ ih1 ih2 =>
    intro hf
    have hr := hs c hc hf
    exact .both c w hr hk (ih1 (.inl (h.toB c hr (by omega)))) (ih2 (.inl (h.toC c hr hk)))
theorem sorted_congr {l m : List ByteArray} (h1 : l.Nodup) (h2 : m.Nodup) (h : ∀ x, x ∈ l ↔ x ∈ m) : sortedS l = sortedS m :=
  IsSet.unique (l := l) (ltOnS (fun _ => True)) ⟨sortedS_lt h1, fun x => by rw [mem_sortedS]; simp⟩ ⟨sortedS_lt h2, fun x => by rw [mem_sortedS, h]; simp⟩
theorem holds_L1 {r1 r2 : (List (Role × (List (ByteArray × Bool)))) × (List Cred) × (List (Role × (List Cred))) × (List (ByteArray × (List Cred))) × (List Fact) × Int}
    {g1 g2 : Role → List ByteArray} (h1 : ∀ r, m_model_Model_Members r1.1 r1.2.1 r1.2.2.1 r1.2.2.2.1 r1.2.2.2.2.1 r1.2.2.2.2.2 r = some (g1 r))
    (h2 : ∀ r, m_model_Model_Members r2.1 r2.2.1 r2.2.2.1 r2.2.2.2.1 r2.2.2.2.2.1 r2.2.2.2.2.2 r = some (g2 r)) :
    ∀ a : List Role, (∀ r ∈ a, rightR r = true → g1 r = g2 r) → m_law22_GraphHolds_L1 r1 r2 a = some true
  | [], _ => rfl
  | r :: a, h => by
    rw [m_law22_GraphHolds_L1, h1, h2]
    simp only [Option.bind_some]
    have hn := holds_L1 h1 h2 a (fun r hr => h r (by simp [hr]))
    obtain ⟨b, hb⟩ := sameS_some (g1 r) (g2 r)
    rw [hb]
    simp only [Option.bind_some]
    cases b with
    | true => simpa using hn
    | false =>
      simp only [Bool.not_false, if_true]
      rw [m_ref04_Right_eq]
      simp only [Option.bind_some]
      cases hr : rightR r with
      | false => simpa using hn
      | true =>
        exfalso
        rw [h r (by simp) hr, sameS] at hb
        cases hb
theorem graphHolds_main (hf : m_law22_first = some true) (l : List Cred) (a : List Role) (hl : l.length ≤ 10000000) (ha : a.length ≤ 10000000) (hc : ∀ c ∈ l, sizeC c ≤ 1000000000) (hca : ∀ r ∈ a, r.Owner.size + r.Word.size ≤ 1000000000) :
    m_law22_GraphHolds l a = some true := by
  unfold m_law22_GraphHolds
  rw [hf]
  simp only [Option.bind_some, Bool.not_true, Bool.false_eq_true, if_false]
  obtain ⟨g, hg, hg2⟩ := great_L1 l 0 (by omega) (by omega) hc (by omega)
  obtain ⟨ga, hga⟩ := greatR_ok a (by omega) hca
  rw [show m_law05_Great l = some g from hg, hga]
  simp only [Option.bind_some]
  by_cases hbig : g > 1500
  · rw [if_pos (by simpa using hbig)]; rfl
  · rw [if_neg (by simpa using hbig)]
    simp only [Option.bind_some]
    cases ga with
    | true => rfl
    | false =>
      simp only [Bool.false_eq_true, if_false]
      have hl75 : l.length ≤ 75 := by omega
      obtain ⟨C, K, us, ws, n, e1, m1, hC1, hlen1⟩ := of_ok l (by omega)
      rw [e1]
      simp only [Option.bind_some]
      obtain ⟨all, s, T, W, R, C1, C2, C3, C4, C5⟩ := new_eq l a (by omega) (by omega)
      rw [C5]
      simp only [Option.bind_some]
      have hall : all.length ≤ l.length := isSet_length ltOnC C1
      have hright : ∀ c ∈ all, rightC c = true := fun c hc => ((C1.2 c).1 hc).2
      have hRl := C3.lR
      obtain ⟨x, hx, ex⟩ := refSetC R (by omega)
      rw [relevant_eq C1 (by omega) (tt T) (tt W) R C3.sub ex]
      simp only [Option.bind_some]
      have hxl : x.length ≤ R.length := isSet_length ltOnC ex
      obtain ⟨C', K', us', ws', n', e2, m2, hC2, hlen2⟩ := of_ok x (by omega)
      rw [e2]
      simp only [Option.bind_some]
      have d1 : ∀ f, Der C f ↔ Der all f := Der.congr (fun c => by rw [hC1, C1.2])
      have d2 : ∀ f, Der C' f ↔ Der R f := Der.congr (fun c => by
        rw [hC2, ex.2]
        exact ⟨fun h => h.1.1, fun h => ⟨⟨h, hright c (C3.sub c h)⟩, hright c (C3.sub c h)⟩⟩)
      have hS1 : SMALL C := by unfold SMALL; omega
      have hS2 : SMALL C' := by unfold SMALL; omega
      refine holds_L1 (g1 := fun r => sortedS (namesOf K r)) (g2 := fun r => sortedS (namesOf K' r)) (fun r => members_ok hS1 m1.right m1.good C us ws [] n r) (fun r => members_ok hS2 m2.right m2.good C' us' ws' [] n' r) a ?_
      intro r hr hrr
      refine sorted_congr (names_nodup m1.good.nd r) (names_nodup m2.good.nd r) (fun w => ?_)
      have k1 := mem_FS m1.good.keys (⟨r, w⟩ : Fact)
      have k2 := mem_FS m2.good.keys (⟨r, w⟩ : Fact)
      simp only at k1 k2
      rw [← k1, ← k2, m1.all, m2.all, d1, d2]
      refine ⟨fun hd => C3.back C4 hd (.inl (C3.want r ((C2.2 r).2 ⟨hr, hrr⟩))), fun hd => hd.mono C3.sub⟩
end Go.Proofs.YtfjdjbdnnoijgaaGreat
