/- A part of the proof that the law GraphEdges answers true for every input of bulk at most 1048576. -/
import Derived.Test.YtfjdjbdnnoijgaaGreatMhE
set_option linter.all false
set_option linter.unusedSimpArgs false
set_option linter.unusedVariables false
namespace Go.Proofs.YtfjdjbdnnoijgaaGreat
open Go.RowKit
set_option linter.unusedVariables false
set_option linter.unusedSimpArgs false

/-! ### edges -/
def ed (c : Cred) : List Arr2Role := (rolesOf c).map fun r => ⟨c.Head, r⟩
theorem refEdges_L1 : ∀ (l : List Cred) (acc : List Arr2Role), (∀ c ∈ l, rightC c = true) → acc.length + 2 * l.length ≤ 1000000000 → m_ref22_Edges_L1 l acc = some (acc ++ l.flatMap ed)
  | [], acc, _, _ => by simp [m_ref22_Edges_L1]
  | c :: l, acc, hr, hb => by
    have h := hr c (by simp)
    have hkk : c.Kind = 1 ∨ c.Kind = 2 ∨ c.Kind = 3 ∨ c.Kind = 4 := by rcases rightC_cases h with h | h | h | h <;> simp [h.1]
    simp only [List.length_cons] at hb
    rw [m_ref22_Edges_L1]
    rcases hkk with k | k | k | k
    · rw [if_neg (by simp [k])]
      simp only [Option.bind_some]
      rw [if_neg (by simp [k]), refEdges_L1 l acc (fun d hd => hr d (by simp [hd])) (by omega)]
      simp [ed, rolesOf, k]
    · rw [if_pos (by simp [k]), appB_ok (by simp; omega) (by simp; omega)]
      simp only [Option.bind_some]
      rw [if_neg (by simp [k]), refEdges_L1 l _ (fun d hd => hr d (by simp [hd])) (by simp; omega)]
      simp [ed, rolesOf, k]
    · rw [if_pos (by simp [k]), appB_ok (by simp; omega) (by simp; omega)]
      simp only [Option.bind_some]
      rw [if_neg (by simp [k]), refEdges_L1 l _ (fun d hd => hr d (by simp [hd])) (by simp; omega)]
      simp [ed, rolesOf, k]
    · rw [if_pos (by simp [k]), appB_ok (by simp; omega) (by simp; omega)]
      simp only [Option.bind_some]
      rw [if_pos (by simp [k]), appB_ok (by simp; omega) (by simp; omega)]
      simp only [Option.bind_some]
      rw [refEdges_L1 l _ (fun d hd => hr d (by simp [hd])) (by simp; omega)]
      simp [ed, rolesOf, k]

noncomputable def cbE (want : List Arr2Role) (stop : Int) : (Bool × Int) → (Role × Role) → Option (Bool × (Bool × Int)) := fun s x => m_law22_GraphEdges_c1_w x.1 x.2 s.1 s.2 want stop
theorem cbE_run {want P Q : List Arr2Role} {h r : Role} {stop : Int} (hs : 0 ≤ stop) (hs2 : stop ≤ 255) (hw : want = P ++ ⟨h, r⟩ :: Q) (hl : want.length ≤ 1000000000) : cbE want stop (true, (P.length : Int)) (h, r) = some (decide ((P.length : Int) + 1 ≤ stop), (true, (P.length : Int) + 1)) := by
  unfold cbE m_law22_GraphEdges_c1_w
  have hlt : (P.length : Int) < (want.length : Int) := by rw [hw]; simp; omega
  have hPl : P.length ≤ want.length := by omega
  rw [if_pos rfl, if_pos (by simpa using hlt), hw, idx_mid]
  simp only [Option.bind_some]
  rw [wrap_in (by omega) (by omega), wrap_in (by omega) (by omega)]
  have : beqArr2Role ⟨h, r⟩ ⟨h, r⟩ = true := beqArr2Role_iff.2 rfl
  rw [this]
  rfl
theorem edges_L2 {want : List Arr2Role} {stop : Int} (hs : 0 ≤ stop) (hs2 : stop ≤ 255) (hl : want.length ≤ 1000000000) (c : Cred) : ∀ (rs : List Role) (P Q : List Arr2Role), want = P ++ rs.map (fun r => ⟨c.Head, r⟩) ++ Q → (P.length : Int) ≤ stop →
    m_graph_Graph_Edges_c1_s_L2 (cbE want stop) c rs (true, (P.length : Int)) = if (P.length : Int) + rs.length ≤ stop then some (.inr (true, (P.length : Int) + rs.length)) else some (.inl (true, stop + 1))
  | [], P, Q, hw, hk => by
    rw [m_graph_Graph_Edges_c1_s_L2, if_pos (by simpa using hk)]
    simp
  | r :: rs, P, Q, hw, hk => by
    rw [m_graph_Graph_Edges_c1_s_L2, cbE_run (P := P) (Q := rs.map (fun r => ⟨c.Head, r⟩) ++ Q) hs hs2 (by rw [hw]; simp) hl]
    simp only [Option.bind_some]
    by_cases h : (P.length : Int) + 1 ≤ stop
    · rw [if_neg (by simp [h])]
      have ih := edges_L2 hs hs2 hl c rs (P ++ [⟨c.Head, r⟩]) Q (by rw [hw]; simp) (by simp; omega)
      simp only [List.length_append, List.length_cons, List.length_nil, Nat.zero_add, Int.natCast_add, Int.natCast_one] at ih ⊢
      rw [ih]
      have e : (P.length : Int) + 1 + rs.length = (P.length : Int) + ((rs.length : Int) + 1) := by omega
      rw [e]
    · rw [if_pos (by simp [h]), if_neg (by simp only [List.length_cons, Int.natCast_add, Int.natCast_one]; omega)]
      have e : (P.length : Int) + 1 = stop + 1 := by omega
      rw [e]
theorem edges_L1 {want : List Arr2Role} {stop : Int} (hs : 0 ≤ stop) (hs2 : stop ≤ 255) (hl : want.length ≤ 1000000000) : ∀ (l : List Cred) (P : List Arr2Role), (∀ c ∈ l, rightC c = true) → want = P ++ l.flatMap ed → (P.length : Int) ≤ stop →
    m_graph_Graph_Edges_c1_s_L1 (cbE want stop) l (true, (P.length : Int)) = some (true, if (want.length : Int) ≤ stop then (want.length : Int) else stop + 1)
  | [], P, _, hw, hk => by
    have e : want = P := by simpa using hw
    rw [m_graph_Graph_Edges_c1_s_L1, e, if_pos hk]
  | c :: l, P, hr, hw, hk => by
    rw [m_graph_Graph_Edges_c1_s_L1, rolesC (hr c (by simp))]
    simp only [Option.bind_some]
    have hck : chk (decide ((0 : Nat) ≤ 1) && decide ((1 : Int) ≤ ((c.Head :: rolesOf c).length : Int))) = some () := by
      have : (1 : Int) ≤ ((c.Head :: rolesOf c).length : Int) := by simp; omega
      simp only [chk, this]
      rfl
    rw [hck]
    simp only [Option.bind_some, show Int.toNat 1 = 1 from rfl, List.drop_succ_cons, List.drop_zero]
    have hw2 : want = P ++ (rolesOf c).map (fun r => (⟨c.Head, r⟩ : Arr2Role)) ++ l.flatMap ed := by rw [hw]; simp [ed]
    rw [edges_L2 hs hs2 hl c (rolesOf c) P (l.flatMap ed) hw2 hk]
    by_cases h : (P.length : Int) + (rolesOf c).length ≤ stop
    · rw [if_pos h]
      simp only [Option.bind_some]
      have ih := edges_L1 hs hs2 hl l (P ++ ed c) (fun d hd => hr d (by simp [hd])) (by rw [hw]; simp) (by simp [ed]; omega)
      have e : ((P ++ ed c).length : Int) = (P.length : Int) + (rolesOf c).length := by simp [ed]
      rw [e] at ih
      exact ih
    · rw [if_neg h]
      simp only [Option.bind_some]
      have : ¬ (want.length : Int) ≤ stop := by rw [hw2]; simp; omega
      rw [if_neg this]

theorem graphEdges_main (hf : m_law22_first = some true) (l : List Cred) (a : List Role) (stop : Int) (hs : 0 ≤ stop) (hs2 : stop ≤ 255) (hl : l.length ≤ 10000000) (ha : a.length ≤ 10000000) (hc : ∀ c ∈ l, sizeC c ≤ 1000000000) (hca : ∀ r ∈ a, r.Owner.size + r.Word.size ≤ 1000000000) :
    m_law22_GraphEdges l a stop = some true := by
  unfold m_law22_GraphEdges
  rw [hf]
  simp only [Option.bind_some, Bool.not_true, Bool.false_eq_true, if_false]
  obtain ⟨g, hg⟩ := great_ok l (by omega) hc
  obtain ⟨ga, hga⟩ := greatR_ok a (by omega) hca
  rw [hg, hga]
  simp only [Option.bind_some]
  by_cases hgt : g > 1500
  · simp [hgt]
  rw [if_neg (by simpa using hgt)]
  simp only [Option.bind_some]
  cases ga with
  | true => rfl
  | false =>
    simp only [Bool.false_eq_true, if_false]
    obtain ⟨all, w1, T1, W1, R1, x1, x2, x3, A1, A2, A3, A4, A5, A6, A7, A8⟩ := refOf l a (by omega) (by omega)
    obtain ⟨all3, s, T, W, R, C1, C2, C3, C4, C5⟩ := new_eq l a (by omega) (by omega)
    obtain rfl := IsSet.unique ltOnC A1 C1
    obtain rfl := IsSet.unique (ltOnR _) A2 C2
    have hall : all.length ≤ l.length := isSet_length ltOnC A1
    have eR : IsSetC R x3 := A8.congr (fun r => (A3.R_iff A4 r).trans (C3.R_iff C4 r).symm)
    have hright : ∀ c ∈ x3, rightC c = true := fun c hc => ((A8.2 c).1 hc).2
    have hx3 : x3.length ≤ R1.length := isSet_length ltOnC A8
    have hR1 := A3.lR
    have hfl : ∀ m : List Cred, (m.flatMap ed).length ≤ 2 * m.length := fun m => by
      induction m with
      | nil => simp
      | cons c m ih =>
        have : (ed c).length ≤ 2 := by unfold ed rolesOf; split <;> (try split) <;> simp
        simp only [List.flatMap_cons, List.length_append, List.length_cons]; omega
    have hwl := hfl x3
    rw [A5]
    simp only [Option.bind_some]
    unfold m_ref22_Edges
    rw [refEdges_L1 x3 [] hright (by simp; omega)]
    simp only [Option.bind_some, List.nil_append]
    rw [C5]
    simp only [Option.bind_some]
    have hE : m_graph_Graph_Edges_w all (tt T) (tt W) (tt R) = some () := rfl
    rw [hE]
    simp only [Option.bind_some]
    unfold m_graph_Graph_Edges_c1_s
    rw [relevant_eq A1 (by omega) (tt T) (tt W) R C3.sub eR]
    simp only [Option.bind_some]
    have hrun := edges_L1 (want := x3.flatMap ed) hs hs2 (by omega) x3 [] hright (by simp) (by simpa using hs)
    have hrun2 : m_graph_Graph_Edges_c1_s_L1 (fun (s : (Bool × Int)) (x : (Role × Role)) => m_law22_GraphEdges_c1_w x.1 x.2 s.1 s.2 (x3.flatMap ed) stop) x3 (true, 0) = _ := hrun
    rw [hrun2]
    simp only [Option.bind_some, if_true]
    rw [wrap_in (x := stop) (by omega) (by omega), wrap_in (by omega) (by omega)]
    congr 1
    simp only [beq_iff_eq]
    split <;> split <;> omega
end Go.Proofs.YtfjdjbdnnoijgaaGreat
