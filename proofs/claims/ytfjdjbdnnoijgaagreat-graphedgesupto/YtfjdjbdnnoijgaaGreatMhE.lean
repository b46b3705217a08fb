/- A part of the proof that the law GraphEdges answers true for every input of bulk at most 1048576. -/
import Derived.Test.YtfjdjbdnnoijgaaGreatMgE
set_option linter.all false
set_option linter.unusedSimpArgs false
set_option linter.unusedVariables false
namespace Go.Proofs.YtfjdjbdnnoijgaaGreat
open Go.RowKit
set_option linter.unusedVariables false
set_option linter.unusedSimpArgs false

theorem great_L1 : ∀ (l : List Cred) (n : Int), 0 ≤ n → n ≤ 4000000000000000000 → (∀ c ∈ l, c.Head.Owner.size + c.Head.Word.size + c.Who.size + c.B.Owner.size + c.B.Word.size + c.C.Owner.size + c.C.Word.size + c.Word2.size ≤ 1000000000) → n + l.length * 1000000020 ≤ 4000000000000000000 →
    ∃ r, m_law05_Great_L1 l n = some r ∧ n + 20 * l.length ≤ r
  | [], n, _, _, _, _ => ⟨n, rfl, by simp⟩
  | c :: l, n, h0, h1, hc, hb => by
    have h := hc c (by simp)
    simp only [List.length_cons] at hb ⊢
    rw [m_law05_Great_L1]
    rw [wrap_in (x := 20 + (c.Head.Owner.size : Int)) (by omega) (by omega), wrap_in (x := 20 + (c.Head.Owner.size : Int) + (c.Head.Word.size : Int)) (by omega) (by omega), wrap_in (x := 20 + (c.Head.Owner.size : Int) + (c.Head.Word.size : Int) + (c.Who.size : Int)) (by omega) (by omega), wrap_in (x := 20 + (c.Head.Owner.size : Int) + (c.Head.Word.size : Int) + (c.Who.size : Int) + (c.B.Owner.size : Int)) (by omega) (by omega), wrap_in (x := 20 + (c.Head.Owner.size : Int) + (c.Head.Word.size : Int) + (c.Who.size : Int) + (c.B.Owner.size : Int) + (c.B.Word.size : Int)) (by omega) (by omega), wrap_in (x := 20 + (c.Head.Owner.size : Int) + (c.Head.Word.size : Int) + (c.Who.size : Int) + (c.B.Owner.size : Int) + (c.B.Word.size : Int) + (c.C.Owner.size : Int)) (by omega) (by omega), wrap_in (x := 20 + (c.Head.Owner.size : Int) + (c.Head.Word.size : Int) + (c.Who.size : Int) + (c.B.Owner.size : Int) + (c.B.Word.size : Int) + (c.C.Owner.size : Int) + (c.C.Word.size : Int)) (by omega) (by omega), wrap_in (x := 20 + (c.Head.Owner.size : Int) + (c.Head.Word.size : Int) + (c.Who.size : Int) + (c.B.Owner.size : Int) + (c.B.Word.size : Int) + (c.C.Owner.size : Int) + (c.C.Word.size : Int) + (c.Word2.size : Int)) (by omega) (by omega), wrap_in (by omega) (by omega)]
    obtain ⟨r, e1, e2⟩ := great_L1 l (n + (20 + (c.Head.Owner.size : Int) + (c.Head.Word.size : Int) + (c.Who.size : Int) + (c.B.Owner.size : Int) + (c.B.Word.size : Int) + (c.C.Owner.size : Int) + (c.C.Word.size : Int) + (c.Word2.size : Int))) (by omega) (by omega) (fun d hd => hc d (by simp [hd])) (by omega)
    exact ⟨r, e1, by omega⟩
def sizeC (c : Cred) : Nat := c.Head.Owner.size + c.Head.Word.size + c.Who.size + c.B.Owner.size + c.B.Word.size + c.C.Owner.size + c.C.Word.size + c.Word2.size
theorem great_ok (l : List Cred) (hl : l.length ≤ 100000000) (hc : ∀ c ∈ l, sizeC c ≤ 1000000000) : ∃ r, m_law05_Great l = some r := by
  obtain ⟨r, h, _⟩ := great_L1 l 0 (by omega) (by omega) hc (by omega)
  exact ⟨r, h⟩
theorem greatR_L1 : ∀ (l : List Role) (n : Int), 0 ≤ n → (∀ r ∈ l, r.Owner.size + r.Word.size ≤ 1000000000) → n + l.length * 1000000001 ≤ 4000000000000000000 → ∃ b, m_law22_great_L1 l n = some b
  | [], n, _, _, _ => ⟨_, rfl⟩
  | r :: l, n, h0, hc, hb => by
    have h := hc r (by simp)
    simp only [List.length_cons] at hb
    rw [m_law22_great_L1]
    rw [wrap_in (x := 1 + (r.Owner.size : Int)) (by omega) (by omega), wrap_in (x := 1 + (r.Owner.size : Int) + (r.Word.size : Int)) (by omega) (by omega), wrap_in (by omega) (by omega)]
    exact greatR_L1 l _ (by omega) (fun d hd => hc d (by simp [hd])) (by omega)
theorem greatR_ok (l : List Role) (hl : l.length ≤ 100000000) (hc : ∀ r ∈ l, r.Owner.size + r.Word.size ≤ 1000000000) : ∃ b, m_law22_great l = some b :=
  greatR_L1 l 0 (by omega) hc (by omega)
theorem sameLen {α : Type} {l m : List α} (h1 : l.Nodup) (h2 : m.Nodup) (h : ∀ x, x ∈ l ↔ x ∈ m) : l.length = m.length := Nat.le_antisymm (length_le_of_nodup h1 (fun x hx => (h x).1 hx)) (length_le_of_nodup h2 (fun x hx => (h x).2 hx))
theorem Clo.congr {all : List Cred} {w w' : List Role} (h : ∀ r, r ∈ w ↔ r ∈ w') (x : Role ⊕ ByteArray ⊕ Cred) : Clo all w x ↔ Clo all w' x := ⟨fun hx => hx.mono (fun r hr => (h r).1 hr), fun hx => hx.mono (fun r hr => (h r).2 hr)⟩

theorem graphTells_main (hf : m_law22_first = some true) (l : List Cred) (a b : List Role) (hl : l.length ≤ 10000000) (ha : a.length ≤ 10000000) (hb : b.length ≤ 10000000) (hc : ∀ c ∈ l, sizeC c ≤ 1000000000) (hca : ∀ r ∈ a, r.Owner.size + r.Word.size ≤ 1000000000) (hcb : ∀ r ∈ b, r.Owner.size + r.Word.size ≤ 1000000000) :
    m_law22_GraphTells l a b = some true := by
  unfold m_law22_GraphTells
  rw [hf]
  simp only [Option.bind_some, Bool.not_true, Bool.false_eq_true, if_false]
  obtain ⟨g, hg⟩ := great_ok l (by omega) hc
  obtain ⟨ga, hga⟩ := greatR_ok a (by omega) hca
  obtain ⟨gb, hgb⟩ := greatR_ok b (by omega) hcb
  have hx : ∃ x, ((m_law05_Great l).bind fun r864 => if decide (r864 > 1500) = true then some true else (m_law22_great a).bind fun r868 => if r868 = true then some true else (m_law22_great b).bind fun r872 => some r872) = some x := by
    rw [hg, hga, hgb]
    simp only [Option.bind_some]
    split
    · exact ⟨_, rfl⟩
    · split
      · exact ⟨_, rfl⟩
      · exact ⟨_, rfl⟩
  obtain ⟨x, hx⟩ := hx
  rw [hx]
  simp only [Option.bind_some]
  cases x with
  | true => rfl
  | false =>
    simp only [Bool.false_eq_true, if_false]
    obtain ⟨all, w1, T1, W1, R1, x1, x2, x3, A1, A2, A3, A4, A5, A6, A7, A8⟩ := refOf l a (by omega) (by omega)
    obtain ⟨all2, w2, T2, W2, R2, y1, y2, y3, B1, B2, B3, B4, B5, B6, B7, B8⟩ := refOf l (a ++ b) (by omega) (by simp; omega)
    obtain rfl := IsSet.unique ltOnC A1 B1
    obtain ⟨all3, s, T, W, R, C1, C2, C3, C4, C5⟩ := new_eq l a (by omega) (by omega)
    obtain rfl := IsSet.unique ltOnC A1 C1
    obtain rfl := IsSet.unique (ltOnR _) A2 C2
    have hall : all.length ≤ l.length := isSet_length ltOnC A1
    have hw1 : w1.length ≤ a.length := isSet_length (ltOnR _) A2
    have hright : ∀ c ∈ all, rightC c = true := fun c hc => ((A1.2 c).1 hc).2
    obtain ⟨s2, T', W', R', D1, D2, D3, D4⟩ := want_eq all hright (by omega) w1 b (by omega) C3
    have hs2 : s2.length ≤ b.length := isSet_length (ltOnR _) D1
    have c1 := C3.lT; have c2 := C3.lW; have c3 := C3.lR
    have d1 := D2.lT; have d2 := D2.lW; have d3 := D2.lR
    simp only [List.length_append] at d1
    rw [A5]
    simp only [Option.bind_some]
    rw [appB_ok (by simp; omega) (by simp; omega)]
    simp only [Option.bind_some, List.nil_append]
    rw [appB_ok (by omega) (by omega)]
    simp only [Option.bind_some]
    rw [B5, C5]
    simp only [Option.bind_some]
    -- what both hold
    have eT : IsSetR T x1 := A6.congr (fun r => (A3.T_iff A4 r).trans (C3.T_iff C4 r).symm)
    have eW : IsSetN W x2 := A7.congr (fun r => (A3.W_iff A4 r).trans (C3.W_iff C4 r).symm)
    have eR : IsSetC R x3 := A8.congr (fun r => (A3.R_iff A4 r).trans (C3.R_iff C4 r).symm)
    have hw : ∀ r, r ∈ w2 ↔ r ∈ w1 ++ s2 := fun r => by
      rw [B2.2, List.mem_append, List.mem_append, A2.2, D1.2]
      constructor
      · rintro ⟨h1 | h1, h2⟩
        · exact .inl ⟨h1, h2⟩
        · exact .inr ⟨h1, h2⟩
      · rintro (⟨h1, h2⟩ | ⟨h1, h2⟩)
        · exact ⟨.inl h1, h2⟩
        · exact ⟨.inr h1, h2⟩
    have fT : IsSetR T' y1 := B6.congr (fun r => ((B3.T_iff B4 r).trans (Clo.congr hw _)).trans (D2.T_iff D3 r).symm)
    have fW : IsSetN W' y2 := B7.congr (fun r => ((B3.W_iff B4 r).trans (Clo.congr hw _)).trans (D2.W_iff D3 r).symm)
    have fR : IsSetC R' y3 := B8.congr (fun r => ((B3.R_iff B4 r).trans (Clo.congr hw _)).trans (D2.R_iff D3 r).symm)
    have l3 : x3.length = R.length := sameLen (nodup_of_lt ltOnC (fun c hc => ((eR.2 c).1 hc).2) eR.1) C3.nd (fun c => by
      rw [eR.2]; exact ⟨fun h => h.1, fun h => ⟨h, hright c (C3.sub c h)⟩⟩)
    have m3 : y3.length = R'.length := sameLen (nodup_of_lt ltOnC (fun c hc => ((fR.2 c).1 hc).2) fR.1) D2.nd (fun c => by
      rw [fR.2]; exact ⟨fun h => h.1, fun h => ⟨h, hright c (D2.sub c h)⟩⟩)
    rw [targets_eq all T (tt W) (tt R) (by omega) eT]
    simp only [Option.bind_some]
    rw [sameR]
    simp only [Option.bind_some, Bool.not_true, Bool.false_eq_true, if_false]
    rw [words_eq all (tt T) W (tt R) (by omega) eW]
    simp only [Option.bind_some]
    rw [sameS]
    simp only [Option.bind_some, Bool.not_true, Bool.false_eq_true, if_false]
    rw [relevant_eq A1 (by omega) (tt T) (tt W) R C3.sub eR]
    simp only [Option.bind_some]
    rw [sameC]
    simp only [Option.bind_some, Bool.not_true, Bool.false_eq_true, if_false]
    rw [D4]
    simp only [Option.bind_some]
    rw [wrap_in (by omega) (by omega), l3, m3]
    simp only [bne_self_eq_false, Bool.false_eq_true, if_false]
    rw [targets_eq all T' (tt W') (tt R') (by omega) fT]
    simp only [Option.bind_some]
    rw [sameR]
    simp only [Option.bind_some, if_true]
    rw [words_eq all (tt T') W' (tt R') (by omega) fW]
    simp only [Option.bind_some]
    rw [sameS]
    simp only [Option.bind_some, if_true]
    rw [relevant_eq A1 (by omega) (tt T') (tt W') R' D2.sub fR]
    simp only [Option.bind_some]
    rw [sameC]
    simp only [Option.bind_some, if_true]
    rfl
end Go.Proofs.YtfjdjbdnnoijgaaGreat
