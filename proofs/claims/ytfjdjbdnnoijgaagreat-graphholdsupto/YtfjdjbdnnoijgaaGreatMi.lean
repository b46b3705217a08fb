/- a part of a proof of GraphHolds -/
import Derived.Test.YtfjdjbdnnoijgaaGreatMk
set_option linter.all false
namespace Go.Proofs.YtfjdjbdnnoijgaaGreat
open Go.RowKit
def rA : Role := ⟨⟨#[97]⟩, ⟨#[114]⟩⟩
def rB : Role := ⟨⟨#[98]⟩, ⟨#[115]⟩⟩
def rC : Role := ⟨⟨#[99]⟩, ⟨#[116]⟩⟩
def k1 : Cred := ⟨2, rA, zS, rB, ⟨zS, zS⟩, zS⟩
def k2 : Cred := ⟨1, rC, ⟨#[100]⟩, ⟨zS, zS⟩, ⟨zS, zS⟩, zS⟩
theorem rAr : rightR rA = true := by decide +kernel
theorem rBr : rightR rB = true := by decide +kernel
theorem rCr : rightR rC = true := by decide +kernel
theorem k1r : rightC k1 = true := by decide +kernel
theorem k2r : rightC k2 = true := by decide +kernel
theorem rAB : rA ≠ rB := fun e => by have := (beqRole_iff (x := rA) (y := rB)).2 e; revert this; decide +kernel
theorem rAC : rA ≠ rC := fun e => by have := (beqRole_iff (x := rA) (y := rC)).2 e; revert this; decide +kernel
theorem rBC : rB ≠ rC := fun e => by have := (beqRole_iff (x := rB) (y := rC)).2 e; revert this; decide +kernel
theorem k12 : k1 ≠ k2 := fun e => by have := congrArg Cred.Kind e; revert this; decide
theorem in_all {all : List Cred} (h : IsSetC [k1, k2] all) (c : Cred) : c ∈ all ↔ c = k1 ∨ c = k2 := by
  rw [h.2]
  constructor
  · rintro ⟨h, _⟩; simpa using h
  · rintro (rfl | rfl)
    · exact ⟨by simp, k1r⟩
    · exact ⟨by simp, k2r⟩
theorem clo1 {all : List Cred} (h : IsSetC [k1, k2] all) {w : List Role} (hw : ∀ r, r ∈ w ↔ r = rA) {x : Role ⊕ ByteArray ⊕ Cred} (hx : Clo all w x) : match x with | .inl r => r = rA ∨ r = rB | .inr (.inl _) => False | .inr (.inr c) => c = k1 := by
  induction hx with
  | want r hr => exact .inl ((hw r).1 hr)
  | relH c hc _ ih =>
    rcases (in_all h c).1 hc with rfl | rfl
    · rfl
    · rcases ih with e | e
      · exact absurd e.symm rAC
      · exact absurd e.symm rBC
  | relW c hc _ ih => exact ih.elim
  | toB c _ hk ih => exact .inr (congrArg Cred.B (show c = k1 from ih))
  | toC c _ hk ih => exact absurd ((congrArg Cred.Kind (show c = k1 from ih)).symm.trans hk) (by decide)
  | toW c _ hk ih => exact absurd ((congrArg Cred.Kind (show c = k1 from ih)).symm.trans hk) (by decide)
theorem clo2 {all : List Cred} (h : IsSetC [k1, k2] all) {w : List Role} (hw : ∀ r, r ∈ w → r = rA ∨ r = rC) {x : Role ⊕ ByteArray ⊕ Cred} (hx : Clo all w x) : match x with | .inl r => True | .inr (.inl _) => False | .inr (.inr c) => c = k1 ∨ c = k2 := by
  induction hx with
  | want r hr => trivial
  | relH c hc _ ih => exact (in_all h c).1 hc
  | relW c hc _ ih => exact ih.elim
  | toB c _ hk ih => trivial
  | toC c _ hk ih => trivial
  | toW c _ hk ih => rcases ih with rfl | rfl <;> exact absurd hk (by decide)
theorem first22 : m_law22_first = some true := by
  unfold m_law22_first
  obtain ⟨all, s, T, W, R, C1, C2, C3, C4, C5⟩ := new_eq [k1, k2] [rA] (by simp) (by simp)
  have hall := in_all C1
  have hal : all.length ≤ 2 := isSet_length ltOnC C1
  have hright : ∀ c ∈ all, rightC c = true := fun c hc => ((C1.2 c).1 hc).2
  have hs : ∀ r, r ∈ s ↔ r = rA := fun r => by
    rw [C2.2]
    constructor
    · rintro ⟨h, _⟩; simpa using h
    · rintro rfl; exact ⟨by simp, rAr⟩
  have C5' : m_graph_New ([(⟨2, (⟨(⟨#[97]⟩ : ByteArray), (⟨#[114]⟩ : ByteArray)⟩ : Role), zS, (⟨(⟨#[98]⟩ : ByteArray), (⟨#[115]⟩ : ByteArray)⟩ : Role), (⟨zS, zS⟩ : Role), zS⟩ : Cred), (⟨1, (⟨(⟨#[99]⟩ : ByteArray), (⟨#[116]⟩ : ByteArray)⟩ : Role), (⟨#[100]⟩ : ByteArray), (⟨zS, zS⟩ : Role), (⟨zS, zS⟩ : Role), zS⟩ : Cred)]) ([(⟨(⟨#[97]⟩ : ByteArray), (⟨#[114]⟩ : ByteArray)⟩ : Role)]) = _ := C5
  rw [C5']
  simp only [Option.bind_some, m_graph_Graph_Edges_w]
  have hrA : rA ∈ T := C3.want rA ((hs rA).2 rfl)
  have hk1 : k1 ∈ R := C4 k1 ((hall k1).2 (.inl rfl)) (.inl hrA)
  have hR : ∀ c, c ∈ R ↔ c = k1 := fun c => ⟨fun h => clo1 C1 hs (C3.sR c h), fun h => h ▸ hk1⟩
  have hrB : rB ∈ T := C3.toB k1 hk1 (by decide)
  have hT : ∀ r, r ∈ T ↔ r = rA ∨ r = rB := fun r => ⟨fun h => clo1 C1 hs (C3.sT r h), fun h => by rcases h with rfl | rfl; exact hrA; exact hrB⟩
  have hW : W = [] := by
    cases hW : W with
    | nil => rfl
    | cons w W' => exact (clo1 C1 hs (C3.sW w (by rw [hW]; simp))).elim
  have lR : R.length = 1 := sameLen (m := [k1]) C3.nd (by simp) (fun c => by rw [hR]; simp)
  have lTT := C3.lT
  have sl : s.length ≤ 1 := isSet_length (ltOnR _) C2
  obtain ⟨tT, e1, e2⟩ := refSetR T (by omega)
  have lT : tT.length = 2 := sameLen (m := [rA, rB]) (nodup_of_lt (ltOnR _) (fun r hr => ((e2.2 r).1 hr).2) e2.1) (by simp [rAB]) (fun r => by
    rw [e2.2, hT]
    constructor
    · rintro ⟨h, _⟩; simpa using h
    · intro h
      simp at h
      exact ⟨h, by rcases h with rfl | rfl; exact rAr; exact rBr⟩)
  have eR : IsSetC R [k1] := ⟨by simp, fun c => by
    rw [hR]; constructor
    · intro h; simp at h; subst h; exact ⟨rfl, k1r⟩
    · rintro ⟨h, _⟩; simpa using h⟩
  have hrel := relevant_eq C1 (by omega) (tt T) (tt W) R C3.sub eR
  have hedge : m_graph_Graph_Edges_c1_s (fun (s : Int) (x : (Role × Role)) => m_law22_first_c1_w x.1 x.2 s ((⟨(⟨#[97]⟩ : ByteArray), (⟨#[114]⟩ : ByteArray)⟩ : Role)) ((⟨(⟨#[98]⟩ : ByteArray), (⟨#[115]⟩ : ByteArray)⟩ : Role))) 0 all (tt T) (tt W) (tt R) = some 1 := by
    unfold m_graph_Graph_Edges_c1_s
    rw [hrel]
    simp only [Option.bind_some]
    rw [m_graph_Graph_Edges_c1_s_L1, rolesC k1r]
    have hro : rolesOf k1 = [rB] := rfl
    rw [hro]
    have hck : chk (decide ((0 : Nat) ≤ 1) && decide ((1 : Int) ≤ (([k1.Head, rB] : List Role).length : Int))) = some () := rfl
    simp only [Option.bind_some]
    rw [hck]
    simp only [Option.bind_some, show Int.toNat 1 = 1 from rfl, List.drop_succ_cons, List.drop_zero]
    rw [m_graph_Graph_Edges_c1_s_L2]
    have hcb : m_law22_first_c1_w k1.Head rB 0 (⟨⟨#[97]⟩, ⟨#[114]⟩⟩ : Role) (⟨⟨#[98]⟩, ⟨#[115]⟩⟩ : Role) = some (true, 1) := by
      unfold m_law22_first_c1_w
      rw [beqRole_iff.2 (show k1.Head = (⟨⟨#[97]⟩, ⟨#[114]⟩⟩ : Role) from rfl), beqRole_iff.2 (show rB = (⟨⟨#[98]⟩, ⟨#[115]⟩⟩ : Role) from rfl)]
      simp only [if_true, Option.bind_some]
      rw [wrap_in (by omega) (by omega)]
      rfl
    rw [hcb]
    rfl
  rw [hedge]
  simp only [Option.bind_some]
  rw [targets_eq all T (tt W) (tt R) (by omega) e2]
  simp only [Option.bind_some, lT]
  rw [if_pos (by decide)]
  have eW : IsSetN W [] := ⟨by simp, by rw [hW]; simp⟩
  rw [words_eq all (tt T) W (tt R) (by rw [hW]; simp) eW]
  simp only [Option.bind_some]
  rw [if_pos (by decide), hrel]
  simp only [Option.bind_some]
  rw [if_pos (by decide)]
  have e11 : ((1 : Int) == 1) = true := rfl
  have e22 : (((2 : Nat) : Int) == 2) = true := rfl
  have eww : ((((2 : Nat) : Int) - ((1 : Nat) : Int)) == 1) = true := rfl
  simp only [Option.bind_some, e11, if_true]
  obtain ⟨s2, T2, W2, R2, D1, D2, D3, D4⟩ := want_eq all hright (by omega) s [rC] (by simp) C3
  have hs2 : ∀ r, r ∈ s2 ↔ r = rC := fun r => by
    rw [D1.2]
    constructor
    · rintro ⟨h, _⟩; simpa using h
    · rintro rfl; exact ⟨by simp, rCr⟩
  have hw2 : ∀ r, r ∈ s ++ s2 → r = rA ∨ r = rC := fun r hr => by
    rcases List.mem_append.1 hr with h | h
    · exact .inl ((hs r).1 h)
    · exact .inr ((hs2 r).1 h)
  have h1 : k1 ∈ R2 := D3 k1 ((hall k1).2 (.inl rfl)) (.inl (D2.want rA (List.mem_append_left _ ((hs rA).2 rfl))))
  have h2 : k2 ∈ R2 := D3 k2 ((hall k2).2 (.inr rfl)) (.inl (D2.want rC (List.mem_append_right _ ((hs2 rC).2 rfl))))
  have hR2 : ∀ c, c ∈ R2 ↔ c = k1 ∨ c = k2 := fun c => ⟨fun h => clo2 C1 hw2 (D2.sR c h), fun h => by rcases h with rfl | rfl; exact h1; exact h2⟩
  have lR2 : R2.length = 2 := sameLen (m := [k1, k2]) D2.nd (by simp [k12]) (fun c => by rw [hR2]; simp)
  have D4' : m_graph_Graph_Want_w all (tt T) (tt W) (tt R) ([(⟨(⟨#[99]⟩ : ByteArray), (⟨#[116]⟩ : ByteArray)⟩ : Role)]) = _ := D4
  rw [D4']
  simp only [Option.bind_some, lR, lR2, eww, if_true]
  obtain ⟨r2, f1, f2⟩ := refSetC R2 (by omega)
  rw [relevant_eq C1 (by omega) (tt T2) (tt W2) R2 D2.sub f2]
  have lr2 : r2.length = 2 := by
    rw [← lR2]
    exact sameLen (nodup_of_lt ltOnC (fun c hc => ((f2.2 c).1 hc).2) f2.1) D2.nd (fun c => by
      rw [f2.2]; exact ⟨fun h => h.1, fun h => ⟨h, hright c (D2.sub c h)⟩⟩)
  simp only [Option.bind_some, lr2, e22, if_true]
  obtain ⟨s3, T3, W3, R3, F1, F2, F3, F4⟩ := want_eq all hright (by omega) (s ++ s2) [rA] (by simp) D2
  have hs3 : ∀ r, r ∈ s3 ↔ r = rA := fun r => by
    rw [F1.2]
    constructor
    · rintro ⟨h, _⟩; simpa using h
    · rintro rfl; exact ⟨by simp, rAr⟩
  have hw3 : ∀ r, r ∈ s ++ s2 ++ s3 → r = rA ∨ r = rC := fun r hr => by
    rcases List.mem_append.1 hr with h | h
    · exact hw2 r h
    · exact .inl ((hs3 r).1 h)
  have g1 : k1 ∈ R3 := F3 k1 ((hall k1).2 (.inl rfl)) (.inl (F2.want rA (List.mem_append_left _ (List.mem_append_left _ ((hs rA).2 rfl)))))
  have g2 : k2 ∈ R3 := F3 k2 ((hall k2).2 (.inr rfl)) (.inl (F2.want rC (List.mem_append_left _ (List.mem_append_right _ ((hs2 rC).2 rfl)))))
  have lR3 : R3.length = 2 := sameLen (m := [k1, k2]) F2.nd (by simp [k12]) (fun c => by
    simp only [List.mem_cons, List.not_mem_nil, or_false]
    exact ⟨fun h => clo2 C1 hw3 (F2.sR c h), fun h => by rcases h with rfl | rfl; exact g1; exact g2⟩)
  have F4' : m_graph_Graph_Want_w all (tt T2) (tt W2) (tt R2) ([(⟨(⟨#[97]⟩ : ByteArray), (⟨#[114]⟩ : ByteArray)⟩ : Role)]) = _ := F4
  rw [F4']
  simp only [Option.bind_some, lR2, lR3]
  rfl
end Go.Proofs.YtfjdjbdnnoijgaaGreat
