/- a part of a proof of MergeThrees -/
import Derived.Test.YtfjdjbdnnoijgaaGreatQa
set_option linter.all false
namespace Go.Proofs.YtfjdjbdnnoijgaaGreat
open Go.RowKit
theorem delFa_eq (f : Fact → Option Bool) : ∀ (n : Nat) (l : List Fact) (i j : Int), m_slices_DeleteFunc_Fact_L1 f n l i j = delL f zF n l i j
  | 0, _, _, _ => rfl
  | n + 1, l, i, j => by
    rw [m_slices_DeleteFunc_Fact_L1, delL]
    simp only [delFa_eq f n]
    rfl
theorem idxFa_eq (f : Fact → Option Bool) : ∀ (l : List Fact) (i : Nat), m_slices_IndexFunc_Fact_L1 f l i = idxL f l i
  | [], _ => rfl
  | x :: l, i => by rw [m_slices_IndexFunc_Fact_L1, idxL]; simp only [idxFa_eq f l]
theorem delFFa_eq (f : Fact → Option Bool) (l : List Fact) : m_slices_DeleteFunc_Fact l f = delF f zF l := by
  unfold m_slices_DeleteFunc_Fact delF m_slices_IndexFunc_Fact
  simp only [idxFa_eq, delFa_eq]
theorem lost_ok {C1 C2 : List Cred} {T1 T2 : Tab} {us1 us2 : List (Role × List Cred)} {ws1 ws2 : List (ByteArray × List Cred)} {n1 n2 : Int} (hS : SM C1) (h1 : MS C1 T1 us1 ws1 n1) (h2 : MS C2 T2 us2 ws2 n2) :
    ∃ s, m_merge_lost (mm T1) C1 us1 ws1 [] n1 (mm T2) C2 us2 ws2 [] n2 = some s ∧ IsF (fun f => Der C1 f ∧ ¬ Der C2 f) s := by
  unfold m_merge_lost
  obtain ⟨s, e, hF⟩ := facts_ok hS.small h1 C1 us1 ws1 [] n1
  have hl := isF_der hF hS
  rw [e]
  simp only [Option.bind_some]
  rw [delFFa_eq, delF_run (fun x => m_merge_lost_c1 x (mm T2) C2 us2 ws2 [] n2) (fun f => mgetD beqS ((mget beqRole (mm T2) f.Role).getD []) f.Who false) zF s (by omega) (fun f _ => rfl)]
  refine ⟨_, rfl, hF.1.filter _, fun f => ?_⟩
  have hb := hasB_names h2.good.keys f.Role f.Who
  have he : (⟨f.Role, f.Who⟩ : Fact) = f := rfl
  rw [he, h2.all] at hb
  rw [List.mem_filter, hF.2]
  cases hh : mgetD beqS ((mget beqRole (mm T2) f.Role).getD []) f.Who false <;> simp_all
theorem mfacts_ok (a b : List Cred) (ha : a.length ≤ 30000) (hb : b.length ≤ 30000) : ∃ C1 C2 x y, m_merge_Facts a b = some (x, y) ∧ (∀ c, c ∈ C1 ↔ c ∈ a ∧ rightC c = true) ∧ (∀ c, c ∈ C2 ↔ c ∈ b ∧ rightC c = true) ∧ IsF (fun f => Der C2 f ∧ ¬ Der C1 f) x ∧ IsF (fun f => Der C1 f ∧ ¬ Der C2 f) y := by
  unfold m_merge_Facts
  obtain ⟨C1, T1, us1, ws1, n1, e1, m1, hC1, hlen1⟩ := of_ok a (by omega)
  obtain ⟨C2, T2, us2, ws2, n2, e2, m2, hC2, hlen2⟩ := of_ok b (by omega)
  rw [e1, e2]
  simp only [Option.bind_some]
  have s1 : SM C1 := by unfold SM; omega
  have s2 : SM C2 := by unfold SM; omega
  obtain ⟨x, e3, h3⟩ := lost_ok s2 m2 m1
  obtain ⟨y, e4, h4⟩ := lost_ok s1 m1 m2
  rw [e3, e4]
  exact ⟨C1, C2, x, y, rfl, hC1, hC2, h3, h4⟩
def kM : Cred := ⟨1, ⟨⟨#[120]⟩, ⟨#[121]⟩⟩, ⟨#[100]⟩, ⟨zS, zS⟩, ⟨zS, zS⟩, zS⟩
theorem kMr : rightC kM = true := by decide +kernel
theorem derM {C : List Cred} (hC : ∀ c, c ∈ C ↔ c = kM) (f : Fact) : Der C f ↔ f = ⟨kM.Head, kM.Who⟩ := by
  constructor
  · intro h
    cases h with
    | mem c hc hk => rw [(hC c).1 hc]
    | inc c w hc hk _ => rw [(hC c).1 hc] at hk; exact absurd hk (by decide)
    | lnk c b w hc hk _ _ => rw [(hC c).1 hc] at hk; exact absurd hk (by decide)
    | both c w hc hk _ _ => rw [(hC c).1 hc] at hk; exact absurd hk (by decide)
  · rintro rfl
    exact .mem kM ((hC kM).2 rfl) rfl
theorem derNo {C : List Cred} (hC : ∀ c, ¬ c ∈ C) (f : Fact) : ¬ Der C f := fun h => by
  obtain ⟨c, hc, _⟩ := h.head
  exact hC c hc
theorem first41 : m_law41_first = some true := by
  unfold m_law41_first
  obtain ⟨came, went, e1, h1, h2, _, _⟩ := diff_ok [] [kM] (by simp) (by simp)
  have c1 : came = [kM] := setEq h1.1 (l := [kM]) (fun x => by rw [h1.2, mem_mns]; simp) ⟨by simp, fun x => by
    constructor
    · intro h; simp at h; subst h; exact ⟨by simp, kMr⟩
    · intro h; exact h.1⟩
  have c2 : went = [] := List.eq_nil_iff_forall_not_mem.2 (fun x hx => by have := ((h2.2 x).1 hx).1; rw [mem_mns] at this; exact absurd this.1 (by simp))
  subst c1; subst c2
  rw [show m_merge_Diff [] [(⟨1, (⟨(⟨#[120]⟩ : ByteArray), (⟨#[121]⟩ : ByteArray)⟩ : Role), (⟨#[100]⟩ : ByteArray), (⟨zS, zS⟩ : Role), (⟨zS, zS⟩ : Role), zS⟩ : Cred)] = _ from e1]
  simp only [Option.bind_some]
  obtain ⟨C1, C2, x, y, e2, hC1, hC2, hx, hy⟩ := mfacts_ok [] [kM] (by simp) (by simp)
  rw [show m_merge_Facts [] [(⟨1, (⟨(⟨#[120]⟩ : ByteArray), (⟨#[121]⟩ : ByteArray)⟩ : Role), (⟨#[100]⟩ : ByteArray), (⟨zS, zS⟩ : Role), (⟨zS, zS⟩ : Role), zS⟩ : Cred)] = _ from e2]
  simp only [Option.bind_some]
  have n1 : ∀ f, ¬ Der C1 f := derNo (fun c hc => by have := ((hC1 c).1 hc).1; simp at this)
  have n2 : ∀ f, Der C2 f ↔ f = ⟨kM.Head, kM.Who⟩ := derM (fun c => by
    rw [hC2]
    constructor
    · intro h; simpa using h.1
    · rintro rfl; exact ⟨by simp, kMr⟩)
  have x1 : x = [⟨kM.Head, kM.Who⟩] := hx.unique ⟨by simp, fun f => by simp [n1, n2]⟩
  have y1 : y = [] := List.eq_nil_iff_forall_not_mem.2 (fun f hf => n1 f ((hy.2 f).1 hf).1)
  subst x1; subst y1
  have o1 : ((([kM] : List Cred).length : Int) == 1) = true := rfl
  have o2 : ((([] : List Cred).length : Int) == 0) = true := rfl
  have o3 : ((([⟨kM.Head, kM.Who⟩] : List Fact).length : Int) == 1) = true := rfl
  have o4 : ((([] : List Fact).length : Int) == 0) = true := rfl
  simp only [o1, o2, o3, o4, if_true, Option.bind_some]
  obtain ⟨s, e3, h3, _⟩ := apply_ok [] [kM] [] (by simp) (by simp)
  have s1 : s = [kM] := setEq h3.1 (l := [kM]) (fun x => by rw [h3.2, List.mem_append, mem_mns]; simp) ⟨by simp, fun x => by
    constructor
    · intro h; simp at h; subst h; exact ⟨by simp, kMr⟩
    · intro h; exact h.1⟩
  subst s1
  rw [e3]
  simp only [o1, if_true, Option.bind_some, m_merge_Back]
  obtain ⟨t, e4, p1, p2⟩ := three_ok [] [kM] [] (by simp) (by simp) (by simp)
  have t1 : t = [kM] := setEq p1 (l := [kM]) (fun x => by rw [p2]; simp [threeP]) ⟨by simp, fun x => by
    constructor
    · intro h; simp at h; subst h; exact ⟨by simp, kMr⟩
    · intro h; exact h.1⟩
  subst t1
  rw [show m_merge_Three [] [(⟨1, (⟨(⟨#[120]⟩ : ByteArray), (⟨#[121]⟩ : ByteArray)⟩ : Role), (⟨#[100]⟩ : ByteArray), (⟨zS, zS⟩ : Role), (⟨zS, zS⟩ : Role), zS⟩ : Cred)] [] = _ from e4]
  simp only [o1, if_true, Option.bind_some]
end Go.Proofs.YtfjdjbdnnoijgaaGreat
