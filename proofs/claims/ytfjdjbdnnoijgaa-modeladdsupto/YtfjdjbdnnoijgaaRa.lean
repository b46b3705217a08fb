/- a part of a proof of ModelAdds -/
import Derived.Test.YtfjdjbdnnoijgaaNg
import Derived.Test.YtfjdjbdnnoijgaaNf
set_option linter.all false
namespace Go.Proofs.Ytfjdjbdnnoijgaa
open Go.RowKit
theorem adds_L1 : ∀ (ls : List (List Cred)) (i : Nat) (all : List Cred) {C : List Cred} {T : Tab} {us : List (Role × List Cred)} {ws : List (ByteArray × List Cred)} {n : Int}, MS C T us ws n → (∀ c, c ∈ C ↔ c ∈ all ∧ rightC c = true) → C.length ≤ all.length → all.length ≤ 60 →
    (∀ c ∈ all, sizeC c ≤ 1000000000) → (∀ l ∈ ls, l.length ≤ 10000000 ∧ ∀ c ∈ l, sizeC c ≤ 1000000000) → m_law08_ModelAdds_L1 ls i all n (mm T) C us ws [] n = some true
  | [], i, all, C, T, us, ws, n, _, _, _, _, _, _ => rfl
  | l :: ls, i, all, C, T, us, ws, n, M, hC, hlen, h60, hs, hx => by
    obtain ⟨hl, hcl⟩ := hx l (by simp)
    rw [m_law08_ModelAdds_L1, appB_ok (by omega) (by omega)]
    simp only [Option.bind_some]
    have hsz : ∀ c ∈ all ++ l, sizeC c ≤ 1000000000 := fun c hc => (List.mem_append.1 hc).elim (hs c) (hcl c)
    by_cases h20 : (i : Int) ≥ 20
    · rw [if_pos (by simpa using h20)]; rfl
    · rw [if_neg (by simpa using h20)]
      obtain ⟨g, hg, hg2⟩ := great_L1 (all ++ l) 0 (by omega) (by omega) hsz (by simp; omega)
      rw [show m_law05_Great (all ++ l) = some g from hg]
      simp only [Option.bind_some]
      by_cases hbig : g > 1200
      · rw [if_pos (by simpa using hbig)]
      · rw [if_neg (by simpa using hbig)]
        have hl60 : (all ++ l).length ≤ 60 := by omega
        have hl60' : all.length + l.length ≤ 60 := by simpa using hl60
        obtain ⟨C2, s, e2, hF2, hC2⟩ := refOf08 (all ++ l) (by omega)
        rw [e2]
        simp only [Option.bind_some]
        obtain ⟨C', T', us', ws', n', e, M', hC', hlen', _⟩ := add_ok M l (by omega)
        rw [e]
        simp only [Option.bind_some]
        have hcc : ∀ c, c ∈ C2 ↔ c ∈ C' := fun c => by rw [hC', hC2, hC, List.mem_append]; exact ⟨fun h => h.1.elim (fun h1 => .inl ⟨h1, h.2⟩) (fun h1 => .inr ⟨h1, h.2⟩), fun h => h.elim (fun h1 => ⟨.inl h1.1, h1.2⟩) (fun h1 => ⟨.inr h1.1, h1.2⟩)⟩
        have hF : IsF (Der C') s := ⟨hF2.1, fun f => (hF2.2 f).trans (Der.congr hcc f)⟩
        have hSM : SM C' := by unfold SM; omega
        have hsl := isF_der hF hSM
        have hnd : s.Nodup := nodup_of_lt ltOnF (fun x _ => rfl) hF.1
        have hn' : (s.length : Int) = n' := by
          rw [M'.good.num, sameLen hnd M'.good.nd (fun f => by rw [hF.2, M'.all])]
        have hn0 : n = ((FS T).length : Int) := M.good.num
        have hfs : (FS T).length ≤ C.length * C.length := M.good.len
        have hCC : C.length * C.length ≤ 60 * 60 := Nat.mul_le_mul (by omega) (by omega)
        rw [wrap_in (by omega) (by omega), hn']
        simp only [bne_self_eq_false, Bool.false_eq_true, if_false]
        obtain ⟨s', e3, hF3⟩ := facts_ok hSM.small M' C' us' ws' [] n'
        have hss : s' = s := hF3.unique hF
        subst hss
        rw [e3]
        simp only [Option.bind_some]
        rw [sameF]
        simp only [Option.bind_some, Bool.not_true, Bool.false_eq_true, if_false]
        have := adds_L1 ls (i + 1) (all ++ l) M' (fun c => by rw [← hcc, hC2]) (by simp; omega) hl60 hsz (fun l' hl' => hx l' (by simp [hl']))
        exact this
theorem of_nil : ∃ T us ws, m_model_Of [] = some (mm T, [], us, ws, [], 0) ∧ MS [] T us ws 0 := by
  obtain ⟨C, T, us, ws, n, e1, M1, hC, hlen⟩ := of_ok [] (by simp)
  have hC0 : C = [] := List.eq_nil_of_length_eq_zero (by simpa using hlen)
  subst hC0
  have hn : n = 0 := by
    rw [M1.good.num]
    have : FS T = [] := by
      cases h : FS T with
      | nil => rfl
      | cons f l => obtain ⟨c, hc, _⟩ := (M1.good.der f (by rw [h]; simp)).head; cases hc
    rw [this]; rfl
  subst hn
  exact ⟨T, us, ws, e1, M1⟩
theorem modelAdds_main (hf : m_law08_first = some true) (ls : List (List Cred)) (hx : ∀ l ∈ ls, l.length ≤ 10000000 ∧ ∀ c ∈ l, sizeC c ≤ 1000000000) : m_law08_ModelAdds ls = some true := by
  unfold m_law08_ModelAdds
  rw [hf]
  simp only [Option.bind_some, Bool.not_true, Bool.false_eq_true, if_false]
  obtain ⟨T, us, ws, e, M⟩ := of_nil
  rw [e]
  simp only [Option.bind_some]
  exact adds_L1 ls 0 [] M (fun c => by simp) (Nat.le_refl _) (by simp) (fun c hc => by cases hc) hx
end Go.Proofs.Ytfjdjbdnnoijgaa
