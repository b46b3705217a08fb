/- A part of the proof that the law GraphEdges answers true for every input of bulk at most 1048576. -/
import Derived.Test.YtfjdjbdnnoijgaaGreatMeE
set_option linter.all false
set_option linter.unusedSimpArgs false
set_option linter.unusedVariables false
namespace Go.Proofs.YtfjdjbdnnoijgaaGreat
open Go.RowKit
set_option linter.unusedVariables false
set_option linter.unusedSimpArgs false

/-! ### maps of truths -/
def tt {κ : Type} (ks : List κ) : List (κ × Bool) := ks.map fun k => (k, true)
def hasB {κ : Type} (beq : κ → κ → Bool) (ks : List κ) (k : κ) : Bool := ks.any fun x => beq k x
def ins {κ : Type} (beq : κ → κ → Bool) (ks : List κ) (k : κ) : List κ := if hasB beq ks k then ks else ks ++ [k]
section
variable {κ : Type} {beq : κ → κ → Bool}
theorem hasB_iff (hb : ∀ {x y}, beq x y = true ↔ x = y) (ks : List κ) (k : κ) : hasB beq ks k = true ↔ k ∈ ks := by
  simp [hasB, List.any_eq_true, hb]
theorem mem_ins (hb : ∀ {x y}, beq x y = true ↔ x = y) (ks : List κ) (k x : κ) : x ∈ ins beq ks k ↔ x ∈ ks ∨ x = k := by
  unfold ins
  split
  · rename_i h
    have := (hasB_iff hb ks k).1 h
    exact ⟨.inl, fun h => by rcases h with h | rfl; exact h; exact this⟩
  · simp
theorem nodup_ins (hb : ∀ {x y}, beq x y = true ↔ x = y) {ks : List κ} (h : ks.Nodup) (k : κ) : (ins beq ks k).Nodup := by
  unfold ins
  split
  · exact h
  · rename_i hk
    have : k ∉ ks := fun hm => hk ((hasB_iff hb ks k).2 hm)
    exact List.nodup_append.2 ⟨h, by simp, fun a ha b hb2 => by simp at hb2; subst hb2; intro e; subst e; exact this ha⟩
theorem length_ins (ks : List κ) (k : κ) : (ins beq ks k).length ≤ ks.length + 1 ∧ ks.length ≤ (ins beq ks k).length := by
  unfold ins; split <;> simp
theorem tt_length (ks : List κ) : (tt ks).length = ks.length := by simp [tt]
theorem mgetD_tt (ks : List κ) (k : κ) : mgetD beq (tt ks) k false = hasB beq ks k := by
  unfold mgetD mget hasB tt
  induction ks with
  | nil => rfl
  | cons x xs ih =>
    simp only [List.map_cons, List.find?_cons, List.any_cons]
    cases h : beq k x with
    | true => simp
    | false => simpa using ih
theorem mput_tt (hb : ∀ {x y}, beq x y = true ↔ x = y) (ks : List κ) (k : κ) : mput beq (tt ks) k true = tt (ins beq ks k) := by
  unfold mput ins
  have hf : (tt ks).findIdx? (fun p => beq k p.1) = ks.findIdx? (fun x => beq k x) := by
    unfold tt; rw [List.findIdx?_map]; rfl
  rw [hf]
  cases h : ks.findIdx? (fun x => beq k x) with
  | none =>
    rw [List.findIdx?_eq_none_iff] at h
    rw [if_neg]
    · simp [tt]
    · intro hh
      unfold hasB at hh
      rw [List.any_eq_true] at hh
      obtain ⟨x, hx, hx2⟩ := hh
      rw [h x hx] at hx2
      cases hx2
  | some i =>
    rw [List.findIdx?_eq_some_iff_getElem] at h
    obtain ⟨hi, h1, _⟩ := h
    have e := hb.1 h1
    rw [if_pos]
    · simp only [tt]
      apply List.ext_getElem?
      intro j
      rw [List.getElem?_set]
      split
      · rename_i hij
        subst hij
        simp [hi, e]
      · rfl
    · unfold hasB
      exact List.any_eq_true.2 ⟨ks[i], List.getElem_mem hi, h1⟩
end

/-! ### what bears on what is wanted -/
inductive Clo (all : List Cred) (wants : List Role) : Role ⊕ ByteArray ⊕ Cred → Prop
  | want (r : Role) : r ∈ wants → Clo all wants (.inl r)
  | relH (c : Cred) : c ∈ all → Clo all wants (.inl c.Head) → Clo all wants (.inr (.inr c))
  | relW (c : Cred) : c ∈ all → Clo all wants (.inr (.inl c.Head.Word)) → Clo all wants (.inr (.inr c))
  | toB (c : Cred) : Clo all wants (.inr (.inr c)) → c.Kind > 1 → Clo all wants (.inl c.B)
  | toC (c : Cred) : Clo all wants (.inr (.inr c)) → c.Kind = 4 → Clo all wants (.inl c.C)
  | toW (c : Cred) : Clo all wants (.inr (.inr c)) → c.Kind = 3 → Clo all wants (.inr (.inl c.Word2))
structure GInv (all : List Cred) (wants : List Role) (T : List Role) (W : List ByteArray) (R : List Cred) : Prop where
  sT : ∀ r ∈ T, Clo all wants (.inl r)
  sW : ∀ w ∈ W, Clo all wants (.inr (.inl w))
  sR : ∀ c ∈ R, Clo all wants (.inr (.inr c))
  want : ∀ r ∈ wants, r ∈ T
  sub : ∀ c ∈ R, c ∈ all
  nd : R.Nodup
  toB : ∀ c ∈ R, c.Kind > 1 → c.B ∈ T
  toC : ∀ c ∈ R, c.Kind = 4 → c.C ∈ T
  toW : ∀ c ∈ R, c.Kind = 3 → c.Word2 ∈ W
  lT : T.length ≤ wants.length + 2 * R.length
  lW : W.length ≤ R.length
def Shut (all : List Cred) (T : List Role) (W : List ByteArray) (R : List Cred) : Prop := ∀ c ∈ all, (c.Head ∈ T ∨ c.Head.Word ∈ W) → c ∈ R
section
variable {all : List Cred} {wants : List Role} {T : List Role} {W : List ByteArray} {R : List Cred}
theorem GInv.all_of (h : GInv all wants T W R) (hs : Shut all T W R) : ∀ x, Clo all wants x → (match x with | .inl r => r ∈ T | .inr (.inl w) => w ∈ W | .inr (.inr c) => c ∈ R) := by
  intro x hx
  induction hx with
  | want r hr => exact h.want r hr
  | relH c hc _ ih => exact hs c hc (.inl ih)
  | relW c hc _ ih => exact hs c hc (.inr ih)
  | toB c _ hk ih => exact h.toB c ih hk
  | toC c _ hk ih => exact h.toC c ih hk
  | toW c _ hk ih => exact h.toW c ih hk
theorem GInv.T_iff (h : GInv all wants T W R) (hs : Shut all T W R) (r : Role) : r ∈ T ↔ Clo all wants (.inl r) := ⟨h.sT r, h.all_of hs (.inl r)⟩
theorem GInv.W_iff (h : GInv all wants T W R) (hs : Shut all T W R) (w : ByteArray) : w ∈ W ↔ Clo all wants (.inr (.inl w)) := ⟨h.sW w, h.all_of hs (.inr (.inl w))⟩
theorem GInv.R_iff (h : GInv all wants T W R) (hs : Shut all T W R) (c : Cred) : c ∈ R ↔ Clo all wants (.inr (.inr c)) := ⟨h.sR c, h.all_of hs (.inr (.inr c))⟩
theorem GInv.lR (h : GInv all wants T W R) : R.length ≤ all.length := length_le_of_nodup h.nd h.sub
def rolesOf (c : Cred) : List Role := if c.Kind = 1 then [] else if c.Kind = 4 then [c.B, c.C] else [c.B]
/-- a credential becomes relevant -/
theorem GInv.add (h : GInv all wants T W R) {c : Cred} (hc : c ∈ all) (hk : rightC c = true) (hn : c ∉ R) (hf : c.Head ∈ T ∨ c.Head.Word ∈ W) {T' : List Role} {W' : List ByteArray} (hT : ∀ r, r ∈ T' ↔ r ∈ T ∨ r ∈ rolesOf c) (hW : ∀ w, w ∈ W' ↔ w ∈ W ∨ (c.Kind = 3 ∧ w = c.Word2))
    (lT : T'.length ≤ T.length + 2) (lW : W'.length ≤ W.length + 1) : GInv all wants T' W' (R ++ [c]) := by
  have hcl : Clo all wants (.inr (.inr c)) := by
    rcases hf with hf | hf
    · exact .relH c hc (h.sT _ hf)
    · exact .relW c hc (h.sW _ hf)
  have hkk : c.Kind = 1 ∨ c.Kind = 2 ∨ c.Kind = 3 ∨ c.Kind = 4 := by rcases rightC_cases hk with h | h | h | h <;> simp [h.1]
  refine ⟨fun r hr => ?_, fun w hw => ?_, fun d hd => ?_, fun r hr => (hT r).2 (.inl (h.want r hr)), fun d hd => ?_, ?_, fun d hd hk2 => ?_, fun d hd hk2 => ?_, fun d hd hk2 => ?_, ?_, ?_⟩
  · rcases (hT r).1 hr with hr | hr
    · exact h.sT r hr
    · unfold rolesOf at hr
      split at hr
      · cases hr
      · split at hr
        · rename_i h4
          simp at hr
          rcases hr with rfl | rfl
          · exact .toB c hcl (by omega)
          · exact .toC c hcl h4
        · simp at hr; subst hr; exact .toB c hcl (by omega)
  · rcases (hW w).1 hw with hw | ⟨h3, rfl⟩
    · exact h.sW w hw
    · exact .toW c hcl h3
  · rcases List.mem_append.1 hd with hd | hd
    · exact h.sR d hd
    · simp at hd; subst hd; exact hcl
  · rcases List.mem_append.1 hd with hd | hd
    · exact h.sub d hd
    · simp at hd; subst hd; exact hc
  · exact List.nodup_append.2 ⟨h.nd, by simp, fun a ha b hb => by simp at hb; subst hb; intro e; subst e; exact hn ha⟩
  · rcases List.mem_append.1 hd with hd | hd
    · exact (hT _).2 (.inl (h.toB d hd hk2))
    · simp at hd; subst hd
      refine (hT _).2 (.inr ?_)
      unfold rolesOf
      rw [if_neg (by omega)]
      split <;> simp
  · rcases List.mem_append.1 hd with hd | hd
    · exact (hT _).2 (.inl (h.toC d hd hk2))
    · simp at hd; subst hd
      refine (hT _).2 (.inr ?_)
      unfold rolesOf
      rw [if_neg (by omega), if_pos hk2]
      simp
  · rcases List.mem_append.1 hd with hd | hd
    · exact (hW _).2 (.inl (h.toW d hd hk2))
    · simp at hd; subst hd; exact (hW _).2 (.inr ⟨hk2, rfl⟩)
  · have := h.lT; simp; omega
  · have := h.lW; simp; omega
end

/-! ### the document's loop -/
theorem hasC_eq (x : Cred) : ∀ l : List Cred, m_ref05_Has l x = some (hasB beqCred l x)
  | [] => rfl
  | y :: l => by
    have ih := hasC_eq x l
    unfold m_ref05_Has at ih ⊢
    rw [m_ref05_Has_L1, ih]
    have : beqCred y x = beqCred x y := by rw [Bool.eq_iff_iff, beqCred_iff, beqCred_iff]; exact eq_comm
    rw [this]
    simp only [hasB, List.any_cons]
    cases beqCred x y <;> simp
theorem hasR_eq (x : Role) : ∀ l : List Role, m_ref04_Has l x = some (hasB beqRole l x)
  | [] => rfl
  | y :: l => by
    have ih := hasR_eq x l
    unfold m_ref04_Has at ih ⊢
    rw [m_ref04_Has_L1, ih, beqRole_comm y x]
    simp only [hasB, List.any_cons]
    cases beqRole x y <;> simp
theorem hasN_eq (x : ByteArray) : ∀ l : List ByteArray, m_ref03_Has l x = some (hasB beqS l x)
  | [] => rfl
  | y :: l => by
    have ih := hasN_eq x l
    unfold m_ref03_Has at ih ⊢
    rw [m_ref03_Has_L1, ih, beqS_comm y x]
    simp only [hasB, List.any_cons]
    cases beqS x y <;> simp
theorem ref22_L2 (all : List Cred) (wants : List Role) (hr : ∀ c ∈ all, rightC c = true) (hl : all.length ≤ 100000000) (hw : wants.length ≤ 100000000) : ∀ (l : List Cred) (came : Bool) (T : List Role) (W : List ByteArray) (R : List Cred), (∀ c ∈ l, c ∈ all) → GInv all wants T W R →
    ∃ came' T' W' R', m_ref22_Of_L2 l came T W R = some (came', T', W', R') ∧ GInv all wants T' W' R' ∧ (came' = true → came = true ∨ R.length < R'.length) ∧ (came' = false → came = false ∧ T' = T ∧ W' = W ∧ R' = R ∧ ∀ c ∈ l, (c.Head ∈ T ∨ c.Head.Word ∈ W) → c ∈ R) ∧ R.length ≤ R'.length
  | [], came, T, W, R, _, h => ⟨came, T, W, R, rfl, h, fun h => .inl h, fun h => ⟨h, rfl, rfl, rfl, by simp⟩, Nat.le_refl _⟩
  | c :: l, came, T, W, R, hs, h => by
    rw [m_ref22_Of_L2, hasC_eq, hasR_eq, hasN_eq]
    simp only [Option.bind_some]
    have iR := hasB_iff (beq := beqCred) beqCred_iff R c
    have iT := hasB_iff (beq := beqRole) beqRole_iff T c.Head
    have iW := hasB_iff (beq := beqS) beqS_iff W c.Head.Word
    by_cases hR : c ∈ R
    · rw [iR.2 hR]
      simp only [if_true, Option.bind_some]
      obtain ⟨c', T', W', R', e, g1, g2, g3, g4⟩ := ref22_L2 all wants hr hl hw l came T W R (fun d hd => hs d (by simp [hd])) h
      rw [e]
      refine ⟨c', T', W', R', rfl, g1, g2, fun hf => ?_, g4⟩
      obtain ⟨a1, a2, a3, a4, a5⟩ := g3 hf
      exact ⟨a1, a2, a3, a4, fun d hd hd2 => by rcases List.mem_cons.1 hd with rfl | hd; exact hR; exact a5 d hd hd2⟩
    · have hRf : hasB beqCred R c = false := by cases hx : hasB beqCred R c with | false => rfl | true => exact absurd (iR.1 hx) hR
      rw [hRf]
      by_cases hF : c.Head ∈ T ∨ c.Head.Word ∈ W
      · have hcond : ((if false = true then some true else if (!hasB beqRole T c.Head) = true then some (!hasB beqS W c.Head.Word) else some false) : Option Bool) = some false := by
          rcases hF with hF | hF
          · rw [iT.2 hF]; rfl
          · rw [iW.2 hF]; cases hasB beqRole T c.Head <;> rfl
        rw [hcond]
        simp only [Option.bind_some, Bool.false_eq_true, if_false]
        have hlR := h.lR
        have hlT := h.lT
        have hlW := h.lW
        have hcr := hr c (hs c (by simp))
        have hkk : c.Kind = 1 ∨ c.Kind = 2 ∨ c.Kind = 3 ∨ c.Kind = 4 := by rcases rightC_cases hcr with h | h | h | h <;> simp [h.1]
        have hall := hs c (by simp)
        rw [appB_ok (by simp; omega) (by simp; omega)]
        simp only [Option.bind_some]
        have go : ∀ T' W', (∀ r, r ∈ T' ↔ r ∈ T ∨ r ∈ rolesOf c) → (∀ w, w ∈ W' ↔ w ∈ W ∨ (c.Kind = 3 ∧ w = c.Word2)) → T'.length ≤ T.length + 2 → W'.length ≤ W.length + 1 →
            ∃ came' T'' W'' R'', m_ref22_Of_L2 l true T' W' (R ++ [c]) = some (came', T'', W'', R'') ∧ GInv all wants T'' W'' R'' ∧ (came' = true → came = true ∨ R.length < R''.length) ∧ (came' = false → came = false ∧ T'' = T ∧ W'' = W ∧ R'' = R ∧ ∀ d ∈ c :: l, (d.Head ∈ T ∨ d.Head.Word ∈ W) → d ∈ R) ∧ R.length ≤ R''.length := by
          intro T' W' h1 h2 h3 h4
          obtain ⟨c', T'', W'', R'', e, g1, g2, g3, g4⟩ := ref22_L2 all wants hr hl hw l true T' W' (R ++ [c]) (fun d hd => hs d (by simp [hd])) (h.add hall hcr hR hF h1 h2 h3 h4)
          simp at g4
          exact ⟨c', T'', W'', R'', e, g1, fun _ => .inr (by omega), fun hf => (by cases (g3 hf).1), by omega⟩
        rcases hkk with k | k | k | k
        · rw [if_neg (by simp [k])]
          simp only [Option.bind_some]
          rw [if_neg (by simp [k])]
          simp only [Option.bind_some]
          rw [if_neg (by simp [k])]
          exact go T W (by simp [rolesOf, k]) (by simp [k]) (by omega) (by omega)
        · rw [if_pos (by simp [k]), appB_ok (by simp; omega) (by simp; omega)]
          simp only [Option.bind_some]
          rw [if_neg (by simp [k])]
          simp only [Option.bind_some]
          rw [if_neg (by simp [k])]
          exact go (T ++ [c.B]) W (by simp [rolesOf, k]) (by simp [k]) (by simp) (by omega)
        · rw [if_pos (by simp [k]), appB_ok (by simp; omega) (by simp; omega)]
          simp only [Option.bind_some]
          rw [if_neg (by simp [k])]
          simp only [Option.bind_some]
          rw [if_pos (by simp [k]), appB_ok (by simp; omega) (by simp; omega)]
          simp only [Option.bind_some]
          exact go (T ++ [c.B]) (W ++ [c.Word2]) (by simp [rolesOf, k]) (by simp [k]) (by simp) (by simp)
        · rw [if_pos (by simp [k]), appB_ok (by simp; omega) (by simp; omega)]
          simp only [Option.bind_some]
          rw [if_pos (by simp [k]), appB_ok (by simp; omega) (by simp; omega)]
          simp only [Option.bind_some]
          rw [if_neg (by simp [k])]
          exact go (T ++ [c.B] ++ [c.C]) W (by simp [rolesOf, k, or_assoc]) (by simp [k]) (by simp) (by omega)
      · have hT : hasB beqRole T c.Head = false := by cases hx : hasB beqRole T c.Head with | false => rfl | true => exact absurd (.inl (iT.1 hx)) hF
        have hW : hasB beqS W c.Head.Word = false := by cases hx : hasB beqS W c.Head.Word with | false => rfl | true => exact absurd (.inr (iW.1 hx)) hF
        rw [hT, hW]
        simp only [Bool.not_false, if_true, Option.bind_some, Bool.false_eq_true, if_false]
        obtain ⟨c', T', W', R', e, g1, g2, g3, g4⟩ := ref22_L2 all wants hr hl hw l came T W R (fun d hd => hs d (by simp [hd])) h
        rw [e]
        refine ⟨c', T', W', R', rfl, g1, g2, fun hf => ?_, g4⟩
        obtain ⟨a1, a2, a3, a4, a5⟩ := g3 hf
        exact ⟨a1, a2, a3, a4, fun d hd hd2 => by rcases List.mem_cons.1 hd with rfl | hd; exact absurd hd2 hF; exact a5 d hd hd2⟩
theorem ref22_L1 (all : List Cred) (wants : List Role) (hr : ∀ c ∈ all, rightC c = true) (hl : all.length ≤ 100000000) (hw : wants.length ≤ 100000000) : ∀ (n : Nat) (T : List Role) (W : List ByteArray) (R : List Cred), all.length < n + R.length → GInv all wants T W R →
    ∃ T' W' R' a b c, GInv all wants T' W' R' ∧ Shut all T' W' R' ∧ m_ref22_Of_L1 all n T W R = some (a, b, c) ∧ IsSetR T' a ∧ IsSetN W' b ∧ IsSetC R' c
  | 0, T, W, R, hn, h => by have := h.lR; omega
  | n + 1, T, W, R, hn, h => by
    rw [m_ref22_Of_L1]
    obtain ⟨came, T', W', R', e, g1, g2, g3, g4⟩ := ref22_L2 all wants hr hl hw all false T W R (fun _ h => h) h
    rw [e]
    simp only [Option.bind_some]
    cases came with
    | true =>
      rw [if_neg (by simp)]
      rcases g2 rfl with g | g
      · cases g
      · exact ref22_L1 all wants hr hl hw n T' W' R' (by omega) g1
    | false =>
      rw [if_pos (by simp)]
      obtain ⟨_, rfl, rfl, rfl, a5⟩ := g3 rfl
      have hlR := h.lR
      have hlT := h.lT
      have hlW := h.lW
      obtain ⟨a, ha, ha2⟩ := refSetR T' (by omega)
      obtain ⟨b, hb, hb2⟩ := refSetN W' (by omega)
      obtain ⟨c, hc, hc2⟩ := refSetC R' (by omega)
      rw [ha, hb, hc]
      exact ⟨T', W', R', a, b, c, h, a5, rfl, ha2, hb2, hc2⟩
theorem refOf (l : List Cred) (w : List Role) (hl : l.length ≤ 100000000) (hw : w.length ≤ 100000000) : ∃ all wants T W R a b c, IsSetC l all ∧ IsSetR w wants ∧ GInv all wants T W R ∧ Shut all T W R ∧ m_ref22_Of l w = some (a, b, c) ∧ IsSetR T a ∧ IsSetN W b ∧ IsSetC R c := by
  obtain ⟨all, h1, h2⟩ := refSetC l (by omega)
  obtain ⟨wants, h3, h4⟩ := refSetR w (by omega)
  have e1 := isSet_length ltOnC h2
  have e2 := isSet_length (ltOnR _) h4
  obtain ⟨T, W, R, a, b, c, g1, g2, g3, g4, g5, g6⟩ := ref22_L1 all wants (fun c hc => ((h2.2 c).1 hc).2) (by omega) (by omega) FUEL wants [] [] (by rw [FUEL_eq]; omega)
    ⟨fun r hr => .want r hr, by simp, by simp, fun r hr => hr, by simp, by simp, by simp, by simp, by simp, by simp, by simp⟩
  refine ⟨all, wants, T, W, R, a, b, c, h2, h4, g1, g2, ?_, g4, g5, g6⟩
  unfold m_ref22_Of
  rw [h1, h3]
  exact g3
end Go.Proofs.YtfjdjbdnnoijgaaGreat
