/- a part of a proof of GraphHolds -/
import Derived.Test.YtfjdjbdnnoijgaaGreatMf
set_option linter.all false
namespace Go.Proofs.YtfjdjbdnnoijgaaGreat
open Go.RowKit
theorem rolesC {c : Cred} (h : rightC c = true) : m_cred_Roles c = some (c.Head :: rolesOf c) := by
  unfold m_cred_Roles
  rw [m_cred_Right_eq, h]
  simp only [Option.bind_some, Bool.not_true, Bool.false_eq_true, if_false]
  have hkk : c.Kind = 1 ∨ c.Kind = 2 ∨ c.Kind = 3 ∨ c.Kind = 4 := by rcases rightC_cases h with h | h | h | h <;> simp [h.1]
  rcases hkk with k | k | k | k
  · simp [k, rolesOf]
  · rw [if_pos (by simp [k]), appB_ok (by simp) (by simp)]
    simp [k, rolesOf]
  · rw [if_pos (by simp [k]), appB_ok (by simp) (by simp)]
    simp [k, rolesOf]
  · rw [if_pos (by simp [k]), appB_ok (by simp) (by simp)]
    simp only [Option.bind_some]
    rw [if_pos (by simp [k]), appB_ok (by simp) (by simp)]
    simp [k, rolesOf]
theorem take_L1 (c : Cred) (W : List ByteArray) (R : List Cred) : ∀ (rs : List Role) (T : List Role), m_graph_Graph_take_w_L1 c (tt W) (tt R) rs (tt T) =
    some (tt (rs.foldl (ins beqRole) T), tt (if c.Kind = 3 then ins beqS W c.Word2 else W), tt (ins beqCred R c))
  | [], T => by
    rw [m_graph_Graph_take_w_L1, mput_tt beqS_iff, mput_tt beqCred_iff]
    by_cases h : c.Kind = 3 <;> simp [h]
  | r :: rs, T => by
    rw [m_graph_Graph_take_w_L1, mput_tt beqRole_iff, take_L1 c W R rs]
    rfl
theorem mem_foldl_ins : ∀ (rs T : List Role) (r : Role), r ∈ rs.foldl (ins beqRole) T ↔ r ∈ T ∨ r ∈ rs
  | [], T, r => by simp
  | x :: rs, T, r => by
    rw [List.foldl_cons, mem_foldl_ins rs, mem_ins beqRole_iff]
    simp [or_assoc]
theorem length_foldl_ins : ∀ (rs T : List Role), (rs.foldl (ins beqRole) T).length ≤ T.length + rs.length
  | [], T => by simp
  | x :: rs, T => by
    have h1 := length_foldl_ins rs (ins beqRole T x)
    have h2 := (length_ins (beq := beqRole) T x).1
    simp only [List.foldl_cons, List.length_cons]
    omega
theorem take_eq {c : Cred} (h : rightC c = true) (A : List Cred) (T : List Role) (W : List ByteArray) (R : List Cred) : m_graph_Graph_take_w A (tt T) (tt W) (tt R) c =
    some (tt ((rolesOf c).foldl (ins beqRole) T), tt (if c.Kind = 3 then ins beqS W c.Word2 else W), tt (ins beqCred R c)) := by
  unfold m_graph_Graph_take_w
  rw [rolesC h]
  simp only [Option.bind_some]
  have hck : chk (decide ((0 : Nat) ≤ 1) && decide ((1 : Int) ≤ ((c.Head :: rolesOf c).length : Int))) = some () := by
    have : (1 : Int) ≤ ((c.Head :: rolesOf c).length : Int) := by simp; omega
    simp only [chk, this]
    rfl
  rw [hck]
  simp only [Option.bind_some, show Int.toNat 1 = 1 from rfl, List.drop_succ_cons, List.drop_zero]
  exact take_L1 c W R _ T
theorem want_L3 (A all : List Cred) (wants : List Role) (hr : ∀ c ∈ all, rightC c = true) : ∀ (l : List Cred) (T : List Role) (W : List ByteArray) (R : List Cred), (∀ c ∈ l, c ∈ all) → GInv all wants T W R →
    ∃ T' W' R', m_graph_Graph_Want_w_L3 A l (tt T) (tt W) (tt R) = some (tt T', tt W', tt R') ∧ GInv all wants T' W' R' ∧ R.length ≤ R'.length ∧ (R'.length = R.length → T' = T ∧ W' = W ∧ R' = R ∧ ∀ c ∈ l, (c.Head ∈ T ∨ c.Head.Word ∈ W) → c ∈ R)
  | [], T, W, R, _, h => ⟨T, W, R, rfl, h, Nat.le_refl _, fun _ => ⟨rfl, rfl, rfl, by simp⟩⟩
  | c :: l, T, W, R, hs, h => by
    rw [m_graph_Graph_Want_w_L3, mgetD_tt]
    have iR := hasB_iff (beq := beqCred) beqCred_iff R c
    have iT := hasB_iff (beq := beqRole) beqRole_iff T c.Head
    have iW := hasB_iff (beq := beqS) beqS_iff W c.Head.Word
    have rest : (c ∈ R ∨ ¬ (c.Head ∈ T ∨ c.Head.Word ∈ W)) → ∃ T' W' R', m_graph_Graph_Want_w_L3 A l (tt T) (tt W) (tt R) = some (tt T', tt W', tt R') ∧ GInv all wants T' W' R' ∧ R.length ≤ R'.length ∧ (R'.length = R.length → T' = T ∧ W' = W ∧ R' = R ∧ ∀ d ∈ c :: l, (d.Head ∈ T ∨ d.Head.Word ∈ W) → d ∈ R) := by
      intro hc
      obtain ⟨T', W', R', e, g1, g2, g3⟩ := want_L3 A all wants hr l T W R (fun d hd => hs d (by simp [hd])) h
      refine ⟨T', W', R', e, g1, g2, fun hl => ?_⟩
      obtain ⟨a1, a2, a3, a4⟩ := g3 hl
      exact ⟨a1, a2, a3, fun d hd hd2 => by
        rcases List.mem_cons.1 hd with rfl | hd
        · rcases hc with hc | hc
          · exact hc
          · exact absurd hd2 hc
        · exact a4 d hd hd2⟩
    by_cases hR : c ∈ R
    · rw [iR.2 hR]
      simp only [Bool.not_true, Bool.false_eq_true, if_false, Option.bind_some]
      exact rest (.inl hR)
    · have hRf : hasB beqCred R c = false := by cases hx : hasB beqCred R c with | false => rfl | true => exact absurd (iR.1 hx) hR
      rw [hRf]
      simp only [Bool.not_false, if_true, m_graph_Graph_bears, mgetD_tt]
      by_cases hF : c.Head ∈ T ∨ c.Head.Word ∈ W
      · have hcond : ((if hasB beqRole T c.Head = true then some true else some (hasB beqS W c.Head.Word)) : Option Bool) = some true := by
          rcases hF with hF | hF
          · rw [iT.2 hF]; rfl
          · rw [iW.2 hF]; cases hasB beqRole T c.Head <;> rfl
        rw [hcond]
        simp only [Option.bind_some, if_true]
        have hcr := hr c (hs c (by simp))
        rw [take_eq hcr]
        simp only [Option.bind_some]
        have hins : ins beqCred R c = R ++ [c] := by unfold ins; rw [hRf]; rfl
        rw [hins]
        have hro : (rolesOf c).length ≤ 2 := by unfold rolesOf; split <;> (try split) <;> simp
        have ladd := h.add (hs c (by simp)) hcr hR hF (T' := (rolesOf c).foldl (ins beqRole) T) (W' := if c.Kind = 3 then ins beqS W c.Word2 else W) (fun r => mem_foldl_ins _ _ _) (fun w => by
          by_cases k : c.Kind = 3
          · simp only [k, if_true, true_and]; exact mem_ins beqS_iff W c.Word2 w
          · simp [k]) (by have := length_foldl_ins (rolesOf c) T; omega) (by
          by_cases k : c.Kind = 3
          · simp only [k, if_true]; exact (length_ins W c.Word2).1
          · simp [k])
        obtain ⟨T', W', R', e, g1, g2, g3⟩ := want_L3 A all wants hr l _ _ _ (fun d hd => hs d (by simp [hd])) ladd
        simp at g2
        exact ⟨T', W', R', e, g1, by omega, fun hl => by omega⟩
      · have hT : hasB beqRole T c.Head = false := by cases hx : hasB beqRole T c.Head with | false => rfl | true => exact absurd (.inl (iT.1 hx)) hF
        have hW : hasB beqS W c.Head.Word = false := by cases hx : hasB beqS W c.Head.Word with | false => rfl | true => exact absurd (.inr (iW.1 hx)) hF
        rw [hT, hW]
        simp only [Bool.false_eq_true, if_false, Option.bind_some]
        exact rest (.inr hF)
theorem want_L2 (all : List Cred) (wants : List Role) (hr : ∀ c ∈ all, rightC c = true) : ∀ (n : Nat) (x : Int) (T : List Role) (W : List ByteArray) (R : List Cred), (all.length : Int) < n + x → GInv all wants T W R → x ≤ R.length → (x = R.length → Shut all T W R) →
    ∃ T' W' R', m_graph_Graph_Want_w_L2 all n x (tt T) (tt W) (tt R) = some (tt T', tt W', tt R') ∧ GInv all wants T' W' R' ∧ Shut all T' W' R'
  | 0, x, T, W, R, hn, h, hx, _ => by have := h.lR; omega
  | n + 1, x, T, W, R, hn, h, hx, hc => by
    rw [m_graph_Graph_Want_w_L2, tt_length]
    by_cases hlt : x < R.length
    · rw [if_pos (by simpa using hlt)]
      obtain ⟨T', W', R', e, g1, g2, g3⟩ := want_L3 all all wants hr all T W R (fun _ h => h) h
      rw [e]
      simp only [Option.bind_some]
      refine want_L2 all wants hr n R.length T' W' R' (by omega) g1 (by omega) (fun he => ?_)
      obtain ⟨rfl, rfl, rfl, a4⟩ := g3 (by omega)
      exact a4
    · rw [if_neg (by simpa using hlt)]
      exact ⟨T, W, R, rfl, h, hc (by omega)⟩
theorem want_L1 (all : List Cred) (W : List ByteArray) (R : List Cred) : ∀ (ws T : List Role), m_graph_Graph_Want_w_L1 all (tt W) (tt R) ws (tt T) = m_graph_Graph_Want_w_L1 all (tt W) (tt R) [] (tt (ws.foldl (ins beqRole) T))
  | [], T => rfl
  | w :: ws, T => by
    show m_graph_Graph_Want_w_L1 all (tt W) (tt R) ws (mput beqRole (tt T) w true) = _
    rw [mput_tt beqRole_iff, want_L1 all W R ws]
    rfl
theorem Clo.mono {all : List Cred} {wants wants' : List Role} (hw : ∀ r ∈ wants, r ∈ wants') {x : Role ⊕ ByteArray ⊕ Cred} (h : Clo all wants x) : Clo all wants' x := by
  induction h with
  | want r hr => exact .want r (hw r hr)
  | relH c hc _ ih => exact .relH c hc ih
  | relW c hc _ ih => exact .relW c hc ih
  | toB c _ hk ih => exact .toB c ih hk
  | toC c _ hk ih => exact .toC c ih hk
  | toW c _ hk ih => exact .toW c ih hk
theorem want_eq (all : List Cred) (hr : ∀ c ∈ all, rightC c = true) (hl : all.length ≤ 100000000) (wants : List Role) (b : List Role) (hb : b.length ≤ 1000000000) {T : List Role} {W : List ByteArray} {R : List Cred} (h : GInv all wants T W R) :
    ∃ s T' W' R', IsSetR b s ∧ GInv all (wants ++ s) T' W' R' ∧ Shut all T' W' R' ∧ m_graph_Graph_Want_w all (tt T) (tt W) (tt R) b = some ((R'.length : Int) - R.length, tt T', tt W', tt R') := by
  obtain ⟨s, h1, h2⟩ := setR b hb
  have h3 : GInv all (wants ++ s) (s.foldl (ins beqRole) T) W R := by
    have hm : ∀ {x}, Clo all wants x → Clo all (wants ++ s) x := fun hx => hx.mono (fun r hr => List.mem_append_left _ hr)
    refine ⟨fun r hr => ?_, fun w hw => hm (h.sW w hw), fun c hc => hm (h.sR c hc), fun r hr => ?_, h.sub, h.nd, fun c hc hk => ?_, fun c hc hk => ?_, h.toW, ?_, h.lW⟩
    · rcases (mem_foldl_ins s T r).1 hr with hr | hr
      · exact hm (h.sT r hr)
      · exact .want r (List.mem_append_right _ hr)
    · rcases List.mem_append.1 hr with hr | hr
      · exact (mem_foldl_ins s T r).2 (.inl (h.want r hr))
      · exact (mem_foldl_ins s T r).2 (.inr hr)
    · exact (mem_foldl_ins s T _).2 (.inl (h.toB c hc hk))
    · exact (mem_foldl_ins s T _).2 (.inl (h.toC c hc hk))
    · have := h.lT
      have := length_foldl_ins s T
      simp; omega
  obtain ⟨T', W', R', e, g1, g2⟩ := want_L2 all (wants ++ s) hr FUEL (-1) _ W R (by rw [FUEL_eq]; omega) h3 (by omega) (fun he => by omega)
  refine ⟨s, T', W', R', h2, g1, g2, ?_⟩
  unfold m_graph_Graph_Want_w
  rw [h1]
  simp only [Option.bind_some]
  rw [want_L1, m_graph_Graph_Want_w_L1, e]
  simp only [Option.bind_some, tt_length]
  have := g1.lR
  have := h.lR
  rw [wrap_in (by omega) (by omega)]
theorem new_eq (l : List Cred) (a : List Role) (hl : l.length ≤ 100000000) (ha : a.length ≤ 1000000000) : ∃ all s T W R, IsSetC l all ∧ IsSetR a s ∧ GInv all s T W R ∧ Shut all T W R ∧ m_graph_New l a = some (all, tt T, tt W, tt R) := by
  obtain ⟨all, h1, h2⟩ := setC l (by omega)
  have e1 := isSet_length ltOnC h2
  obtain ⟨s, T, W, R, g1, g2, g3, g4⟩ := want_eq all (fun c hc => ((h2.2 c).1 hc).2) (by omega) [] a ha (T := []) (W := []) (R := []) ⟨by simp, by simp, by simp, by simp, by simp, by simp, by simp, by simp, by simp, by simp, by simp⟩
  refine ⟨all, s, T, W, R, h2, g1, by simpa using g2, g3, ?_⟩
  unfold m_graph_New
  rw [h1]
  simp only [Option.bind_some]
  have g4' : m_graph_Graph_Want_w all [] [] [] a = _ := g4
  rw [g4']
  rfl
theorem IsSet.congr {α : Type} {lt : α → α → Prop} {P : α → Prop} {l m s : List α} (h : IsSet lt P l s) (hm : ∀ x, x ∈ l ↔ x ∈ m) : IsSet lt P m s := ⟨h.1, fun x => by rw [h.2, hm]⟩
theorem targets_L1 : ∀ (o : List (Role × Bool)) (acc : List Role), acc.length + o.length ≤ 1000000000 → m_graph_Graph_Targets_L1 o acc = m_role_Set (acc ++ o.map (·.1))
  | [], acc, _ => by
    rw [m_graph_Graph_Targets_L1]
    simp only [List.map_nil, List.append_nil]
    cases m_role_Set acc <;> rfl
  | p :: o, acc, h => by
    rw [m_graph_Graph_Targets_L1, appB_ok (by simp at h ⊢; omega) (by simp at h ⊢; omega)]
    simp only [Option.bind_some]
    rw [targets_L1 o (acc ++ [p.1]) (by simp at h ⊢; omega)]
    simp
theorem words_L1 : ∀ (o : List (ByteArray × Bool)) (acc : List ByteArray), acc.length + o.length ≤ 1000000000 → m_graph_Graph_Words_L1 o acc = m_name_Set (acc ++ o.map (·.1))
  | [], acc, _ => by
    rw [m_graph_Graph_Words_L1]
    simp only [List.map_nil, List.append_nil]
    cases m_name_Set acc <;> rfl
  | p :: o, acc, h => by
    rw [m_graph_Graph_Words_L1, appB_ok (by simp at h ⊢; omega) (by simp at h ⊢; omega)]
    simp only [Option.bind_some]
    rw [words_L1 o (acc ++ [p.1]) (by simp at h ⊢; omega)]
    simp
theorem tt_keys {κ : Type} (ks : List κ) : (tt ks).map (·.1) = ks := by simp [tt, Function.comp_def]
theorem targets_eq (A : List Cred) (T : List Role) (W : List (ByteArray × Bool)) (R : List (Cred × Bool)) {s : List Role} (hT : T.length ≤ 1000000000) (h : IsSetR T s) : m_graph_Graph_Targets A (tt T) W R = some s := by
  unfold m_graph_Graph_Targets
  refine allOrders_intro (fun o ho => ?_)
  have hlen := ho.length_eq
  rw [tt_length] at hlen
  rw [targets_L1 o [] (by simp; omega)]
  simp only [List.nil_append]
  obtain ⟨s', h1, h2⟩ := setR (o.map (·.1)) (by simp; omega)
  rw [h1]
  have hm : ∀ x, x ∈ o.map (·.1) ↔ x ∈ T := fun x => by
    have := (ho.map (·.1)).mem_iff (a := x)
    rw [tt_keys] at this
    exact this
  rw [IsSet.unique (ltOnR _) (h2.congr hm) h]
theorem words_eq (A : List Cred) (T : List (Role × Bool)) (W : List ByteArray) (R : List (Cred × Bool)) {s : List ByteArray} (hW : W.length ≤ 1000000000) (h : IsSetN W s) : m_graph_Graph_Words A T (tt W) R = some s := by
  unfold m_graph_Graph_Words
  refine allOrders_intro (fun o ho => ?_)
  have hlen := ho.length_eq
  rw [tt_length] at hlen
  rw [words_L1 o [] (by simp; omega)]
  simp only [List.nil_append]
  obtain ⟨s', h1, h2⟩ := setN (o.map (·.1)) (by simp; omega)
  rw [h1]
  have hm : ∀ x, x ∈ o.map (·.1) ↔ x ∈ W := fun x => by
    have := (ho.map (·.1)).mem_iff (a := x)
    rw [tt_keys] at this
    exact this
  rw [IsSet.unique (ltOnS _) (h2.congr hm) h]
theorem relevant_eq {l all : List Cred} (h : IsSetC l all) (hl : all.length ≤ 100000000) (T : List (Role × Bool)) (W : List (ByteArray × Bool)) (R : List Cred) (hR : ∀ c ∈ R, c ∈ all) {s : List Cred} (hs : IsSetC R s) : m_graph_Graph_Relevant all T W (tt R) = some s := by
  unfold m_graph_Graph_Relevant
  rw [cloneC (by omega)]
  simp only [Option.bind_some]
  rw [delFC_eq, delF_run _ (fun c => !hasB beqCred R c) zC all (by omega) (fun c _ => by simp [m_graph_Graph_Relevant_c1, mgetD_tt])]
  simp only [Option.bind_some, Bool.not_not]
  have : IsSetC R (all.filter fun c => hasB beqCred R c) := by
    refine ⟨h.1.filter _, fun x => ?_⟩
    rw [List.mem_filter, hasB_iff beqCred_iff]
    constructor
    · rintro ⟨h1, h2⟩; exact ⟨h2, ((h.2 x).1 h1).2⟩
    · rintro ⟨h1, h2⟩; exact ⟨hR x h1, h1⟩
  rw [IsSet.unique ltOnC this hs]
end Go.Proofs.YtfjdjbdnnoijgaaGreat
