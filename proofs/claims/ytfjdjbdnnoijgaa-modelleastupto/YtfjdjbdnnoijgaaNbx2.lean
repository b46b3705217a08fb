/- a part of a proof of ModelLeast -/
import Derived.Test.YtfjdjbdnnoijgaaNax2
set_option linter.all false
namespace Go.Proofs.Ytfjdjbdnnoijgaa
open Go.RowKit
theorem mem_sortedS (l : List ByteArray) (x : ByteArray) : x ∈ sortedS l ↔ x ∈ l := by unfold sortedS; simp
def Rights (C : List Cred) : Prop := ∀ c ∈ C, rightC c = true
theorem right_who {c : Cred} (h : rightC c = true) (hk : c.Kind = 1) : c.Who.size ≤ 16 := by
  rcases rightC_cases h with h | h | h | h
  · exact (rightN_size h.2.1).2
  · exact absurd (hk.symm.trans h.1) (by decide)
  · exact absurd (hk.symm.trans h.1) (by decide)
  · exact absurd (hk.symm.trans h.1) (by decide)
theorem flat_len {T : Tab} (r : Role) (hk : (T.map (·.1)).Nodup) : (namesOf T r).length ≤ (FS T).length := by
  unfold namesOf
  rcases key_split r T with hn | ⟨A, x, B, rfl, hA⟩
  · rw [mget_no beqRole_iff hn]; simp
  · rw [mget_split beqRole_iff hA]
    simp only [FS, List.flatMap_append, List.flatMap_cons, List.length_append, List.length_map, Option.getD_some]
    omega
theorem members_ok {C : List Cred} (hC : SMALL C) (hR : Rights C) {T : Tab} {td : List Fact} {n : Int} (h : Good C T td n) (cs : List Cred) (us : List (Role × List Cred)) (ws : List (ByteArray × List Cred)) (q : List Fact) (z : Int) (r : Role) :
    m_model_Model_Members (mm T) cs us ws q z r = some (sortedS (namesOf T r)) := by
  unfold m_model_Model_Members m_maps_Keys_map_stringbool_string_bool_
  rw [getD_mm]
  simp only [Option.bind_some, bindS]
  have hl := flat_len r h.keys
  have h2 := h.len
  have h3 := hC.sq
  unfold keysS
  rw [tt_keys, if_pos]
  refine ⟨names_nodup h.nd r, fun p hp => ?_, by rw [tt_length]; omega⟩
  simp only [tt, List.mem_map] at hp
  obtain ⟨w, hw, rfl⟩ := hp
  have hd := h.der ⟨r, w⟩ ((mem_FS h.keys ⟨r, w⟩).2 hw)
  obtain ⟨c, hc, hk, e⟩ := hd.who
  have := right_who (hR c hc) hk
  simp only at e ⊢
  rw [← e]
  unfold maxLen
  omega
theorem all_L1 {C : List Cred} (hC : SMALL C) (cs : List Cred) (us : List (Role × List Cred)) (ws : List (ByteArray × List Cred)) (head : Role) : ∀ (l : List ByteArray) {T : Tab} {td : List Fact} {n : Int}, Good C T td n → (∀ w ∈ l, Der C ⟨head, w⟩) →
    Goes C T td (m_model_Model_all_w_L1 cs us ws head l (mm T) td n) (fun T' => ∀ w ∈ l, (⟨head, w⟩ : Fact) ∈ FS T')
  | [], T, td, n, h, _ => ⟨T, td, n, rfl, h, Ext.refl _ _, fun _ hw => by cases hw⟩
  | w :: l, T, td, n, h, hd => by
    rw [m_model_Model_all_w_L1]
    obtain ⟨T1, td1, n1, e1, g1, x1, q1⟩ := tell_ok hC h cs us ws (hd w (by simp))
    rw [e1]
    simp only [Option.bind_some]
    obtain ⟨T2, td2, n2, e2, g2, x2, q2⟩ := all_L1 hC cs us ws head l g1 (fun w hw => hd w (by simp [hw]))
    refine ⟨T2, td2, n2, e2, g2, x1.trans x2, fun v hv => ?_⟩
    rcases List.mem_cons.1 hv with rfl | hv
    · exact x2.old _ q1
    · exact q2 v hv
theorem all_ok {C : List Cred} (hC : SMALL C) (hR : Rights C) {T : Tab} {td : List Fact} {n : Int} (h : Good C T td n) (cs : List Cred) (us : List (Role × List Cred)) (ws : List (ByteArray × List Cred)) (r head : Role) (hd : ∀ w, (⟨r, w⟩ : Fact) ∈ FS T → Der C ⟨head, w⟩) :
    Goes C T td (m_model_Model_all_w (mm T) cs us ws td n r head) (fun T' => ∀ w, (⟨r, w⟩ : Fact) ∈ FS T → (⟨head, w⟩ : Fact) ∈ FS T') := by
  unfold m_model_Model_all_w
  rw [members_ok hC hR h]
  simp only [Option.bind_some]
  refine (all_L1 hC cs us ws head _ h (fun w hw => hd w ((mem_FS h.keys ⟨r, w⟩).2 ((mem_sortedS _ _).1 hw)))).mono (fun T' _ hq w hw => hq w ((mem_sortedS _ _).2 ((mem_FS h.keys ⟨r, w⟩).1 hw)))
def Done (c : Cred) (f : Fact) (T T' : Tab) : Prop :=
  (c.Kind = 2 → f.Role = c.B → (⟨c.Head, f.Who⟩ : Fact) ∈ FS T') ∧
  (c.Kind = 3 → f.Role = c.B → ∀ w, (⟨⟨f.Who, c.Word2⟩, w⟩ : Fact) ∈ FS T → (⟨c.Head, w⟩ : Fact) ∈ FS T') ∧
  (c.Kind = 4 → (⟨c.B, f.Who⟩ : Fact) ∈ FS T → (⟨c.C, f.Who⟩ : Fact) ∈ FS T → (⟨c.Head, f.Who⟩ : Fact) ∈ FS T')
theorem Done.mono {c : Cred} {f : Fact} {T T' T0 T1 : Tab} (h : Done c f T T') (h0 : ∀ f ∈ FS T0, f ∈ FS T) (h1 : ∀ f ∈ FS T', f ∈ FS T1) : Done c f T0 T1 :=
  ⟨fun a b => h1 _ (h.1 a b), fun a b w hw => h1 _ (h.2.1 a b w (h0 _ hw)), fun a b d => h1 _ (h.2.2 a (h0 _ b) (h0 _ d))⟩
theorem bind3 (x : Option (List (Role × List (ByteArray × Bool)) × List Fact × Int)) : (x.bind fun r => some (r.1, r.2.1, r.2.2)) = x := by cases x <;> rfl
theorem use_ok {C : List Cred} (hC : SMALL C) (hR : Rights C) {T : Tab} {td : List Fact} {n : Int} (h : Good C T td n) (cs : List Cred) (us : List (Role × List Cred)) (ws : List (ByteArray × List Cred)) {c : Cred} (hc : c ∈ C) {f : Fact} (hf : f ∈ FS T) (hr : f.Role ∈ rolesOf c) :
    Goes C T td (m_model_Model_use_w (mm T) cs us ws td n c f) (Done c f T) := by
  unfold m_model_Model_use_w
  simp only [bind3, andS]
  by_cases h2 : c.Kind = 2
  · have hB : f.Role = c.B := by simpa [rolesOf, h2] using hr
    rw [if_pos (by simp [h2])]
    have hd : Der C ⟨c.Head, f.Who⟩ := .inc c f.Who hc h2 (by rw [← hB]; exact h.der f hf)
    refine (tell_ok hC h cs us ws hd).mono (fun T' _ hq => ⟨fun _ _ => hq, fun k => absurd (h2.symm.trans k) (by decide), fun k => absurd (h2.symm.trans k) (by decide)⟩)
  rw [if_neg (by simp [h2])]
  by_cases h3 : c.Kind = 3
  · have hB : f.Role = c.B := by simpa [rolesOf, h3] using hr
    rw [if_pos (by simp [h3])]
    refine (all_ok hC hR h cs us ws ⟨f.Who, c.Word2⟩ c.Head (fun w hw => .lnk c f.Who w hc h3 (by rw [← hB]; exact h.der f hf) (h.der _ hw))).mono (fun T' _ hq => ⟨fun k => absurd k h2, fun _ _ w hw => hq w hw, fun k => absurd (h3.symm.trans k) (by decide)⟩)
  rw [if_neg (by simp [h3])]
  by_cases h4 : c.Kind = 4
  · rw [if_pos (by simp [h4])]
    simp only [Option.bind_some]
    by_cases hb : (⟨c.B, f.Who⟩ : Fact) ∈ FS T ∧ (⟨c.C, f.Who⟩ : Fact) ∈ FS T
    · rw [if_pos (by rw [Bool.and_eq_true, hasB_names h.keys, hasB_names h.keys]; exact hb)]
      have hd : Der C ⟨c.Head, f.Who⟩ := .both c f.Who hc h4 (h.der _ hb.1) (h.der _ hb.2)
      exact (tell_ok hC h cs us ws hd).mono (fun T' _ hq => ⟨fun k => absurd k h2, fun k => absurd k h3, fun _ _ _ => hq⟩)
    · rw [if_neg (by rw [Bool.and_eq_true, hasB_names h.keys, hasB_names h.keys]; exact hb)]
      exact ⟨T, td, n, rfl, h, Ext.refl _ _, fun k => absurd k h2, fun k => absurd k h3, fun _ x y => absurd ⟨x, y⟩ hb⟩
  · rw [if_neg (by simp [h4])]
    exact ⟨T, td, n, rfl, h, Ext.refl _ _, fun k => absurd k h2, fun k => absurd k h3, fun k => absurd k h4⟩
theorem begin_L1 {C : List Cred} (hC : SMALL C) (hR : Rights C) (cs : List Cred) (us : List (Role × List Cred)) (ws : List (ByteArray × List Cred)) {c : Cred} (hc : c ∈ C) (hr : c.B ∈ rolesOf c) : ∀ (l : List ByteArray) {T : Tab} {td : List Fact} {n : Int}, Good C T td n → (∀ w ∈ l, (⟨c.B, w⟩ : Fact) ∈ FS T) →
    Goes C T td (m_model_Model_begin_w_L1 cs us ws c l (mm T) td n) (fun T' => ∀ w ∈ l, Done c ⟨c.B, w⟩ T T')
  | [], T, td, n, h, _ => ⟨T, td, n, rfl, h, Ext.refl _ _, fun _ hw => by cases hw⟩
  | w :: l, T, td, n, h, hm => by
    rw [m_model_Model_begin_w_L1]
    obtain ⟨T1, td1, n1, e1, g1, x1, q1⟩ := use_ok hC hR h cs us ws hc (f := ⟨c.B, w⟩) (hm w (by simp)) hr
    rw [e1]
    simp only [Option.bind_some]
    obtain ⟨T2, td2, n2, e2, g2, x2, q2⟩ := begin_L1 hC hR cs us ws hc hr l g1 (fun w hw => x1.old _ (hm w (by simp [hw])))
    refine ⟨T2, td2, n2, e2, g2, x1.trans x2, fun v hv => ?_⟩
    rcases List.mem_cons.1 hv with rfl | hv
    · exact q1.mono (fun _ h => h) x2.old
    · exact (q2 v hv).mono x1.old (fun _ h => h)
def ClC (c : Cred) (T : Tab) (td : List Fact) : Prop :=
  (c.Kind = 1 → (⟨c.Head, c.Who⟩ : Fact) ∈ FS T) ∧
  (c.Kind = 2 → ∀ w, (⟨c.B, w⟩ : Fact) ∈ FS T → (⟨c.B, w⟩ : Fact) ∉ td → (⟨c.Head, w⟩ : Fact) ∈ FS T) ∧
  (c.Kind = 3 → ∀ b w, (⟨c.B, b⟩ : Fact) ∈ FS T → (⟨c.B, b⟩ : Fact) ∉ td → (⟨⟨b, c.Word2⟩, w⟩ : Fact) ∈ FS T → (⟨⟨b, c.Word2⟩, w⟩ : Fact) ∉ td → (⟨c.Head, w⟩ : Fact) ∈ FS T) ∧
  (c.Kind = 4 → ∀ w, (⟨c.B, w⟩ : Fact) ∈ FS T → (⟨c.B, w⟩ : Fact) ∉ td → (⟨c.C, w⟩ : Fact) ∈ FS T → (⟨c.C, w⟩ : Fact) ∉ td → (⟨c.Head, w⟩ : Fact) ∈ FS T)
theorem ClC.ext {c : Cred} {T T' : Tab} {td td' : List Fact} (h : ClC c T td) (x : Ext T td T' td') : ClC c T' td' := by
  have old : ∀ f, f ∈ FS T' → f ∉ td' → f ∈ FS T ∧ f ∉ td := fun f hf hn => by
    rcases x.new f hf with h1 | h1
    · exact ⟨h1, fun h2 => hn (x.todo f h2)⟩
    · exact absurd h1 hn
  refine ⟨fun k => x.old _ (h.1 k), fun k w a b => ?_, fun k b w a1 a2 a3 a4 => ?_, fun k w a1 a2 a3 a4 => ?_⟩
  · exact x.old _ (h.2.1 k w (old _ a b).1 (old _ a b).2)
  · exact x.old _ (h.2.2.1 k b w (old _ a1 a2).1 (old _ a1 a2).2 (old _ a3 a4).1 (old _ a3 a4).2)
  · exact x.old _ (h.2.2.2 k w (old _ a1 a2).1 (old _ a1 a2).2 (old _ a3 a4).1 (old _ a3 a4).2)
theorem begin_ok {C : List Cred} (hC : SMALL C) (hR : Rights C) {T : Tab} {td : List Fact} {n : Int} (h : Good C T td n) (cs : List Cred) (us : List (Role × List Cred)) (ws : List (ByteArray × List Cred)) {c : Cred} (hc : c ∈ C) :
    ∃ T' td' n', m_model_Model_begin_w (mm T) cs us ws td n c = some (mm T', td', n') ∧ Good C T' td' n' ∧ Ext T td T' td' ∧ ClC c T' td' := by
  unfold m_model_Model_begin_w
  simp only [bind3]
  by_cases h1 : c.Kind = 1
  · rw [if_pos (by simp [h1])]
    obtain ⟨T', td', n', e, g, x, q⟩ := tell_ok hC h cs us ws (Der.mem c hc h1)
    exact ⟨T', td', n', e, g, x, fun _ => q, fun k => absurd (h1.symm.trans k) (by decide), fun k => absurd (h1.symm.trans k) (by decide), fun k => absurd (h1.symm.trans k) (by decide)⟩
  · rw [if_neg (by simp [h1]), members_ok hC hR h]
    simp only [Option.bind_some]
    have hr : c.B ∈ rolesOf c := by unfold rolesOf; rw [if_neg h1]; split <;> simp
    obtain ⟨T', td', n', e, g, x, q⟩ := begin_L1 hC hR cs us ws hc hr (sortedS (namesOf T c.B)) h (fun w hw => (mem_FS h.keys ⟨c.B, w⟩).2 ((mem_sortedS _ _).1 hw))
    have old : ∀ f, f ∈ FS T' → f ∉ td' → f ∈ FS T := fun f hf hn => by
      rcases x.new f hf with h1 | h1
      · exact h1
      · exact absurd h1 hn
    have qq : ∀ w, (⟨c.B, w⟩ : Fact) ∈ FS T → Done c ⟨c.B, w⟩ T T' := fun w hw => q w ((mem_sortedS _ _).2 ((mem_FS h.keys ⟨c.B, w⟩).1 hw))
    refine ⟨T', td', n', e, g, x, fun k => absurd k h1, fun k w a b => ?_, fun k b w a1 a2 a3 a4 => ?_, fun k w a1 a2 a3 a4 => ?_⟩
    · exact (qq w (old _ a b)).1 k rfl
    · exact (qq b (old _ a1 a2)).2.1 k rfl w (old _ a3 a4)
    · exact (qq w (old _ a1 a2)).2.2 k (old _ a1 a2) (old _ a3 a4)
structure Uses (C : List Cred) (us : List (Role × List Cred)) (ws : List (ByteArray × List Cred)) : Prop where
  role : ∀ r c, c ∈ (mget beqRole us r).getD [] ↔ c ∈ C ∧ r ∈ rolesOf c
  word : ∀ w c, c ∈ (mget beqS ws w).getD [] ↔ c ∈ C ∧ c.Kind = 3 ∧ c.Word2 = w
  rlen : ∀ r, ((mget beqRole us r).getD []).length ≤ 2 * C.length
  wlen : ∀ w, ((mget beqS ws w).getD []).length ≤ C.length
theorem settle_L3 {C : List Cred} (hC : SMALL C) (hR : Rights C) (cs : List Cred) (us : List (Role × List Cred)) (ws : List (ByteArray × List Cred)) {f : Fact} : ∀ (l : List Cred) {T : Tab} {td : List Fact} {n : Int}, Good C T td n → f ∈ FS T → (∀ c ∈ l, c ∈ C ∧ f.Role ∈ rolesOf c) →
    Goes C T td (m_model_Model_settle_w_L3 cs us ws f l (mm T) td n) (fun T' => ∀ c ∈ l, Done c f T T')
  | [], T, td, n, h, _, _ => ⟨T, td, n, rfl, h, Ext.refl _ _, fun _ hw => by cases hw⟩
  | c :: l, T, td, n, h, hf, hm => by
    rw [m_model_Model_settle_w_L3]
    obtain ⟨T1, td1, n1, e1, g1, x1, q1⟩ := use_ok hC hR h cs us ws (hm c (by simp)).1 hf (hm c (by simp)).2
    rw [e1]
    simp only [Option.bind_some]
    obtain ⟨T2, td2, n2, e2, g2, x2, q2⟩ := settle_L3 hC hR cs us ws l g1 (x1.old _ hf) (fun c hc => hm c (by simp [hc]))
    refine ⟨T2, td2, n2, e2, g2, x1.trans x2, fun v hv => ?_⟩
    rcases List.mem_cons.1 hv with rfl | hv
    · exact q1.mono (fun _ h => h) x2.old
    · exact (q2 v hv).mono x1.old (fun _ h => h)
theorem settle_L2 {C : List Cred} (hC : SMALL C) (hR : Rights C) (cs : List Cred) (us : List (Role × List Cred)) (ws : List (ByteArray × List Cred)) {f : Fact} : ∀ (l : List Cred) {T : Tab} {td : List Fact} {n : Int}, Good C T td n → f ∈ FS T → (∀ c ∈ l, c ∈ C ∧ c.Kind = 3 ∧ c.Word2 = f.Role.Word) →
    Goes C T td (m_model_Model_settle_w_L2 f cs us ws l (mm T) td n) (fun T' => ∀ c ∈ l, (⟨c.B, f.Role.Owner⟩ : Fact) ∈ FS T → (⟨c.Head, f.Who⟩ : Fact) ∈ FS T')
  | [], T, td, n, h, _, _ => ⟨T, td, n, rfl, h, Ext.refl _ _, fun _ hw => by cases hw⟩
  | c :: l, T, td, n, h, hf, hm => by
    rw [m_model_Model_settle_w_L2]
    have hk := hm c (by simp)
    by_cases hb : (⟨c.B, f.Role.Owner⟩ : Fact) ∈ FS T
    · rw [if_pos ((hasB_names h.keys _ _).2 hb)]
      have hfe : f = ⟨⟨f.Role.Owner, c.Word2⟩, f.Who⟩ := by rw [hk.2.2]
      have hd : Der C ⟨c.Head, f.Who⟩ := .lnk c f.Role.Owner f.Who hk.1 hk.2.1 (h.der _ hb) (by rw [← hfe]; exact h.der f hf)
      obtain ⟨T1, td1, n1, e1, g1, x1, q1⟩ := tell_ok hC h cs us ws hd
      rw [e1]
      simp only [Option.bind_some]
      obtain ⟨T2, td2, n2, e2, g2, x2, q2⟩ := settle_L2 hC hR cs us ws l g1 (x1.old _ hf) (fun c hc => hm c (by simp [hc]))
      refine ⟨T2, td2, n2, e2, g2, x1.trans x2, fun v hv hv2 => ?_⟩
      rcases List.mem_cons.1 hv with rfl | hv
      · exact x2.old _ q1
      · exact q2 v hv (x1.old _ hv2)
    · rw [if_neg (fun hh => hb ((hasB_names h.keys _ _).1 hh))]
      obtain ⟨T2, td2, n2, e2, g2, x2, q2⟩ := settle_L2 hC hR cs us ws l h hf (fun c hc => hm c (by simp [hc]))
      refine ⟨T2, td2, n2, e2, g2, x2, fun v hv hv2 => ?_⟩
      rcases List.mem_cons.1 hv with rfl | hv
      · exact absurd hv2 hb
      · exact q2 v hv hv2
theorem settle_L1 {C : List Cred} (hC : SMALL C) (hR : Rights C) {cs : List Cred} {us : List (Role × List Cred)} {ws : List (ByteArray × List Cred)} (hU : Uses C us ws) : ∀ (m : Nat) {T : Tab} {td : List Fact} {n : Int}, Good C T td n → (∀ c ∈ C, ClC c T td) → C.length * C.length + td.length < m + (FS T).length →
    ∃ T' n', m_model_Model_settle_w_L1 cs us ws m (mm T) td n = some (mm T', [], n') ∧ Good C T' [] n' ∧ (∀ c ∈ C, ClC c T' []) ∧ (∀ f ∈ FS T, f ∈ FS T')
  | 0, T, td, n, h, _, hm => by have := h.len; omega
  | m + 1, T, [], n, h, hcl, hm => by
    rw [m_model_Model_settle_w_L1]
    exact ⟨T, n, rfl, h, hcl, fun _ h => h⟩
  | m + 1, T, f :: td, n, h, hcl, hm => by
    rw [m_model_Model_settle_w_L1]
    rw [if_pos (by simp)]
    have hf : f ∈ FS T := h.sub f (by simp)
    have hn := (List.nodup_cons.1 h.tnd)
    simp only [idx, Int.le_refl, if_true, Int.toNat_zero, List.getElem?_cons_zero, Option.bind_some]
    rw [show chk (decide ((0 : Nat) ≤ 1) && decide ((1 : Int) ≤ ((f :: td).length : Int))) = some () by simp [chk]; omega]
    simp only [Option.bind_some, show Int.toNat 1 = 1 from rfl, List.drop_one, List.tail_cons]
    have h0 : Good C T td n := ⟨h.keys, h.nd, hn.2, fun g hg => h.sub g (by simp [hg]), h.num, h.der⟩
    obtain ⟨T1, td1, n1, e1, g1, x1, q1⟩ := settle_L3 hC hR cs us ws ((mget beqRole us f.Role).getD []) h0 hf (fun c hc => (hU.role _ c).1 hc)
    rw [e1]
    simp only [Option.bind_some]
    obtain ⟨T2, td2, n2, e2, g2, x2, q2⟩ := settle_L2 hC hR cs us ws ((mget beqS ws f.Role.Word).getD []) g1 (x1.old _ hf) (fun c hc => (hU.word _ c).1 hc)
    rw [e2]
    simp only [Option.bind_some]
    have x := x1.trans x2
    have old : ∀ g, g ∈ FS T2 → g ∉ td2 → g ∈ FS T ∧ (g = f ∨ g ∉ f :: td) := fun g hg hg2 => by
      rcases x.new g hg with h1 | h1
      · refine ⟨h1, ?_⟩
        by_cases he : g = f
        · exact .inl he
        · exact .inr (fun h2 => by
            rcases List.mem_cons.1 h2 with h2 | h2
            · exact he h2
            · exact hg2 (x.todo g h2))
      · exact absurd h1 hg2
    have d1 : ∀ c ∈ C, f.Role ∈ rolesOf c → Done c f T T2 := fun c hc hr => (q1 c ((hU.role _ c).2 ⟨hc, hr⟩)).mono (fun _ h => h) x2.old
    have hcl2 : ∀ c ∈ C, ClC c T2 td2 := fun c hc => by
      have k := hcl c hc
      refine ⟨fun hk => x.old _ (k.1 hk), fun hk w a b => ?_, fun hk b w a1 a2 a3 a4 => ?_, fun hk w a1 a2 a3 a4 => ?_⟩
      · obtain ⟨o1, o2⟩ := old _ a b
        rcases o2 with o2 | o2
        · subst o2; exact (d1 c hc (by simp [rolesOf, hk])).1 hk rfl
        · exact x.old _ (k.2.1 hk w o1 o2)
      · obtain ⟨o1, o2⟩ := old _ a1 a2
        obtain ⟨p1, p2⟩ := old _ a3 a4
        rcases o2 with o2 | o2
        · subst o2; exact (d1 c hc (by simp [rolesOf, hk])).2.1 hk rfl w p1
        · rcases p2 with p2 | p2
          · subst p2
            exact q2 c ((hU.word _ c).2 ⟨hc, hk, rfl⟩) (x1.old _ o1)
          · exact x.old _ (k.2.2.1 hk b w o1 o2 p1 p2)
      · obtain ⟨o1, o2⟩ := old _ a1 a2
        obtain ⟨p1, p2⟩ := old _ a3 a4
        rcases o2 with o2 | o2
        · subst o2; exact (d1 c hc (by simp [rolesOf, hk])).2.2 hk o1 p1
        · rcases p2 with p2 | p2
          · subst p2; exact (d1 c hc (by simp [rolesOf, hk])).2.2 hk o1 p1
          · exact x.old _ (k.2.2.2 hk w o1 o2 p1 p2)
    have hlen : td2.length + (FS T).length ≤ td.length + (FS T2).length := by
      exact g2.cnt h0 x
    obtain ⟨T3, n3, e3, g3, c3, o3⟩ := settle_L1 hC hR hU m g2 hcl2 (by simp only [List.length_cons] at hm; omega)
    exact ⟨T3, n3, e3, g3, c3, fun g hg => o3 g (x.old g hg)⟩
end Go.Proofs.Ytfjdjbdnnoijgaa
