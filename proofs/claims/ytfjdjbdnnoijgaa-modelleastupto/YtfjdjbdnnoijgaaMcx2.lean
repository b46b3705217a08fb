/- a part of a proof of ModelLeast -/
import Derived.Test.YtfjdjbdnnoijgaaMbx2
set_option linter.all false
namespace Go.Proofs.Ytfjdjbdnnoijgaa
open Go.RowKit
theorem appB_ok {α : Type} {b : Nat} {l m : List α} (h : (l.length + m.length) * b ≤ 140737488355328) (h2 : l.length + m.length ≤ 9223372036854775807) : appB b l m = some (l ++ m) := by
  unfold appB; rw [if_pos ⟨h, by unfold maxLen; omega⟩]
def textI (s : ByteArray) : List Int := (s.size : Int) :: bytesI s
def roleI (r : Role) : List Int := textI r.Owner ++ textI r.Word
def bodyI (c : Cred) : List Int := if c.Kind = 1 then textI c.Who else if c.Kind = 2 then roleI c.B else if c.Kind = 3 then roleI c.B ++ textI c.Word2 else roleI c.B ++ roleI c.C
def credI (c : Cred) : List Int := c.Kind :: (roleI c.Head ++ bodyI c)
theorem textI_length (s : ByteArray) : (textI s).length = s.size + 1 := by simp [textI, bytesI_length]
theorem roleI_length {r : Role} (h : rightR r = true) : (roleI r).length ≤ 34 := by
  simp only [rightR, Bool.and_eq_true] at h
  have h1 := rightN_size h.1
  have h2 := rightN_size h.2
  simp [roleI, textI_length]; omega
theorem rightC_head {c : Cred} (h : rightC c = true) : rightR c.Head = true := by
  simp only [rightC, Bool.and_eq_true] at h; exact h.1
theorem rightC_cases {c : Cred} (h : rightC c = true) :
    (c.Kind = 1 ∧ rightN c.Who = true ∧ c.B = zR ∧ c.C = zR ∧ c.Word2 = zS) ∨
    (c.Kind = 2 ∧ rightR c.B = true ∧ c.Who = zS ∧ c.C = zR ∧ c.Word2 = zS) ∨
    (c.Kind = 3 ∧ rightR c.B = true ∧ rightN c.Word2 = true ∧ c.B.Owner = c.Head.Owner ∧ c.Who = zS ∧ c.C = zR) ∨
    (c.Kind = 4 ∧ rightR c.B = true ∧ rightR c.C = true ∧ ltR c.B c.C = true ∧ c.Who = zS ∧ c.Word2 = zS) := by
  simp only [rightC, Bool.and_eq_true] at h
  obtain ⟨_, h⟩ := h
  split at h
  · rename_i h1
    simp only [Bool.and_eq_true, beqRole_iff, beqS_iff] at h
    exact .inl ⟨by simpa using h1, h.1.1.1, h.1.1.2.symm, h.1.2.symm, h.2.symm⟩
  · split at h
    · rename_i h1
      simp only [Bool.and_eq_true, beqRole_iff, beqS_iff] at h
      exact .inr (.inl ⟨by simpa using h1, h.1.1.1, h.1.1.2.symm, h.1.2.symm, h.2.symm⟩)
    · split at h
      · rename_i h1
        simp only [Bool.and_eq_true, beqRole_iff, beqS_iff] at h
        exact .inr (.inr (.inl ⟨by simpa using h1, h.1.1.1.1, h.1.1.2, h.1.1.1.2, h.1.2.symm, h.2.symm⟩))
      · split at h
        · rename_i h1
          simp only [Bool.and_eq_true, beqRole_iff, beqS_iff] at h
          exact .inr (.inr (.inr ⟨by simpa using h1, h.1.1.1.1, h.1.1.1.2, h.1.1.2, h.1.2.symm, h.2.symm⟩))
        · cases h
def toS (l : List Int) : ByteArray := ⟨(u8s l).toArray⟩
theorem toS_list (l : List Int) : (toS l).data.toList = u8s l := rfl
theorem strI_foldl : ∀ (l : List Int) (r : ByteArray), (l.foldl (fun r n => r.push (UInt8.ofNat n.toNat)) r).data.toList = r.data.toList ++ u8s l
  | [], r => by simp [u8s]
  | x :: l, r => by
    rw [List.foldl_cons, strI_foldl l]
    show ((r.data.push _).toList) ++ _ = _
    simp [u8s]
theorem strI_eq (l : List Int) : strI l = toS l := ba_ext (by unfold strI; rw [strI_foldl]; rfl)
theorem toS_size (l : List Int) : (toS l).size = l.length := by rw [size_list, toS_list]; simp [u8s]
theorem u8s_append (a b : List Int) : u8s (a ++ b) = u8s a ++ u8s b := by simp [u8s]
theorem catS_ok (a b : List Int) (h : a.length + b.length ≤ 1000000) : catS (toS a) (toS b) = some (toS (a ++ b)) := by
  unfold catS
  rw [if_neg]
  · congr 1
    refine ba_ext ?_
    rw [toS_list, u8s_append, ← toS_list a, ← toS_list b]
    exact ByteArray.toList_data_append ▸ rfl
  · rw [toS_size, toS_size]
    show ¬ (_ > (9223372036854775807 : Int))
    omega
theorem toS_bytesI (s : ByteArray) : toS (bytesI s) = s := ba_ext (by rw [toS_list]; simp [u8s, bytesI, Function.comp_def])
theorem refNumber {n : Int} (h0 : 0 ≤ n) (h1 : n < 128) : m_ref01_Number n = some (toS [n]) := by
  have hw : IntKind.u8.wrap n = n := by
    obtain ⟨k, rfl⟩ : ∃ k : Nat, n = k := ⟨n.toNat, by omega⟩
    have : ∀ k : Nat, k < 128 → IntKind.u8.wrap (k : Int) = (k : Int) := by decide +kernel
    exact this k (by omega)
  unfold m_ref01_Number
  rw [fuel_big, m_ref01_Number_L1, if_neg (by simp; omega), hw, strI_eq, show zS = toS [] from rfl, catS_ok _ _ (by simp)]
  rfl
theorem refText {s : ByteArray} (h : rightN s = true) : m_ref01_Text s = some (toS (textI s)) := by
  have h1 := rightN_size h
  unfold m_ref01_Text
  rw [refNumber (by omega) (by omega)]
  simp only [Option.bind_some]
  have := catS_ok [(s.size : Int)] (bytesI s) (by rw [bytesI_length]; simp; omega)
  rw [toS_bytesI] at this
  rw [this]
  simp [textI]
theorem refRole {r : Role} (h : rightR r = true) : m_ref04_Bytes r = some (toS (roleI r)) := by
  simp only [rightR, Bool.and_eq_true] at h
  have h1 := rightN_size h.1
  have h2 := rightN_size h.2
  unfold m_ref04_Bytes
  rw [refText h.1, refText h.2]
  simp only [Option.bind_some]
  rw [catS_ok _ _ (by simp [textI_length]; omega)]
  rfl
theorem m_ref05_bytes_eq (c : Cred) : m_ref05_bytes c = some (toS (if rightC c then credI c else [])) := by
  unfold m_ref05_bytes
  rw [m_ref05_Right_eq]
  simp only [Option.bind_some]
  cases h : rightC c with
  | false => rfl
  | true =>
    have hh := rightC_head h
    have hl := roleI_length hh
    simp only [Bool.not_true, Bool.false_eq_true, if_false, if_true]
    have hk : 0 ≤ c.Kind ∧ c.Kind < 128 := by rcases rightC_cases h with h | h | h | h <;> omega
    unfold m_ref05_Bytes
    rw [refNumber hk.1 hk.2, refRole hh]
    simp only [Option.bind_some]
    rw [catS_ok _ _ (by simp; omega)]
    simp only [Option.bind_some]
    rcases rightC_cases h with ⟨k, h1, _⟩ | ⟨k, h1, _⟩ | ⟨k, h1, h2, _⟩ | ⟨k, h1, h2, _⟩
    · have hs := rightN_size h1
      simp only [k, beq_self_eq_true, if_true, refText h1, Option.bind_some]
      rw [catS_ok _ _ (by simp [textI_length]; omega)]
      simp [credI, bodyI, k]
    · have hs := roleI_length h1
      simp only [k, show ((2 : Int) == 1) = false from rfl, show ((2 : Int) == 3) = false from rfl, show ((2 : Int) == 4) = false from rfl, Bool.false_eq_true, if_false, refRole h1, Option.bind_some]
      rw [catS_ok _ _ (by simp; omega)]
      simp [credI, bodyI, k]
    · have hs := roleI_length h1
      have hs2 := rightN_size h2
      simp only [k, show ((3 : Int) == 1) = false from rfl, show ((3 : Int) == 4) = false from rfl, Bool.false_eq_true, beq_self_eq_true, if_true, if_false, refRole h1, Option.bind_some]
      rw [catS_ok _ _ (by simp; omega)]
      simp only [Option.bind_some, refText h2]
      rw [catS_ok _ _ (by simp [textI_length]; omega)]
      simp [credI, bodyI, k]
    · have hs := roleI_length h1
      have hs2 := roleI_length h2
      simp only [k, show ((4 : Int) == 1) = false from rfl, show ((4 : Int) == 3) = false from rfl, Bool.false_eq_true, beq_self_eq_true, if_true, if_false, refRole h1, Option.bind_some]
      rw [catS_ok _ _ (by simp; omega)]
      simp only [Option.bind_some, refRole h2]
      rw [catS_ok _ _ (by simp; omega)]
      simp [credI, bodyI, k]
def keyC (c : Cred) : List UInt8 := u8s (if rightC c then credI c else [])
def ltC (a b : Cred) : Bool := Op.bytesLess (keyC a) (keyC b)
theorem m_ref05_Compare_eq (a b : Cred) : ∃ c, m_ref05_Compare a b = some c ∧ (c < 0 ↔ ltC a b = true) := by
  unfold m_ref05_Compare
  rw [m_ref05_bytes_eq, m_ref05_bytes_eq]
  simp only [Option.bind_some]
  have h : ltS (toS (if rightC a then credI a else [])) (toS (if rightC b then credI b else [])) = ltC a b := by rw [ltS_def]; rfl
  rw [h]
  cases ltC a b with
  | true => exact ⟨_, rfl, by decide⟩
  | false =>
    simp only [Bool.false_eq_true, if_false, Bool.false_or]
    cases hq : beqS (toS (if rightC a then credI a else [])) (toS (if rightC b then credI b else [])) with
    | true => exact ⟨0, by simp, by decide⟩
    | false => exact ⟨1, by simp, by decide⟩
theorem u8_inj {a b : Int} (ha : 0 ≤ a ∧ a < 256) (hb : 0 ≤ b ∧ b < 256) (h : a.toNat.toUInt8 = b.toNat.toUInt8) : a = b := by
  have := congrArg UInt8.toNat h
  simp only [UInt8.toNat_ofNat', Nat.toUInt8] at this
  simp at this
  omega
theorem u8s_inj : ∀ {a b : List Int}, (∀ x ∈ a, 0 ≤ x ∧ x < 256) → (∀ x ∈ b, 0 ≤ x ∧ x < 256) → u8s a = u8s b → a = b
  | [], [], _, _, _ => rfl
  | [], _ :: _, _, _, h => by simp [u8s] at h
  | _ :: _, [], _, _, h => by simp [u8s] at h
  | x :: a, y :: b, ha, hb, h => by
    simp only [u8s, List.map_cons, List.cons.injEq] at h
    rw [u8_inj (ha x (by simp)) (hb y (by simp)) h.1, u8s_inj (fun z hz => ha z (by simp [hz])) (fun z hz => hb z (by simp [hz])) h.2]
theorem textI_range {s : ByteArray} (h : rightN s = true) : ∀ x ∈ textI s, 0 ≤ x ∧ x < 256 := by
  have h1 := rightN_size h
  intro x hx
  rcases List.mem_cons.1 hx with rfl | hx
  · omega
  · simp only [bytesI, List.mem_map] at hx
    obtain ⟨b, _, rfl⟩ := hx
    have := UInt8.toNat_lt b
    omega
theorem roleI_range {r : Role} (h : rightR r = true) : ∀ x ∈ roleI r, 0 ≤ x ∧ x < 256 := by
  simp only [rightR, Bool.and_eq_true] at h
  intro x hx
  rcases List.mem_append.1 hx with hx | hx
  · exact textI_range h.1 x hx
  · exact textI_range h.2 x hx
theorem credI_range {c : Cred} (h : rightC c = true) : ∀ x ∈ credI c, 0 ≤ x ∧ x < 256 := by
  intro x hx
  rcases List.mem_cons.1 hx with rfl | hx
  · rcases rightC_cases h with h | h | h | h <;> omega
  · rcases List.mem_append.1 hx with hx | hx
    · exact roleI_range (rightC_head h) x hx
    · unfold bodyI at hx
      rcases rightC_cases h with ⟨k, h1, _⟩ | ⟨k, h1, _⟩ | ⟨k, h1, h2, _⟩ | ⟨k, h1, h2, _⟩
      · rw [if_pos k] at hx; exact textI_range h1 x hx
      · rw [if_neg (by omega), if_pos k] at hx; exact roleI_range h1 x hx
      · rw [if_neg (by omega), if_neg (by omega), if_pos k] at hx
        rcases List.mem_append.1 hx with hx | hx
        · exact roleI_range h1 x hx
        · exact textI_range h2 x hx
      · rw [if_neg (by omega), if_neg (by omega), if_neg (by omega)] at hx
        rcases List.mem_append.1 hx with hx | hx
        · exact roleI_range h1 x hx
        · exact roleI_range h2 x hx
theorem bytesI_inj {s t : ByteArray} (h : bytesI s = bytesI t) : s = t := by rw [← toS_bytesI s, h, toS_bytesI]
theorem textI_cut {s t : ByteArray} {X Y : List Int} (h : textI s ++ X = textI t ++ Y) : s = t ∧ X = Y := by
  simp only [textI, List.cons_append, List.cons.injEq] at h
  obtain ⟨h1, h2⟩ := h
  have hl : (bytesI s).length = (bytesI t).length := by rw [bytesI_length, bytesI_length]; omega
  have := List.append_inj h2 hl
  exact ⟨bytesI_inj this.1, this.2⟩
theorem roleI_cut {a b : Role} {X Y : List Int} (h : roleI a ++ X = roleI b ++ Y) : a = b ∧ X = Y := by
  simp only [roleI, List.append_assoc] at h
  obtain ⟨h1, h2⟩ := textI_cut h
  obtain ⟨h3, h4⟩ := textI_cut h2
  exact ⟨by cases a; cases b; simp at h1 h3; simp [h1, h3], h4⟩
theorem credI_inj {a b : Cred} (ha : rightC a = true) (hb : rightC b = true) (h : credI a = credI b) : a = b := by
  simp only [credI, List.cons.injEq] at h
  obtain ⟨hk, hq⟩ := h
  obtain ⟨hh, h⟩ := roleI_cut hq
  clear hq
  have e0 : ∀ {X Y : List Int}, X = Y → X ++ [] = Y ++ [] := fun h => by rw [h]
  unfold bodyI at h
  obtain ⟨ka, ha1, wa, ba, ca, wa2⟩ := a
  obtain ⟨kb, hb1, wb, bb, cb, wb2⟩ := b
  simp only at hk hh h
  subst hk hh
  rcases rightC_cases ha with ⟨k, h1, h2, h3, h4⟩ | ⟨k, h1, h2, h3, h4⟩ | ⟨k, h1, h2, h3, h4, h5⟩ | ⟨k, h1, h2, h3, h4, h5⟩ <;>
  rcases rightC_cases hb with ⟨k', g1, g2, g3, g4⟩ | ⟨k', g1, g2, g3, g4⟩ | ⟨k', g1, g2, g3, g4, g5⟩ | ⟨k', g1, g2, g3, g4, g5⟩ <;> simp only at k k' h2 h3 h4 g2 g3 g4 <;> (try omega)
  · rw [if_pos k, if_pos k] at h
    simp [textI_cut (e0 h), h2, h3, h4, g2, g3, g4]
  · rw [if_neg (by omega), if_pos k, if_neg (by omega), if_pos k] at h
    simp [roleI_cut (e0 h), h2, h3, h4, g2, g3, g4]
  · rw [if_neg (by omega), if_neg (by omega), if_pos k, if_neg (by omega), if_neg (by omega), if_pos k] at h
    obtain ⟨q1, q2⟩ := roleI_cut h
    simp only at h5 g5
    simp [q1, textI_cut (e0 q2), h4, h5, g4, g5]
  · rw [if_neg (by omega), if_neg (by omega), if_neg (by omega), if_neg (by omega), if_neg (by omega), if_neg (by omega)] at h
    obtain ⟨q1, q2⟩ := roleI_cut h
    simp only at h5 g5
    simp [q1, roleI_cut (e0 q2), h4, h5, g4, g5]
theorem ltOnC : LtOn (fun a b => ltC a b = true) (fun c => rightC c = true) := by
  refine ⟨fun x _ h => ?_, fun x y z _ _ _ h1 h2 => bl_trans _ _ _ h1 h2, fun x y hx hy => ?_⟩
  · unfold ltC at h; rw [bl_irrefl] at h; cases h
  · rcases bl_total (keyC x) (keyC y) with h | h | h
    · exact .inl h
    · refine .inr (.inl (credI_inj hx hy ?_))
      unfold keyC at h
      rw [if_pos hx, if_pos hy] at h
      exact u8s_inj (credI_range hx) (credI_range hy) h
    · exact .inr (.inr h)
end Go.Proofs.Ytfjdjbdnnoijgaa
