/- a part of a proof of ModelLeast -/
import Derived.Test.YtfjdjbdnnoijgaaMax2
import Derived.Test.YtfjdjbdnnoijgaaGC4Mx2
set_option linter.all false
namespace Go.Proofs.Ytfjdjbdnnoijgaa
open Go.RowKit
theorem bl_irrefl : ∀ a : List UInt8, Op.bytesLess a a = false
  | [] => rfl
  | x :: a => by simp [Op.bytesLess, bl_irrefl a]
theorem u8_tri (x y : UInt8) : x < y ∨ x = y ∨ y < x := by
  rcases Nat.lt_trichotomy x.toNat y.toNat with h | h | h
  · exact .inl h
  · exact .inr (.inl (UInt8.toNat_inj.1 h))
  · exact .inr (.inr h)
theorem bl_trans : ∀ a b c : List UInt8, Op.bytesLess a b = true → Op.bytesLess b c = true → Op.bytesLess a c = true
  | [], [], c, h1, _ => by simp [Op.bytesLess] at h1
  | _ :: _, [], c, h1, _ => by simp [Op.bytesLess] at h1
  | a, _ :: _, [], _, h2 => by simp [Op.bytesLess] at h2
  | [], b :: bs, c :: cs, _, _ => rfl
  | a :: as, b :: bs, c :: cs, h1, h2 => by
    simp only [Op.bytesLess, Bool.or_eq_true, decide_eq_true_eq, Bool.and_eq_true, beq_iff_eq] at h1 h2 ⊢
    rcases h1 with h1 | ⟨rfl, h1⟩
    · rcases h2 with h2 | ⟨rfl, h2⟩
      · exact .inl (UInt8.lt_trans h1 h2)
      · exact .inl h1
    · rcases h2 with h2 | ⟨rfl, h2⟩
      · exact .inl h2
      · exact .inr ⟨rfl, bl_trans as bs cs h1 h2⟩
theorem bl_total : ∀ a b : List UInt8, Op.bytesLess a b = true ∨ a = b ∨ Op.bytesLess b a = true
  | [], [] => .inr (.inl rfl)
  | [], _ :: _ => .inl rfl
  | _ :: _, [] => .inr (.inr rfl)
  | a :: as, b :: bs => by
    simp only [Op.bytesLess, Bool.or_eq_true, decide_eq_true_eq, Bool.and_eq_true, beq_iff_eq, List.cons.injEq]
    rcases u8_tri a b with h | h | h
    · exact .inl (.inl h)
    · subst h
      rcases bl_total as bs with h | h | h
      · exact .inl (.inr ⟨rfl, h⟩)
      · exact .inr (.inl ⟨rfl, h⟩)
      · exact .inr (.inr (.inr ⟨rfl, h⟩))
    · exact .inr (.inr (.inl h))
theorem cmp_neg : ∀ a b : List UInt8, (Lib.compareBytes a b < 0 ↔ Op.bytesLess a b = true)
  | [], [] => by simp [Lib.compareBytes, Op.bytesLess]
  | [], _ :: _ => by simp [Lib.compareBytes, Op.bytesLess]
  | _ :: _, [] => by simp [Lib.compareBytes, Op.bytesLess]
  | a :: as, b :: bs => by
    simp only [Lib.compareBytes, Op.bytesLess, Bool.or_eq_true, decide_eq_true_eq, Bool.and_eq_true, beq_iff_eq]
    by_cases h : a < b
    · simp [h]
    · by_cases h2 : b < a
      · have : a ≠ b := by rintro rfl; exact h h2
        simp [h, h2, this]
      · have : a = b := by rcases u8_tri a b with h3 | h3 | h3; exact absurd h3 h; exact h3; exact absurd h3 h2
        subst this
        simp [h, cmp_neg as bs]
theorem cmp_zero : ∀ a b : List UInt8, (Lib.compareBytes a b = 0 ↔ a = b)
  | [], [] => by simp [Lib.compareBytes]
  | [], _ :: _ => by simp [Lib.compareBytes]
  | _ :: _, [] => by simp [Lib.compareBytes]
  | a :: as, b :: bs => by
    simp only [Lib.compareBytes, List.cons.injEq]
    by_cases h : a < b
    · simp only [h, if_true]
      constructor
      · intro h; cases h
      · rintro ⟨rfl, _⟩; exact absurd h (by simp)
    · by_cases h2 : b < a
      · simp only [h, h2, if_true, if_false]
        constructor
        · intro h; cases h
        · rintro ⟨rfl, _⟩; exact absurd h2 (by simp)
      · have : a = b := by rcases u8_tri a b with h3 | h3 | h3; exact absurd h3 h; exact h3; exact absurd h3 h2
        subst this
        simp [h, cmp_zero as bs]
theorem ltS_def (a b : ByteArray) : ltS a b = Op.bytesLess a.data.toList b.data.toList := by unfold ltS; rw [ByteArray.toList_eq, ByteArray.toList_eq]
theorem ba_ext {a b : ByteArray} (h : a.data.toList = b.data.toList) : a = b := ByteArray.ext (Array.toList_inj.1 h)
theorem ltS_irrefl (a : ByteArray) : ltS a a = false := by rw [ltS_def, bl_irrefl]
theorem ltS_trans {a b c : ByteArray} (h1 : ltS a b = true) (h2 : ltS b c = true) : ltS a c = true := by rw [ltS_def] at *; exact bl_trans _ _ _ h1 h2
theorem ltS_total (a b : ByteArray) : ltS a b = true ∨ a = b ∨ ltS b a = true := by
  rw [ltS_def, ltS_def]
  rcases bl_total a.data.toList b.data.toList with h | h | h
  · exact .inl h
  · exact .inr (.inl (ba_ext h))
  · exact .inr (.inr h)
theorem ltS_asymm {a b : ByteArray} (h : ltS a b = true) : ltS b a = false := by
  cases h2 : ltS b a with
  | false => rfl
  | true => have := ltS_trans h h2; rw [ltS_irrefl] at this; cases this
theorem ltOnS (P : ByteArray → Prop) : LtOn (fun a b => ltS a b = true) P :=
  ⟨fun x _ h => (by rw [ltS_irrefl] at h; cases h), fun x y z _ _ _ => ltS_trans, fun x y _ _ => ltS_total x y⟩
def isLetter (b : UInt8) : Bool := decide (97 ≤ b.toNat) && decide (b.toNat ≤ 122)
def isSign (b : UInt8) : Bool := isLetter b || (decide (48 ≤ b.toNat) && decide (b.toNat ≤ 57)) || decide (b.toNat = 45)
def rightN (s : ByteArray) : Bool := decide (1 ≤ s.size) && decide (s.size ≤ 16) && (match s.data.toList with | [] => false | b :: _ => isLetter b) && s.data.toList.all isSign
theorem rightN_size {s : ByteArray} (h : rightN s = true) : 1 ≤ s.size ∧ s.size ≤ 16 := by
  simp only [rightN, Bool.and_eq_true, decide_eq_true_eq] at h
  exact h.1.1
theorem letters_ix : ∀ n : Nat, n < 256 → decide (xIndexByte (⟨#[97, 98, 99, 100, 101, 102, 103, 104, 105, 106, 107, 108, 109, 110, 111, 112, 113, 114, 115, 116, 117, 118, 119, 120, 121, 122]⟩ : ByteArray) (n : Int) ≥ 0) = isLetter (UInt8.ofNat n) := by decide +kernel
theorem signs_ix : ∀ n : Nat, n < 256 → decide (xIndexByte (⟨#[97, 98, 99, 100, 101, 102, 103, 104, 105, 106, 107, 108, 109, 110, 111, 112, 113, 114, 115, 116, 117, 118, 119, 120, 121, 122, 48, 49, 50, 51, 52, 53, 54, 55, 56, 57, 45]⟩ : ByteArray) (n : Int) < 0) = !isSign (UInt8.ofNat n) := by decide +kernel
theorem size_list (s : ByteArray) : s.size = s.data.toList.length := by rw [Array.length_toList]; rfl
theorem bytesB_some {s : ByteArray} (h : s.size ≤ 16) : bytesB s = some (bytesI s) := by
  unfold bytesB; rw [if_pos (by unfold maxLen; omega)]
theorem only_run : ∀ l : List UInt8, m_name_only_L1 (l.map fun b => (b.toNat : Int)) = some (l.all isSign)
  | [] => rfl
  | b :: l => by
    rw [List.map_cons, m_name_only_L1]
    simp only [m_strings_IndexByte, m_internal_stringslite_IndexByte, Option.bind_some]
    have hb := signs_ix b.toNat (UInt8.toNat_lt b)
    rw [hb]
    simp only [UInt8.ofNat_toNat, List.all_cons]
    cases isSign b with
    | true => simp [only_run l]
    | false => simp
theorem idxS_head {s : ByteArray} {b : UInt8} {l : List UInt8} (h : s.data.toList = b :: l) : idxS s 0 = some b := by
  unfold idxS
  rw [if_pos (Int.le_refl 0)]
  have h0 : s.data[0]? = some b := by rw [← Array.getElem?_toList, h]; rfl
  show s[0]? = some b
  rw [← h0]
  rfl
theorem m_name_Right_eq (s : ByteArray) : m_name_Right s = some (rightN s) := by
  unfold m_name_Right
  simp only [andS, Option.bind_some, bindS]
  by_cases h1 : 1 ≤ s.size
  · by_cases h2 : s.size ≤ 16
    · rw [if_pos (by simp; omega)]
      obtain ⟨b, l, hl⟩ : ∃ b l, s.data.toList = b :: l := by
        cases h : s.data.toList with
        | nil => rw [size_list, h] at h1; simp at h1
        | cons b l => exact ⟨b, l, rfl⟩
      rw [idxS_head hl]
      simp only [Option.bind_some, m_strings_IndexByte, m_internal_stringslite_IndexByte]
      rw [letters_ix b.toNat (UInt8.toNat_lt b)]
      simp only [UInt8.ofNat_toNat, rightN, h1, h2, hl, decide_true, Bool.true_and]
      cases isLetter b with
      | false => simp
      | true =>
        simp only [if_true, m_name_only, bytesB_some h2, Option.bind_some, bytesI]
        rw [only_run, hl]
        simp
    · rw [if_neg (by simp; omega)]
      simp [rightN, h2]
  · rw [if_neg (by simp; omega)]
    simp [rightN, h1]
theorem idxS_at {s : ByteArray} {A B : List UInt8} {b : UInt8} (h : s.data.toList = A ++ b :: B) (i : Int) (hi : i = (A.length : Int)) : idxS s i = some b := by
  subst hi
  unfold idxS
  rw [if_pos (by omega), Int.toNat_natCast]
  have h0 : s.data[A.length]? = some b := by rw [← Array.getElem?_toList, h]; simp
  show s[A.length]? = some b
  rw [← h0]
  rfl
theorem refRight_run (s : ByteArray) (hs : s.size ≤ 16) : ∀ (B A : List UInt8) (n : Nat), s.data.toList = A ++ B → B.length < n → m_ref03_Right_L1 s n (A.length : Int) = some (B.all isSign)
  | [], A, 0, _, h => by simp at h
  | [], A, n + 1, h, _ => by
    have : s.size = A.length := by rw [size_list, h]; simp
    rw [m_ref03_Right_L1, if_neg (by rw [this]; simp)]
    rfl
  | b :: B, A, 0, _, h => by simp at h
  | b :: B, A, n + 1, h, hn => by
    have hsz : s.size = A.length + B.length + 1 := by rw [size_list, h]; simp; omega
    rw [m_ref03_Right_L1, if_pos (by rw [hsz]; simp; omega)]
    rw [idxS_at h _ rfl]
    simp only [Option.bind_some]
    rw [wrap_in (x := (A.length : Int) + 1) (by omega) (by omega)]
    have ih := refRight_run s hs B (A ++ [b]) n (by rw [h]; simp) (by simp at hn; omega)
    rw [show ((A ++ [b]).length : Int) = (A.length : Int) + 1 by simp] at ih
    simp only [List.all_cons]
    have hsg : ∀ n : Nat, n < 256 → isSign (UInt8.ofNat n) = !((decide (n < 97) || decide (n > 122)) && (decide (n < 48) || decide (n > 57)) && decide (n ≠ 45)) := by decide +kernel
    have hb := hsg b.toNat (UInt8.toNat_lt b)
    simp only [UInt8.ofNat_toNat] at hb
    rw [hb]
    by_cases h1 : b.toNat < 97 <;> by_cases h2 : b.toNat > 122 <;> by_cases h3 : b.toNat < 48 <;> by_cases h4 : b.toNat > 57 <;> by_cases h5 : b.toNat = 45 <;>
      first
      | omega
      | (have h1' : ((b.toNat : Int) < 97) = (b.toNat < 97) := by rw [eq_iff_iff]; omega
         have h2' : ((b.toNat : Int) > 122) = (b.toNat > 122) := by rw [eq_iff_iff]; omega
         have h3' : ((b.toNat : Int) < 48) = (b.toNat < 48) := by rw [eq_iff_iff]; omega
         have h4' : ((b.toNat : Int) > 57) = (b.toNat > 57) := by rw [eq_iff_iff]; omega
         have h5' : ((b.toNat : Int) != 45) = !decide (b.toNat = 45) := by rw [Bool.eq_iff_iff]; simp; omega
         simp [h1, h2, h3, h4, h5, h1', h2', h3', h4', h5', ih])
theorem beqS_refl (a : ByteArray) : beqS a a = true := beqS_iff.2 rfl
theorem zS_size : zS.size = 0 := rfl
theorem eq_zS {s : ByteArray} : s = zS ↔ s.size = 0 := by
  constructor
  · rintro rfl; rfl
  · intro h; exact ba_ext (by rw [size_list] at h; rw [List.length_eq_zero_iff.1 h]; rfl)
theorem m_ref03_Right_eq (s : ByteArray) : m_ref03_Right s = some (rightN s) := by
  unfold m_ref03_Right
  simp only [orS, Option.bind_some, bindS]
  by_cases h0 : s.size = 0
  · have : s = zS := eq_zS.2 h0
    subst this
    rw [beqS_refl]
    rfl
  · have hb : beqS s zS = false := by
      cases h : beqS s zS with
      | false => rfl
      | true => exact absurd (eq_zS.1 (beqS_iff.1 h)) h0
    rw [hb]
    simp only [Bool.false_or]
    by_cases h2 : s.size ≤ 16
    · rw [if_neg (by simp; omega)]
      obtain ⟨b, l, hl⟩ : ∃ b l, s.data.toList = b :: l := by
        cases h : s.data.toList with
        | nil => rw [size_list, h] at h0; simp at h0
        | cons b l => exact ⟨b, l, rfl⟩
      rw [idxS_head hl]
      simp only [Option.bind_some, orS]
      have hr := refRight_run s h2 s.data.toList [] FUEL rfl (by rw [FUEL_eq, ← size_list]; omega)
      simp only [List.length_nil] at hr
      rw [show (0 : Int) = ((0 : Nat) : Int) from rfl] at *
      rw [hr]
      have h97 : ((b.toNat : Int) < 97) = (b.toNat < 97) := by rw [eq_iff_iff]; omega
      have h122 : ((b.toNat : Int) > 122) = (b.toNat > 122) := by rw [eq_iff_iff]; omega
      have h1 : 1 ≤ s.size := by omega
      simp only [rightN, h1, h2, hl, isLetter, decide_true, Bool.true_and, h97, h122]
      by_cases a : b.toNat < 97
      · simp [a, show ¬ 97 ≤ b.toNat by omega]
      · by_cases c : b.toNat > 122
        · simp [a, c, show ¬ b.toNat ≤ 122 by omega]
        · simp [a, c, show 97 ≤ b.toNat by omega, show b.toNat ≤ 122 by omega]
    · rw [if_pos (by simp; omega)]
      simp [rightN, h2]
def rightR (r : Role) : Bool := rightN r.Owner && rightN r.Word
theorem m_role_Right_eq (r : Role) : m_role_Right r = some (rightR r) := by
  unfold m_role_Right rightR
  simp only [m_name_Right_eq, Option.bind_some]
  cases rightN r.Owner <;> simp
theorem m_ref04_Right_eq (r : Role) : m_ref04_Right r = some (rightR r) := by
  unfold m_ref04_Right rightR
  simp only [m_ref03_Right_eq, Option.bind_some]
  cases rightN r.Owner <;> simp
def ltR (a b : Role) : Bool := ltS a.Owner b.Owner || (beqS a.Owner b.Owner && ltS a.Word b.Word)
theorem m_ref04_Less_eq (a b : Role) : m_ref04_Less a b = some (ltR a b) := by
  unfold m_ref04_Less ltR
  cases ltS a.Owner b.Owner <;> cases beqS a.Owner b.Owner <;> simp
theorem beqS_ne {a b : ByteArray} (h : a ≠ b) : beqS a b = false := by
  cases h2 : beqS a b with
  | false => rfl
  | true => exact absurd (beqS_iff.1 h2) h
theorem ltR_iff {a b : Role} : ltR a b = true ↔ ltS a.Owner b.Owner = true ∨ (a.Owner = b.Owner ∧ ltS a.Word b.Word = true) := by
  simp [ltR, beqS_iff]
theorem ltOnR (P : Role → Prop) : LtOn (fun a b => ltR a b = true) P := by
  refine ⟨fun x _ h => ?_, fun x y z _ _ _ h1 h2 => ?_, fun x y _ _ => ?_⟩
  · rw [ltR_iff] at h
    simp [ltS_irrefl] at h
  · rw [ltR_iff] at *
    rcases h1 with h1 | ⟨e1, h1⟩
    · rcases h2 with h2 | ⟨e2, h2⟩
      · exact .inl (ltS_trans h1 h2)
      · exact .inl (by rw [← e2]; exact h1)
    · rcases h2 with h2 | ⟨e2, h2⟩
      · exact .inl (by rw [e1]; exact h2)
      · exact .inr ⟨e1.trans e2, ltS_trans h1 h2⟩
  · simp only [ltR_iff]
    rcases ltS_total x.Owner y.Owner with h | h | h
    · exact .inl (.inl h)
    · rcases ltS_total x.Word y.Word with h2 | h2 | h2
      · exact .inl (.inr ⟨h, h2⟩)
      · refine .inr (.inl ?_)
        cases x; cases y; simp at h h2; simp [h, h2]
      · exact .inr (.inr (.inr ⟨h.symm, h2⟩))
    · exact .inr (.inr (.inl h))
theorem m_role_Compare_eq (a b : Role) : ∃ c, m_role_Compare a b = some c ∧ (c < 0 ↔ ltR a b = true) := by
  unfold m_role_Compare
  simp only [m_strings_Compare, m_internal_bytealg_CompareString, Option.bind_some, m_cmp_Or_int, m_cmp_Or_int_L1]
  have h1 : ∀ a b : ByteArray, (xCompareS a b < 0 ↔ ltS a b = true) := fun a b => by rw [ltS_def]; exact cmp_neg _ _
  have h0 : ∀ a b : ByteArray, (xCompareS a b = 0 ↔ a = b) := fun a b => by
    unfold xCompareS; rw [cmp_zero]; exact ⟨ba_ext, fun h => by rw [h]⟩
  by_cases e : xCompareS a.Owner b.Owner = 0
  · rw [if_neg (by simp [e])]
    have e' := (h0 _ _).1 e
    by_cases e2 : xCompareS a.Word b.Word = 0
    · rw [if_neg (by simp [e2])]
      refine ⟨0, rfl, ?_⟩
      rw [ltR_iff, e', (h0 _ _).1 e2]
      simp [ltS_irrefl]
    · rw [if_pos (by simp [e2])]
      refine ⟨_, rfl, ?_⟩
      rw [ltR_iff, e', h1]
      simp [ltS_irrefl]
  · rw [if_pos (by simp [e])]
    refine ⟨_, rfl, ?_⟩
    rw [ltR_iff, h1]
    have : a.Owner ≠ b.Owner := fun h => e ((h0 _ _).2 h)
    simp [this]
def zR : Role := ⟨zS, zS⟩
theorem beqS_comm (a b : ByteArray) : beqS a b = beqS b a := by rw [Bool.eq_iff_iff, beqS_iff, beqS_iff]; exact eq_comm
theorem beqRole_comm (a b : Role) : beqRole a b = beqRole b a := by rw [Bool.eq_iff_iff, beqRole_iff, beqRole_iff]; exact eq_comm
theorem beqRole_refl (a : Role) : beqRole a a = true := beqRole_iff.2 rfl
def rightC (c : Cred) : Bool := rightR c.Head && (
  if c.Kind == 1 then rightN c.Who && beqRole zR c.B && beqRole zR c.C && beqS zS c.Word2
  else if c.Kind == 2 then rightR c.B && beqS zS c.Who && beqRole zR c.C && beqS zS c.Word2
  else if c.Kind == 3 then rightR c.B && beqS c.B.Owner c.Head.Owner && rightN c.Word2 && beqS zS c.Who && beqRole zR c.C
  else if c.Kind == 4 then rightR c.B && rightR c.C && ltR c.B c.C && beqS zS c.Who && beqS zS c.Word2
  else false)
theorem m_cred_Right_eq (c : Cred) : m_cred_Right c = some (rightC c) := by
  unfold m_cred_Right rightC
  simp only [m_role_Right_eq, m_name_Right_eq, Option.bind_some]
  obtain ⟨k, hk, hk2⟩ := m_role_Compare_eq c.B c.C
  rw [hk]
  have hk3 : decide (k < 0) = ltR c.B c.C := by rw [Bool.eq_iff_iff, ← hk2]; simp
  simp only [Option.bind_some, hk3]
  by_cases h1 : c.Kind = 1
  · cases rightR c.Head <;> cases rightN c.Who <;> simp [h1, beqCred, beqRole_refl, beqS_refl, zR, Bool.and_assoc]
  · by_cases h2 : c.Kind = 2
    · cases rightR c.Head <;> cases rightR c.B <;> simp [h2, beqCred, beqRole_refl, beqS_refl, zR, Bool.and_assoc]
    · by_cases h3 : c.Kind = 3
      · cases rightR c.Head <;> cases rightR c.B <;> cases beqS c.B.Owner c.Head.Owner <;> cases rightN c.Word2 <;> simp [h3, beqCred, beqRole_refl, beqS_refl, zR, Bool.and_assoc]
      · by_cases h4 : c.Kind = 4
        · cases rightR c.Head <;> cases rightR c.B <;> cases rightR c.C <;> cases ltR c.B c.C <;> simp [h4, beqCred, beqRole_refl, beqS_refl, zR, Bool.and_assoc]
        · simp [h1, h2, h3, h4]
theorem m_ref05_Right_eq (c : Cred) : m_ref05_Right c = some (rightC c) := by
  unfold m_ref05_Right rightC
  simp only [m_ref04_Right_eq, m_ref03_Right_eq, m_ref04_Less_eq, Option.bind_some]
  rw [show (⟨zS, zS⟩ : Role) = zR from rfl, beqRole_comm c.B zR, beqRole_comm c.C zR, beqS_comm c.Word2 zS, beqS_comm c.Who zS]
  by_cases h1 : c.Kind = 1
  · cases rightR c.Head <;> cases rightN c.Who <;> cases beqRole zR c.B <;> cases beqRole zR c.C <;> simp [h1]
  · by_cases h2 : c.Kind = 2
    · cases rightR c.Head <;> cases rightR c.B <;> cases beqS zS c.Who <;> cases beqRole zR c.C <;> simp [h2]
    · by_cases h3 : c.Kind = 3
      · cases rightR c.Head <;> cases rightR c.B <;> cases beqS zS c.Who <;> cases beqRole zR c.C <;> cases beqS c.B.Owner c.Head.Owner <;> simp [h3]
      · by_cases h4 : c.Kind = 4
        · cases rightR c.Head <;> cases rightR c.B <;> cases beqS zS c.Who <;> cases beqS zS c.Word2 <;> cases rightR c.C <;> simp [h4]
        · cases rightR c.Head <;> cases rightR c.B <;> cases beqS zS c.Who <;> simp [h1, h2, h3, h4]
end Go.Proofs.Ytfjdjbdnnoijgaa
