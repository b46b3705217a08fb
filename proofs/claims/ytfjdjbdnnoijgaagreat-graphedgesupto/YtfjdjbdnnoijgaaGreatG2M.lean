/- A part of the proof that the law GraphEdges answers true for every input of bulk at most 1048576. -/
import Derived.Test.YtfjdjbdnnoijgaaGreatRtI
set_option linter.all false
set_option linter.unusedSimpArgs false
set_option linter.unusedVariables false
namespace Go.Proofs.YtfjdjbdnnoijgaaGreat
open Go.RowKit
set_option linter.unusedVariables false
set_option linter.unusedSimpArgs false
set_option maxRecDepth 10000
structure Role where
  Owner : ByteArray
  Word : ByteArray
def encRole (x : Role) : List Value := [.string x.Owner, .string x.Word]
def beqRole (x y : Role) : Bool := (beqS x.Owner y.Owner) && ((beqS x.Word y.Word) && true)
theorem beqRole_iff {x y : Role} : beqRole x y = true ↔ x = y := by
  cases x; cases y; simp [beqRole, beqS_iff]
theorem lenRole (x : Role) : (encRole x).length = 2 := rfl
theorem oneRole (x : Role) : ∀ u ∈ encRole x, u.oneCell' = true := by
  intro u hu
  simp only [encRole, List.mem_cons, List.not_mem_nil, or_false] at hu
  rcases hu with rfl | rfl <;> rfl
structure Cred where
  Kind : Int
  Head : Role
  Who : ByteArray
  B : Role
  C : Role
  Word2 : ByteArray
def encCred (x : Cred) : List Value := [.int .i64 x.Kind, .string x.Head.Owner, .string x.Head.Word, .string x.Who, .string x.B.Owner, .string x.B.Word, .string x.C.Owner, .string x.C.Word, .string x.Word2]
def beqCred (x y : Cred) : Bool := (x.Kind == y.Kind) && ((beqRole x.Head y.Head) && ((beqS x.Who y.Who) && ((beqRole x.B y.B) && ((beqRole x.C y.C) && ((beqS x.Word2 y.Word2) && true)))))
theorem beqCred_iff {x y : Cred} : beqCred x y = true ↔ x = y := by
  cases x; cases y; simp [beqCred, beqS_iff, beqRole_iff]
theorem lenCred (x : Cred) : (encCred x).length = 9 := rfl
theorem oneCred (x : Cred) : ∀ u ∈ encCred x, u.oneCell' = true := by
  intro u hu
  simp only [encCred, List.mem_cons, List.not_mem_nil, or_false] at hu
  rcases hu with rfl | rfl | rfl | rfl | rfl | rfl | rfl | rfl | rfl <;> rfl
structure Arr2Role where
  at0 : Role
  at1 : Role
def encArr2Role (x : Arr2Role) : List Value := [.string x.at0.Owner, .string x.at0.Word, .string x.at1.Owner, .string x.at1.Word]
def beqArr2Role (x y : Arr2Role) : Bool := (beqRole x.at0 y.at0) && ((beqRole x.at1 y.at1) && true)
theorem beqArr2Role_iff {x y : Arr2Role} : beqArr2Role x y = true ↔ x = y := by
  cases x; cases y; simp [beqArr2Role, beqS_iff, beqRole_iff]
theorem lenArr2Role (x : Arr2Role) : (encArr2Role x).length = 4 := rfl
theorem oneArr2Role (x : Arr2Role) : ∀ u ∈ encArr2Role x, u.oneCell' = true := by
  intro u hu
  simp only [encArr2Role, List.mem_cons, List.not_mem_nil, or_false] at hu
  rcases hu with rfl | rfl | rfl | rfl <;> rfl
structure Ref22Graph where
  Roles : List Role
  Words : List ByteArray
  Relevant : List Cred
structure TapePen where
  b : List Int

noncomputable def m_slices_Clone_Cred (a0 : List Cred) : Option (List Cred) :=
  (((appB 136 ([]) a0)).bind fun l8 => some l8)

noncomputable def m_slices_IndexFunc_Cred_L1 (f1 : Cred → Option Bool) : List Cred → Nat → Option Int
  | [], _ => some (-1)
  | x36 :: xs37, i35 => (((f1 x36)).bind fun r65 => (if r65 then some (i35 : Int) else (m_slices_IndexFunc_Cred_L1 f1 xs37 (i35 + 1))))

noncomputable def m_slices_IndexFunc_Cred (a0 : List Cred) (f1 : Cred → Option Bool) : Option Int :=
  m_slices_IndexFunc_Cred_L1 f1 a0 0

noncomputable def m_slices_DeleteFunc_Cred_L1 (f1 : Cred → Option Bool) : Nat → (List Cred) → Int → Int → Option (List Cred)
  | 0, _, _, _ => none
  | n321 + 1, l249, x252, x253 => (if (decide (x253 < ((l249.length : Int)))) then (((((idx l249 x253)).bind fun x364 => (((f1 x364)).bind fun r369 => (if (!r369) then (((idx l249 x252)).bind fun x376 => some (((l249.set (Int.toNat x252) x364)), ((IntKind.i64.wrap (x252 + 1))))) else some (l249, x252)))) : Option (((List Cred) × Int))).bind fun (l348, x351) => (m_slices_DeleteFunc_Cred_L1 f1 n321 l348 x351 ((IntKind.i64.wrap (x253 + 1))))) else (((chk (decide (0 ≤ x252) && decide (x252 ≤ (l249.length : Int))))).bind fun _ => (((chk (decide (0 ≤ x252) && decide (x252 ≤ (((clearT l249 (Int.toNat x252) (⟨0, (⟨zS, zS⟩ : Role), zS, (⟨zS, zS⟩ : Role), (⟨zS, zS⟩ : Role), zS⟩ : Cred))).length : Int))))).bind fun _ => some (((clearT l249 (Int.toNat x252) (⟨0, (⟨zS, zS⟩ : Role), zS, (⟨zS, zS⟩ : Role), (⟨zS, zS⟩ : Role), zS⟩ : Cred))).take (Int.toNat x252)))))

noncomputable def m_slices_DeleteFunc_Cred (a0 : List Cred) (f1 : Cred → Option Bool) : Option (List Cred) :=
  (((m_slices_IndexFunc_Cred a0 f1)).bind fun r1 => (if (r1 == ((-1))) then some a0 else m_slices_DeleteFunc_Cred_L1 f1 FUEL a0 r1 ((IntKind.i64.wrap (r1 + 1)))))

noncomputable def m_internal_stringslite_IndexByte (a0 : ByteArray) (a1 : Int) : Option Int :=
  some (xIndexByte a0 a1)

noncomputable def m_strings_IndexByte (a0 : ByteArray) (a1 : Int) : Option Int :=
  (((m_internal_stringslite_IndexByte a0 a1)).bind fun r1 => some r1)

noncomputable def m_name_only_L1  : List Int → Option Bool
  | [] => some true
  | x42 :: xs43 => (((m_strings_IndexByte ((⟨#[97, 98, 99, 100, 101, 102, 103, 104, 105, 106, 107, 108, 109, 110, 111, 112, 113, 114, 115, 116, 117, 118, 119, 120, 121, 122, 48, 49, 50, 51, 52, 53, 54, 55, 56, 57, 45]⟩ : ByteArray)) x42)).bind fun r69 => (if (decide (r69 < 0)) then some false else (m_name_only_L1 xs43)))

noncomputable def m_name_only (a0 : ByteArray) : Option Bool :=
  (((bytesB a0)).bind fun l1 => m_name_only_L1 l1)

noncomputable def m_name_Right (a0 : ByteArray) : Option Bool :=
  (((if (decide (((a0.size : Int)) ≥ 1)) then (if (decide (((a0.size : Int)) ≤ 16)) then (((idxS a0 0)).bind fun c21 => (((m_strings_IndexByte ((⟨#[97, 98, 99, 100, 101, 102, 103, 104, 105, 106, 107, 108, 109, 110, 111, 112, 113, 114, 115, 116, 117, 118, 119, 120, 121, 122]⟩ : ByteArray)) ((c21.toNat : Int)))).bind fun r23 => (if (decide (r23 ≥ 0)) then (((m_name_only a0)).bind fun r27 => some r27) else some false))) else some false) else some false) : Option Bool).bind fun x12 => some x12)

noncomputable def m_role_Right (a0 : Role) : Option Bool :=
  (((((m_name_Right a0.Owner)).bind fun r17 => (if r17 then (((m_name_Right a0.Word)).bind fun r21 => some r21) else some false)) : Option Bool).bind fun x10 => some x10)

noncomputable def m_internal_bytealg_CompareString (a0 : ByteArray) (a1 : ByteArray) : Option Int :=
  some (xCompareS a0 a1)

noncomputable def m_strings_Compare (a0 : ByteArray) (a1 : ByteArray) : Option Int :=
  (((m_internal_bytealg_CompareString a0 a1)).bind fun r1 => some r1)

noncomputable def m_cmp_Or_int_L1  : List Int → Option Int
  | [] => some 0
  | x27 :: xs28 => (if (x27 != 0) then some x27 else (m_cmp_Or_int_L1 xs28))

noncomputable def m_cmp_Or_int (a0 : List Int) : Option Int :=
  m_cmp_Or_int_L1 a0

noncomputable def m_role_Compare (a0 : Role) (a1 : Role) : Option Int :=
  (((m_strings_Compare a0.Owner a1.Owner)).bind fun r16 => (((m_strings_Compare a0.Word a1.Word)).bind fun r19 => (((m_cmp_Or_int ([r16, r19]))).bind fun r24 => some r24)))

noncomputable def m_cred_Right (a0 : Cred) : Option Bool :=
  (((m_role_Right a0.Head)).bind fun r6 => (((if (a0.Kind == 1) then (if r6 then (((m_name_Right a0.Who)).bind fun r93 => some (Sum.inr (r93, ((⟨a0.Kind, a0.Head, a0.Who, (⟨zS, zS⟩ : Role), (⟨zS, zS⟩ : Role), zS⟩ : Cred))))) else some (Sum.inr (false, ((⟨a0.Kind, a0.Head, a0.Who, (⟨zS, zS⟩ : Role), (⟨zS, zS⟩ : Role), zS⟩ : Cred))))) else (if (a0.Kind == 2) then (if r6 then (((m_role_Right a0.B)).bind fun r106 => some (Sum.inr (r106, ((⟨a0.Kind, a0.Head, zS, a0.B, (⟨zS, zS⟩ : Role), zS⟩ : Cred))))) else some (Sum.inr (false, ((⟨a0.Kind, a0.Head, zS, a0.B, (⟨zS, zS⟩ : Role), zS⟩ : Cred))))) else (if (a0.Kind == 3) then (if r6 then (((m_role_Right a0.B)).bind fun r117 => (if r117 then (if (beqS a0.B.Owner a0.Head.Owner) then (((m_name_Right a0.Word2)).bind fun r122 => some (Sum.inr (r122, ((⟨a0.Kind, a0.Head, zS, a0.B, (⟨zS, zS⟩ : Role), a0.Word2⟩ : Cred))))) else some (Sum.inr (false, ((⟨a0.Kind, a0.Head, zS, a0.B, (⟨zS, zS⟩ : Role), a0.Word2⟩ : Cred))))) else some (Sum.inr (false, ((⟨a0.Kind, a0.Head, zS, a0.B, (⟨zS, zS⟩ : Role), a0.Word2⟩ : Cred)))))) else some (Sum.inr (false, ((⟨a0.Kind, a0.Head, zS, a0.B, (⟨zS, zS⟩ : Role), a0.Word2⟩ : Cred))))) else (if (a0.Kind == 4) then (if r6 then (((m_role_Right a0.B)).bind fun r131 => (if r131 then (((m_role_Right a0.C)).bind fun r135 => (if r135 then (((m_role_Compare a0.B a0.C)).bind fun r139 => some (Sum.inr (((decide (r139 < 0))), ((⟨a0.Kind, a0.Head, zS, a0.B, a0.C, zS⟩ : Cred))))) else some (Sum.inr (false, ((⟨a0.Kind, a0.Head, zS, a0.B, a0.C, zS⟩ : Cred)))))) else some (Sum.inr (false, ((⟨a0.Kind, a0.Head, zS, a0.B, a0.C, zS⟩ : Cred)))))) else some (Sum.inr (false, ((⟨a0.Kind, a0.Head, zS, a0.B, a0.C, zS⟩ : Cred))))) else some (Sum.inl false))))) : Option ((Bool ⊕ ((Bool × Cred))))).bind fun s => match s with | .inl q142 => some q142 | .inr (x66, x67) => (((if x66 then some ((beqCred x67 a0)) else some false) : Option Bool).bind fun x74 => some x74)))

noncomputable def m_cred_Set_c1 (a0 : Cred) : Option Bool :=
  (((m_cred_Right a0)).bind fun r3 => some (!r3))

noncomputable def m_tape_Pen_Number_w_L1  : Nat → Int → (List Int) → Option ((Bool × (List Int)))
  | 0, _, _ => none
  | n94 + 1, x68, l70 => (if (decide (x68 ≥ 128)) then (((appB 1 l70 ([(IntKind.u8.wrap (BitVec.ofInt (IntKind.bits .u8) ((IntKind.u8.wrap x68)) ||| BitVec.ofInt (IntKind.bits .u8) 128).toNat)]))).bind fun l100 => (m_tape_Pen_Number_w_L1 n94 ((Int.fdiv x68 (2 ^ min (Int.toNat 7) (IntKind.bits .i64)))) l100)) else (((appB 1 l70 ([(IntKind.u8.wrap x68)]))).bind fun l111 => some (true, l111)))

noncomputable def m_tape_Pen_Number_w (a0_b : List Int) (a1 : Int) : Option ((Bool × (List Int))) :=
  (if (decide (a1 < 0)) then some (false, a0_b) else m_tape_Pen_Number_w_L1 FUEL a1 a0_b)

noncomputable def m_tape_Pen_Text_w (a0_b : List Int) (a1 : List Int) : Option ((Bool × (List Int))) :=
  (if (decide (((a1.length : Int)) > 2048)) then some (false, a0_b) else (((m_tape_Pen_Number_w a0_b ((a1.length : Int)))).bind fun r3 => (((appB 1 r3.2 a1)).bind fun l15 => some (true, l15))))

noncomputable def m_name_Put_w (a0_b : List Int) (a1 : ByteArray) : Option ((Bool × (List Int))) :=
  (((((m_name_Right a1)).bind fun r38 => (if r38 then (((bytesB a1)).bind fun l42 => (((m_tape_Pen_Text_w a0_b l42)).bind fun r50 => some (r50.1, r50.2))) else some (false, a0_b))) : Option ((Bool × (List Int)))).bind fun (x26, l28) => some (x26, l28))

noncomputable def m_role_Put_w (a0_b : List Int) (a1 : Role) : Option ((Bool × (List Int))) :=
  (((((m_role_Right a1)).bind fun r45 => (if r45 then (((m_name_Put_w a0_b a1.Owner)).bind fun r49 => (if r49.1 then (((m_name_Put_w r49.2 a1.Word)).bind fun r62 => some (r62.1, r62.2)) else some (false, r49.2))) else some (false, a0_b))) : Option ((Bool × (List Int)))).bind fun (x33, l35) => some (x33, l35))

noncomputable def m_bytes_Clone (a0 : List Int) : Option (List Int) :=
  (((appB 1 ([]) a0)).bind fun l8 => some l8)

noncomputable def m_tape_Pen_Bytes (a0_b : List Int) : Option (List Int) :=
  (((m_bytes_Clone a0_b)).bind fun r4 => some r4)

noncomputable def m_cred_Bytes (a0 : Cred) : Option (List Int) :=
  (((m_cred_Right a0)).bind fun r3 => (if (!r3) then some [] else (((m_tape_Pen_Number_w ([]) a0.Kind)).bind fun r9 => (((m_role_Put_w r9.2 a0.Head)).bind fun r21 => (((if (a0.Kind == 1) then (((m_name_Put_w r21.2 a0.Who)).bind fun r130 => some r130.2) else (if (a0.Kind == 2) then (((m_role_Put_w r21.2 a0.B)).bind fun r143 => some r143.2) else (if (a0.Kind == 3) then (((m_role_Put_w r21.2 a0.B)).bind fun r156 => (((m_name_Put_w r156.2 a0.Word2)).bind fun r168 => some r168.2)) else (if (a0.Kind == 4) then (((m_role_Put_w r21.2 a0.B)).bind fun r181 => (((m_role_Put_w r181.2 a0.C)).bind fun r193 => some r193.2)) else some r21.2)))) : Option (List Int)).bind fun l111 => (((m_tape_Pen_Bytes l111)).bind fun r118 => some r118))))))

noncomputable def m_bytes_Compare (a0 : List Int) (a1 : List Int) : Option Int :=
  some (xCompareB a0 a1)

noncomputable def m_cred_Compare (a0 : Cred) (a1 : Cred) : Option Int :=
  (((m_cred_Bytes a0)).bind fun r24 => (((m_cred_Bytes a1)).bind fun r32 => (((m_bytes_Compare r24 r32)).bind fun r40 => some r40)))

noncomputable def m_slices_Compact_Cred_L2 (x2371 : Int) : Nat → (List Cred) → Int → Int → Option (((List Cred) × Int))
  | 0, _, _, _ => none
  | n3472 + 1, l3372, x3375, x3376 => (if (decide (x3376 < (((l3372.length - (Int.toNat x2371) : Nat) : Int)))) then (((((idx (l3372.drop (Int.toNat x2371)) x3376)).bind fun x3539 => (((idx (l3372.drop (Int.toNat x2371)) ((IntKind.i64.wrap (x3376 - 1))))).bind fun x3544 => (if (!(beqCred x3539 x3544)) then (((idx (l3372.drop (Int.toNat x2371)) x3376)).bind fun x3550 => (((idx l3372 x3375)).bind fun x3555 => some (((l3372.set (Int.toNat x3375) x3550)), ((IntKind.i64.wrap (x3375 + 1)))))) else some (l3372, x3375)))) : Option (((List Cred) × Int))).bind fun (l3513, x3516) => (m_slices_Compact_Cred_L2 x2371 n3472 l3513 x3516 ((IntKind.i64.wrap (x3376 + 1))))) else some (l3372, x3375))

noncomputable def m_slices_Compact_Cred_L1 (a0 : List Cred) : Nat → Int → Option (List Cred)
  | 0, _ => none
  | n2967 + 1, x2371 => (if (decide (x2371 < ((a0.length : Int)))) then (((idx a0 x2371)).bind fun x2984 => (((idx a0 ((IntKind.i64.wrap (x2371 - 1))))).bind fun x2989 => (if (beqCred x2984 x2989) then (((chk (decide (0 ≤ x2371) && decide (x2371 ≤ (a0.length : Int))))).bind fun _ => ((m_slices_Compact_Cred_L2 x2371 FUEL a0 x2371 1 : Option (((List Cred) × Int))).bind fun (l3268, x3271) => (((chk (decide (0 ≤ x3271) && decide (x3271 ≤ (l3268.length : Int))))).bind fun _ => (((chk (decide (0 ≤ x3271) && decide (x3271 ≤ (((clearT l3268 (Int.toNat x3271) (⟨0, (⟨zS, zS⟩ : Role), zS, (⟨zS, zS⟩ : Role), (⟨zS, zS⟩ : Role), zS⟩ : Cred))).length : Int))))).bind fun _ => some (((clearT l3268 (Int.toNat x3271) (⟨0, (⟨zS, zS⟩ : Role), zS, (⟨zS, zS⟩ : Role), (⟨zS, zS⟩ : Role), zS⟩ : Cred))).take (Int.toNat x3271)))))) else (m_slices_Compact_Cred_L1 a0 n2967 ((IntKind.i64.wrap (x2371 + 1))))))) else some a0)

noncomputable def m_slices_Compact_Cred (a0 : List Cred) : Option (List Cred) :=
  (if (decide (((a0.length : Int)) < 2)) then some a0 else m_slices_Compact_Cred_L1 a0 FUEL 1)

noncomputable def m_cred_Set (a0 : List Cred) : Option (List Cred) :=
  (((m_slices_Clone_Cred a0)).bind fun r1 => (((m_slices_DeleteFunc_Cred r1 (fun (x : Cred) => m_cred_Set_c1 x))).bind fun r9 => (((sortF (fun (x : (Cred × Cred)) => m_cred_Compare x.1 x.2) r9)).bind fun r21 => (((m_slices_Compact_Cred r21)).bind fun r32 => some r32))))

noncomputable def m_slices_Clone_Role (a0 : List Role) : Option (List Role) :=
  (((appB 32 ([]) a0)).bind fun l8 => some l8)

noncomputable def m_slices_IndexFunc_Role_L1 (f1 : Role → Option Bool) : List Role → Nat → Option Int
  | [], _ => some (-1)
  | x36 :: xs37, i35 => (((f1 x36)).bind fun r65 => (if r65 then some (i35 : Int) else (m_slices_IndexFunc_Role_L1 f1 xs37 (i35 + 1))))

noncomputable def m_slices_IndexFunc_Role (a0 : List Role) (f1 : Role → Option Bool) : Option Int :=
  m_slices_IndexFunc_Role_L1 f1 a0 0

noncomputable def m_slices_DeleteFunc_Role_L1 (f1 : Role → Option Bool) : Nat → (List Role) → Int → Int → Option (List Role)
  | 0, _, _, _ => none
  | n321 + 1, l249, x252, x253 => (if (decide (x253 < ((l249.length : Int)))) then (((((idx l249 x253)).bind fun x364 => (((f1 x364)).bind fun r369 => (if (!r369) then (((idx l249 x252)).bind fun x376 => some (((l249.set (Int.toNat x252) x364)), ((IntKind.i64.wrap (x252 + 1))))) else some (l249, x252)))) : Option (((List Role) × Int))).bind fun (l348, x351) => (m_slices_DeleteFunc_Role_L1 f1 n321 l348 x351 ((IntKind.i64.wrap (x253 + 1))))) else (((chk (decide (0 ≤ x252) && decide (x252 ≤ (l249.length : Int))))).bind fun _ => (((chk (decide (0 ≤ x252) && decide (x252 ≤ (((clearT l249 (Int.toNat x252) (⟨zS, zS⟩ : Role))).length : Int))))).bind fun _ => some (((clearT l249 (Int.toNat x252) (⟨zS, zS⟩ : Role))).take (Int.toNat x252)))))

noncomputable def m_slices_DeleteFunc_Role (a0 : List Role) (f1 : Role → Option Bool) : Option (List Role) :=
  (((m_slices_IndexFunc_Role a0 f1)).bind fun r1 => (if (r1 == ((-1))) then some a0 else m_slices_DeleteFunc_Role_L1 f1 FUEL a0 r1 ((IntKind.i64.wrap (r1 + 1)))))

noncomputable def m_role_Set_c1 (a0 : Role) : Option Bool :=
  (((m_role_Right a0)).bind fun r3 => some (!r3))

noncomputable def m_slices_Compact_Role_L2 (x2371 : Int) : Nat → (List Role) → Int → Int → Option (((List Role) × Int))
  | 0, _, _, _ => none
  | n3472 + 1, l3372, x3375, x3376 => (if (decide (x3376 < (((l3372.length - (Int.toNat x2371) : Nat) : Int)))) then (((((idx (l3372.drop (Int.toNat x2371)) x3376)).bind fun x3539 => (((idx (l3372.drop (Int.toNat x2371)) ((IntKind.i64.wrap (x3376 - 1))))).bind fun x3544 => (if (!(beqRole x3539 x3544)) then (((idx (l3372.drop (Int.toNat x2371)) x3376)).bind fun x3550 => (((idx l3372 x3375)).bind fun x3555 => some (((l3372.set (Int.toNat x3375) x3550)), ((IntKind.i64.wrap (x3375 + 1)))))) else some (l3372, x3375)))) : Option (((List Role) × Int))).bind fun (l3513, x3516) => (m_slices_Compact_Role_L2 x2371 n3472 l3513 x3516 ((IntKind.i64.wrap (x3376 + 1))))) else some (l3372, x3375))

noncomputable def m_slices_Compact_Role_L1 (a0 : List Role) : Nat → Int → Option (List Role)
  | 0, _ => none
  | n2967 + 1, x2371 => (if (decide (x2371 < ((a0.length : Int)))) then (((idx a0 x2371)).bind fun x2984 => (((idx a0 ((IntKind.i64.wrap (x2371 - 1))))).bind fun x2989 => (if (beqRole x2984 x2989) then (((chk (decide (0 ≤ x2371) && decide (x2371 ≤ (a0.length : Int))))).bind fun _ => ((m_slices_Compact_Role_L2 x2371 FUEL a0 x2371 1 : Option (((List Role) × Int))).bind fun (l3268, x3271) => (((chk (decide (0 ≤ x3271) && decide (x3271 ≤ (l3268.length : Int))))).bind fun _ => (((chk (decide (0 ≤ x3271) && decide (x3271 ≤ (((clearT l3268 (Int.toNat x3271) (⟨zS, zS⟩ : Role))).length : Int))))).bind fun _ => some (((clearT l3268 (Int.toNat x3271) (⟨zS, zS⟩ : Role))).take (Int.toNat x3271)))))) else (m_slices_Compact_Role_L1 a0 n2967 ((IntKind.i64.wrap (x2371 + 1))))))) else some a0)

noncomputable def m_slices_Compact_Role (a0 : List Role) : Option (List Role) :=
  (if (decide (((a0.length : Int)) < 2)) then some a0 else m_slices_Compact_Role_L1 a0 FUEL 1)

noncomputable def m_role_Set (a0 : List Role) : Option (List Role) :=
  (((m_slices_Clone_Role a0)).bind fun r1 => (((m_slices_DeleteFunc_Role r1 (fun (x : Role) => m_role_Set_c1 x))).bind fun r9 => (((sortF (fun (x : (Role × Role)) => m_role_Compare x.1 x.2) r9)).bind fun r21 => (((m_slices_Compact_Role r21)).bind fun r32 => some r32))))

noncomputable def m_graph_Graph_bears (a0_all : List Cred) (a0_targets : List (Role × Bool)) (a0_words : List (ByteArray × Bool)) (a0_relevant : List (Cred × Bool)) (a1 : Cred) : Option Bool :=
  (((if (mgetD beqRole a0_targets a1.Head false) then some true else some ((mgetD beqS a0_words a1.Head.Word false))) : Option Bool).bind fun x17 => some x17)

noncomputable def m_cred_Roles (a0 : Cred) : Option (List Role) :=
  (((m_cred_Right a0)).bind fun r3 => (if (!r3) then some [] else (((if (a0.Kind != 1) then (((appB 32 ([a0.Head]) ([a0.B]))).bind fun l60 => some l60) else some ([a0.Head])) : Option (List Role)).bind fun l19 => (((if (a0.Kind == 4) then (((appB 32 l19 ([a0.C]))).bind fun l48 => some l48) else some l19) : Option (List Role)).bind fun l36 => some l36))))

noncomputable def m_graph_Graph_take_w_L1 (a1 : Cred) (a0_words : List (ByteArray × Bool)) (a0_relevant : List (Cred × Bool)) : List Role → (List (Role × Bool)) → Option (((List (Role × Bool)) × (List (ByteArray × Bool)) × (List (Cred × Bool))))
  | [], l99 => (if (a1.Kind == 3) then some (l99, (mput beqS a0_words a1.Word2 true), (mput beqCred a0_relevant a1 true)) else some (l99, a0_words, (mput beqCred a0_relevant a1 true)))
  | x81 :: xs82, l99 => (m_graph_Graph_take_w_L1 a1 a0_words a0_relevant xs82 ((mput beqRole l99 x81 true)))

noncomputable def m_graph_Graph_take_w (a0_all : List Cred) (a0_targets : List (Role × Bool)) (a0_words : List (ByteArray × Bool)) (a0_relevant : List (Cred × Bool)) (a1 : Cred) : Option (((List (Role × Bool)) × (List (ByteArray × Bool)) × (List (Cred × Bool)))) :=
  (((m_cred_Roles a1)).bind fun r9 => (((chk (decide (0 ≤ 1) && decide (1 ≤ (r9.length : Int))))).bind fun _ => m_graph_Graph_take_w_L1 a1 a0_words a0_relevant ((r9.drop (Int.toNat 1))) a0_targets))

noncomputable def m_graph_Graph_Want_w_L3 (a0_all : List Cred) : List Cred → (List (Role × Bool)) → (List (ByteArray × Bool)) → (List (Cred × Bool)) → Option (((List (Role × Bool)) × (List (ByteArray × Bool)) × (List (Cred × Bool))))
  | [], l2528, l2531, l2534 => some (l2528, l2531, l2534)
  | x2469 :: xs2470, l2528, l2531, l2534 => (((if (!((mgetD beqCred l2534 x2469 false))) then (((m_graph_Graph_bears a0_all l2528 l2531 l2534 x2469)).bind fun r2660 => some r2660) else some false) : Option Bool).bind fun x2625 => (if x2625 then (((m_graph_Graph_take_w a0_all l2528 l2531 l2534 x2469)).bind fun r2637 => (m_graph_Graph_Want_w_L3 a0_all xs2470 r2637.1 r2637.2.1 r2637.2.2)) else (m_graph_Graph_Want_w_L3 a0_all xs2470 l2528 l2531 l2534)))

noncomputable def m_graph_Graph_Want_w_L2 (a0_all : List Cred) : Nat → Int → (List (Role × Bool)) → (List (ByteArray × Bool)) → (List (Cred × Bool)) → Option (((List (Role × Bool)) × (List (ByteArray × Bool)) × (List (Cred × Bool))))
  | 0, _, _, _, _ => none
  | n2248 + 1, x1811, l1812, l1815, l1818 => (if (decide (x1811 < ((l1818.length : Int)))) then ((m_graph_Graph_Want_w_L3 a0_all a0_all l1812 l1815 l1818 : Option (((List (Role × Bool)) × (List (ByteArray × Bool)) × (List (Cred × Bool))))).bind fun (l2450, l2453, l2456) => (m_graph_Graph_Want_w_L2 a0_all n2248 ((l1818.length : Int)) l2450 l2453 l2456)) else some (l1812, l1815, l1818))

noncomputable def m_graph_Graph_Want_w_L1 (a0_all : List Cred) (a0_words : List (ByteArray × Bool)) (a0_relevant : List (Cred × Bool)) : List Role → (List (Role × Bool)) → Option ((Int × (List (Role × Bool)) × (List (ByteArray × Bool)) × (List (Cred × Bool))))
  | [], l83 => ((m_graph_Graph_Want_w_L2 a0_all FUEL ((-1)) l83 a0_words a0_relevant : Option (((List (Role × Bool)) × (List (ByteArray × Bool)) × (List (Cred × Bool))))).bind fun (l1383, l1386, l1389) => some ((IntKind.i64.wrap (((l1389.length : Int)) - ((a0_relevant.length : Int)))), l1383, l1386, l1389))
  | x65 :: xs66, l83 => (m_graph_Graph_Want_w_L1 a0_all a0_words a0_relevant xs66 ((mput beqRole l83 x65 true)))

noncomputable def m_graph_Graph_Want_w (a0_all : List Cred) (a0_targets : List (Role × Bool)) (a0_words : List (ByteArray × Bool)) (a0_relevant : List (Cred × Bool)) (a1 : List Role) : Option ((Int × (List (Role × Bool)) × (List (ByteArray × Bool)) × (List (Cred × Bool)))) :=
  (((m_role_Set a1)).bind fun r1 => m_graph_Graph_Want_w_L1 a0_all a0_words a0_relevant r1 a0_targets)

noncomputable def m_graph_New (a0 : List Cred) (a1 : List Role) : Option (((List Cred) × (List (Role × Bool)) × (List (ByteArray × Bool)) × (List (Cred × Bool)))) :=
  (((m_cred_Set a0)).bind fun r1 => (((m_graph_Graph_Want_w r1 ([]) ([]) ([]) a1)).bind fun r32 => some (r1, r32.2.1, r32.2.2.1, r32.2.2.2)))

noncomputable def m_graph_Graph_Edges_w (a0_all : List Cred) (a0_targets : List (Role × Bool)) (a0_words : List (ByteArray × Bool)) (a0_relevant : List (Cred × Bool)) : Option Unit :=
  some ()

noncomputable def m_graph_Graph_Relevant_c1 (a0 : Cred) (c0q_all : List Cred) (c0q_targets : List (Role × Bool)) (c0q_words : List (ByteArray × Bool)) (c0q_relevant : List (Cred × Bool)) : Option Bool :=
  some (!((mgetD beqCred c0q_relevant a0 false)))

noncomputable def m_graph_Graph_Relevant (a0_all : List Cred) (a0_targets : List (Role × Bool)) (a0_words : List (ByteArray × Bool)) (a0_relevant : List (Cred × Bool)) : Option (List Cred) :=
  (((m_slices_Clone_Cred a0_all)).bind fun r6 => (((m_slices_DeleteFunc_Cred r6 (fun (x : Cred) => m_graph_Graph_Relevant_c1 x a0_all a0_targets a0_words a0_relevant))).bind fun r14 => some r14))

noncomputable def m_graph_Graph_Edges_c1_L2 (f0 : ((Role × Role)) → Option Bool) (x426 : Cred) : List Role → Option ((Unit ⊕ Unit))
  | [] => some (Sum.inr ())
  | x790 :: xs791 => (((f0 ((x426.Head, x790)))).bind fun r836 => (if (!r836) then some (Sum.inl ()) else (m_graph_Graph_Edges_c1_L2 f0 x426 xs791)))

noncomputable def m_graph_Graph_Edges_c1_L1 (f0 : ((Role × Role)) → Option Bool) : List Cred → Option Unit
  | [] => some ()
  | x426 :: xs427 => (((m_cred_Roles x426)).bind fun r714 => (((chk (decide (0 ≤ 1) && decide (1 ≤ (r714.length : Int))))).bind fun _ => ((m_graph_Graph_Edges_c1_L2 f0 x426 ((r714.drop (Int.toNat 1))) : Option ((Unit ⊕ Unit))).bind fun s => match s with | .inl q840 => some q840 | .inr _ => (m_graph_Graph_Edges_c1_L1 f0 xs427))))

noncomputable def m_graph_Graph_Edges_c1 (f0 : ((Role × Role)) → Option Bool) (c0q_all : List Cred) (c0q_targets : List (Role × Bool)) (c0q_words : List (ByteArray × Bool)) (c0q_relevant : List (Cred × Bool)) : Option Unit :=
  (((m_graph_Graph_Relevant c0q_all c0q_targets c0q_words c0q_relevant)).bind fun r1 => m_graph_Graph_Edges_c1_L1 f0 r1)

noncomputable def m_graph_Graph_Edges_c1_w_L2 (f0 : ((Role × Role)) → Option Bool) (x423 : Cred) : List Role → Option ((Unit ⊕ Unit))
  | [] => some (Sum.inr ())
  | x784 :: xs785 => (((f0 ((x423.Head, x784)))).bind fun r830 => (if (!r830) then some (Sum.inl ()) else (m_graph_Graph_Edges_c1_w_L2 f0 x423 xs785)))

noncomputable def m_graph_Graph_Edges_c1_w_L1 (f0 : ((Role × Role)) → Option Bool) : List Cred → Option Unit
  | [] => some ()
  | x423 :: xs424 => (((m_cred_Roles x423)).bind fun r709 => (((chk (decide (0 ≤ 1) && decide (1 ≤ (r709.length : Int))))).bind fun _ => ((m_graph_Graph_Edges_c1_w_L2 f0 x423 ((r709.drop (Int.toNat 1))) : Option ((Unit ⊕ Unit))).bind fun s => match s with | .inl q834 => some q834 | .inr _ => (m_graph_Graph_Edges_c1_w_L1 f0 xs424))))

noncomputable def m_graph_Graph_Edges_c1_w (f0 : ((Role × Role)) → Option Bool) (c0q_all : List Cred) (c0q_targets : List (Role × Bool)) (c0q_words : List (ByteArray × Bool)) (c0q_relevant : List (Cred × Bool)) : Option Unit :=
  (((m_graph_Graph_Relevant c0q_all c0q_targets c0q_words c0q_relevant)).bind fun r1 => m_graph_Graph_Edges_c1_w_L1 f0 r1)

noncomputable def m_graph_Graph_Edges_c1_s_L2 {σ0 : Type} (f0 : σ0 → ((Role × Role)) → Option (Bool × σ0)) (x576 : Cred) : List Role → σ0 → Option ((σ0 ⊕ σ0))
  | [], s1089 => some (Sum.inr s1089)
  | x1068 :: xs1069, s1089 => (((f0 s1089 ((x576.Head, x1068)))).bind fun r1132 => (if (!r1132.1) then some (Sum.inl r1132.2) else (m_graph_Graph_Edges_c1_s_L2 f0 x576 xs1069 r1132.2)))

noncomputable def m_graph_Graph_Edges_c1_s_L1 {σ0 : Type} (f0 : σ0 → ((Role × Role)) → Option (Bool × σ0)) : List Cred → σ0 → Option σ0
  | [], s764 => some s764
  | x576 :: xs577, s764 => (((m_cred_Roles x576)).bind fun r966 => (((chk (decide (0 ≤ 1) && decide (1 ≤ (r966.length : Int))))).bind fun _ => ((m_graph_Graph_Edges_c1_s_L2 f0 x576 ((r966.drop (Int.toNat 1))) s764 : Option ((σ0 ⊕ σ0))).bind fun s => match s with | .inl q1140 => some q1140 | .inr s1054 => (m_graph_Graph_Edges_c1_s_L1 f0 xs577 s1054))))

noncomputable def m_graph_Graph_Edges_c1_s {σ0 : Type} (f0 : σ0 → ((Role × Role)) → Option (Bool × σ0)) (s0 : σ0) (c0q_all : List Cred) (c0q_targets : List (Role × Bool)) (c0q_words : List (ByteArray × Bool)) (c0q_relevant : List (Cred × Bool)) : Option σ0 :=
  (((m_graph_Graph_Relevant c0q_all c0q_targets c0q_words c0q_relevant)).bind fun r1 => m_graph_Graph_Edges_c1_s_L1 f0 r1 s0)

noncomputable def m_law22_first_c1_w (a0 : Role) (a1 : Role) (c0 : Int) (c1 : Role) (c2 : Role) : Option ((Bool × Int)) :=
  (((if (beqRole a0 c1) then some ((beqRole a1 c2)) else some false) : Option Bool).bind fun x7 => some (x7, (IntKind.i64.wrap (c0 + 1))))

noncomputable def m_graph_Graph_Targets_L1  : List (Role × Bool) → (List Role) → Option (List Role)
  | [], l90 => (((m_role_Set l90)).bind fun r124 => some r124)
  | p66 :: ps67, l90 => ((((appB 32 l90 ([p66.1]))).bind fun l118 => some l118) : Option (List Role)).bind fun l90 => m_graph_Graph_Targets_L1 ps67 l90

noncomputable def m_graph_Graph_Targets (a0_all : List Cred) (a0_targets : List (Role × Bool)) (a0_words : List (ByteArray × Bool)) (a0_relevant : List (Cred × Bool)) : Option (List Role) :=
  allOrders a0_targets (fun o => m_graph_Graph_Targets_L1 o ([]))

noncomputable def m_slices_Compact_string_L2 (x2371 : Int) : Nat → (List ByteArray) → Int → Int → Option (((List ByteArray) × Int))
  | 0, _, _, _ => none
  | n3472 + 1, l3372, x3375, x3376 => (if (decide (x3376 < (((l3372.length - (Int.toNat x2371) : Nat) : Int)))) then (((((idx (l3372.drop (Int.toNat x2371)) x3376)).bind fun x3539 => (((idx (l3372.drop (Int.toNat x2371)) ((IntKind.i64.wrap (x3376 - 1))))).bind fun x3544 => (if (!(beqS x3539 x3544)) then (((idx (l3372.drop (Int.toNat x2371)) x3376)).bind fun x3550 => (((idx l3372 x3375)).bind fun x3555 => some (((l3372.set (Int.toNat x3375) x3550)), ((IntKind.i64.wrap (x3375 + 1)))))) else some (l3372, x3375)))) : Option (((List ByteArray) × Int))).bind fun (l3513, x3516) => (m_slices_Compact_string_L2 x2371 n3472 l3513 x3516 ((IntKind.i64.wrap (x3376 + 1))))) else some (l3372, x3375))

noncomputable def m_slices_Compact_string_L1 (a0 : List ByteArray) : Nat → Int → Option (List ByteArray)
  | 0, _ => none
  | n2967 + 1, x2371 => (if (decide (x2371 < ((a0.length : Int)))) then (((idx a0 x2371)).bind fun x2984 => (((idx a0 ((IntKind.i64.wrap (x2371 - 1))))).bind fun x2989 => (if (beqS x2984 x2989) then (((chk (decide (0 ≤ x2371) && decide (x2371 ≤ (a0.length : Int))))).bind fun _ => ((m_slices_Compact_string_L2 x2371 FUEL a0 x2371 1 : Option (((List ByteArray) × Int))).bind fun (l3268, x3271) => (((chk (decide (0 ≤ x3271) && decide (x3271 ≤ (l3268.length : Int))))).bind fun _ => (((chk (decide (0 ≤ x3271) && decide (x3271 ≤ (((clearT l3268 (Int.toNat x3271) zS)).length : Int))))).bind fun _ => some (((clearT l3268 (Int.toNat x3271) zS)).take (Int.toNat x3271)))))) else (m_slices_Compact_string_L1 a0 n2967 ((IntKind.i64.wrap (x2371 + 1))))))) else some a0)

noncomputable def m_slices_Compact_string (a0 : List ByteArray) : Option (List ByteArray) :=
  (if (decide (((a0.length : Int)) < 2)) then some a0 else m_slices_Compact_string_L1 a0 FUEL 1)

noncomputable def m_name_Set_L1  : List ByteArray → (List ByteArray) → Option (List ByteArray)
  | [], l90 => (((sortS l90)).bind fun r133 => (((m_slices_Compact_string r133)).bind fun r144 => some r144))
  | x68 :: xs69, l90 => (((m_name_Right x68)).bind fun r121 => (if r121 then (((appB 16 l90 ([x68]))).bind fun l127 => (m_name_Set_L1 xs69 l127)) else (m_name_Set_L1 xs69 l90)))

noncomputable def m_name_Set (a0 : List ByteArray) : Option (List ByteArray) :=
  m_name_Set_L1 a0 ([])

noncomputable def m_graph_Graph_Words_L1  : List (ByteArray × Bool) → (List ByteArray) → Option (List ByteArray)
  | [], l78 => (((m_name_Set l78)).bind fun r106 => some r106)
  | p57 :: ps58, l78 => ((((appB 16 l78 ([p57.1]))).bind fun l100 => some l100) : Option (List ByteArray)).bind fun l78 => m_graph_Graph_Words_L1 ps58 l78

noncomputable def m_graph_Graph_Words (a0_all : List Cred) (a0_targets : List (Role × Bool)) (a0_words : List (ByteArray × Bool)) (a0_relevant : List (Cred × Bool)) : Option (List ByteArray) :=
  allOrders a0_words (fun o => m_graph_Graph_Words_L1 o ([]))

noncomputable def m_law22_first  : Option Bool :=
  (((m_graph_New ([(⟨2, (⟨(⟨#[97]⟩ : ByteArray), (⟨#[114]⟩ : ByteArray)⟩ : Role), zS, (⟨(⟨#[98]⟩ : ByteArray), (⟨#[115]⟩ : ByteArray)⟩ : Role), (⟨zS, zS⟩ : Role), zS⟩ : Cred), (⟨1, (⟨(⟨#[99]⟩ : ByteArray), (⟨#[116]⟩ : ByteArray)⟩ : Role), (⟨#[100]⟩ : ByteArray), (⟨zS, zS⟩ : Role), (⟨zS, zS⟩ : Role), zS⟩ : Cred)]) ([(⟨(⟨#[97]⟩ : ByteArray), (⟨#[114]⟩ : ByteArray)⟩ : Role)]))).bind fun r11 => (((m_graph_Graph_Edges_w r11.1 r11.2.1 r11.2.2.1 r11.2.2.2)).bind fun r58 => (((m_graph_Graph_Edges_c1_s (fun (s : Int) (x : (Role × Role)) => m_law22_first_c1_w x.1 x.2 s ((⟨(⟨#[97]⟩ : ByteArray), (⟨#[114]⟩ : ByteArray)⟩ : Role)) ((⟨(⟨#[98]⟩ : ByteArray), (⟨#[115]⟩ : ByteArray)⟩ : Role))) 0 r11.1 r11.2.1 r11.2.2.1 r11.2.2.2)).bind fun r68 => (((((m_graph_Graph_Targets r11.1 r11.2.1 r11.2.2.1 r11.2.2.2)).bind fun r163 => (if (((r163.length : Int)) == 2) then (((m_graph_Graph_Words r11.1 r11.2.1 r11.2.2.1 r11.2.2.2)).bind fun r172 => (if (((r172.length : Int)) == 0) then (((m_graph_Graph_Relevant r11.1 r11.2.1 r11.2.2.1 r11.2.2.2)).bind fun r181 => (if (((r181.length : Int)) == 1) then (if (r68 == 1) then (((m_graph_Graph_Want_w r11.1 r11.2.1 r11.2.2.1 r11.2.2.2 ([(⟨(⟨#[99]⟩ : ByteArray), (⟨#[116]⟩ : ByteArray)⟩ : Role)]))).bind fun r196 => (if (r196.1 == 1) then (((m_graph_Graph_Relevant r11.1 r196.2.1 r196.2.2.1 r196.2.2.2)).bind fun r212 => (if (((r212.length : Int)) == 2) then (((m_graph_Graph_Want_w r11.1 r196.2.1 r196.2.2.1 r196.2.2.2 ([(⟨(⟨#[97]⟩ : ByteArray), (⟨#[114]⟩ : ByteArray)⟩ : Role)]))).bind fun r223 => some ((r223.1 == 0))) else some false)) else some false)) else some false) else some false)) else some false)) else some false)) : Option Bool).bind fun x155 => some x155))))

noncomputable def m_law05_Great_L1  : List Cred → Int → Option Int
  | [], x47 => some x47
  | x35 :: xs36, x47 => (m_law05_Great_L1 xs36 ((IntKind.i64.wrap (x47 + ((IntKind.i64.wrap (((IntKind.i64.wrap (((IntKind.i64.wrap (((IntKind.i64.wrap (((IntKind.i64.wrap (((IntKind.i64.wrap (((IntKind.i64.wrap (((IntKind.i64.wrap (20 + ((x35.Head.Owner.size : Int))))) + ((x35.Head.Word.size : Int))))) + ((x35.Who.size : Int))))) + ((x35.B.Owner.size : Int))))) + ((x35.B.Word.size : Int))))) + ((x35.C.Owner.size : Int))))) + ((x35.C.Word.size : Int))))) + ((x35.Word2.size : Int)))))))))

noncomputable def m_law05_Great (a0 : List Cred) : Option Int :=
  m_law05_Great_L1 a0 0

noncomputable def m_law22_great_L1  : List Role → Int → Option Bool
  | [], x47 => some (decide (x47 > 500))
  | x35 :: xs36, x47 => (m_law22_great_L1 xs36 ((IntKind.i64.wrap (x47 + ((IntKind.i64.wrap (((IntKind.i64.wrap (1 + ((x35.Owner.size : Int))))) + ((x35.Word.size : Int)))))))))

noncomputable def m_law22_great (a0 : List Role) : Option Bool :=
  m_law22_great_L1 a0 0

noncomputable def m_ref03_Right_L1 (a0 : ByteArray) : Nat → Int → Option Bool
  | 0, _ => none
  | n337 + 1, x274 => (if (decide (x274 < ((a0.size : Int)))) then (((((idxS a0 x274)).bind fun c372 => (((if (decide (((c372.toNat : Int)) < 97)) then (if (decide (((c372.toNat : Int)) < 48)) then some ((((c372.toNat : Int)) != 45)) else (if (decide (((c372.toNat : Int)) > 57)) then some ((((c372.toNat : Int)) != 45)) else some false)) else (if (decide (((c372.toNat : Int)) > 122)) then (if (decide (((c372.toNat : Int)) < 48)) then some ((((c372.toNat : Int)) != 45)) else (if (decide (((c372.toNat : Int)) > 57)) then some ((((c372.toNat : Int)) != 45)) else some false)) else some false)) : Option Bool).bind fun x380 => (if x380 then some (Sum.inl false) else some (Sum.inr ())))) : Option ((Bool ⊕ Unit))).bind fun s => match s with | .inl q396 => some q396 | .inr _ => (m_ref03_Right_L1 a0 n337 ((IntKind.i64.wrap (x274 + 1))))) else some true)

noncomputable def m_ref03_Right (a0 : ByteArray) : Option Bool :=
  (((if (beqS a0 zS) then some true else (if (decide (((a0.size : Int)) > 16)) then some true else (((idxS a0 0)).bind fun c402 => (if (decide (((c402.toNat : Int)) < 97)) then some true else (((idxS a0 0)).bind fun c405 => some ((decide (((c405.toNat : Int)) > 122)))))))) : Option Bool).bind fun x31 => (if x31 then some false else m_ref03_Right_L1 a0 FUEL 0))

noncomputable def m_ref04_Right (a0 : Role) : Option Bool :=
  (((((m_ref03_Right a0.Owner)).bind fun r17 => (if r17 then (((m_ref03_Right a0.Word)).bind fun r21 => some r21) else some false)) : Option Bool).bind fun x10 => some x10)

noncomputable def m_ref04_Less (a0 : Role) (a1 : Role) : Option Bool :=
  (((if (ltS a0.Owner a1.Owner) then some true else (if (beqS a0.Owner a1.Owner) then some ((ltS a0.Word a1.Word)) else some false)) : Option Bool).bind fun x7 => some x7)

noncomputable def m_ref05_Right (a0 : Cred) : Option Bool :=
  (((m_ref04_Right a0.Head)).bind fun r5 => (if (!r5) then some false else (if (a0.Kind == 1) then (((((m_ref03_Right a0.Who)).bind fun r23 => (if r23 then (if (beqRole a0.B ((⟨zS, zS⟩ : Role))) then (if (beqRole a0.C ((⟨zS, zS⟩ : Role))) then some ((beqS a0.Word2 zS)) else some false) else some false) else some false)) : Option Bool).bind fun x16 => some x16) else (((if (!(beqS a0.Who zS)) then some true else (((m_ref04_Right a0.B)).bind fun r115 => some ((!r115)))) : Option Bool).bind fun x51 => (if x51 then some false else (if (a0.Kind == 2) then (((if (beqRole a0.C ((⟨zS, zS⟩ : Role))) then some ((beqS a0.Word2 zS)) else some false) : Option Bool).bind fun x60 => some x60) else (if (a0.Kind == 3) then (((if (beqRole a0.C ((⟨zS, zS⟩ : Role))) then (if (beqS a0.B.Owner a0.Head.Owner) then (((m_ref03_Right a0.Word2)).bind fun r83 => some r83) else some false) else some false) : Option Bool).bind fun x74 => some x74) else (((if (a0.Kind == 4) then (if (beqS a0.Word2 zS) then (((m_ref04_Right a0.C)).bind fun r104 => (if r104 then (((m_ref04_Less a0.B a0.C)).bind fun r108 => some r108) else some false)) else some false) else some false) : Option Bool).bind fun x95 => some x95))))))))

noncomputable def m_ref01_Number_L1  : Nat → Int → ByteArray → Option ByteArray
  | 0, _, _ => none
  | n45 + 1, x32, x33 => (if (decide (x32 ≥ 128)) then (((catS x33 ((strI ([(IntKind.u8.wrap ((IntKind.i64.wrap (128 + ((Int.tmod x32 128))))))]))))).bind fun s51 => (m_ref01_Number_L1 n45 ((IntKind.i64.wrap (Int.tdiv x32 128))) s51)) else (((catS x33 ((strI ([(IntKind.u8.wrap x32)]))))).bind fun s55 => some s55))

noncomputable def m_ref01_Number (a0 : Int) : Option ByteArray :=
  m_ref01_Number_L1 FUEL a0 zS

noncomputable def m_ref01_Text (a0 : ByteArray) : Option ByteArray :=
  (((m_ref01_Number ((a0.size : Int)))).bind fun r1 => (((catS r1 a0)).bind fun s4 => some s4))

noncomputable def m_ref04_Bytes (a0 : Role) : Option ByteArray :=
  (((m_ref01_Text a0.Owner)).bind fun r11 => (((m_ref01_Text a0.Word)).bind fun r14 => (((catS r11 r14)).bind fun s17 => some s17)))

noncomputable def m_ref05_Bytes (a0 : Cred) : Option ByteArray :=
  (((m_ref01_Number a0.Kind)).bind fun r11 => (((m_ref04_Bytes a0.Head)).bind fun r14 => (((catS r11 r14)).bind fun s17 => (if (a0.Kind == 1) then (((m_ref01_Text a0.Who)).bind fun r20 => (((catS s17 r20)).bind fun s23 => some s23)) else (((m_ref04_Bytes a0.B)).bind fun r25 => (((catS s17 r25)).bind fun s28 => (((if (a0.Kind == 3) then (((m_ref01_Text a0.Word2)).bind fun r64 => (((catS s28 r64)).bind fun s67 => some s67)) else some s28) : Option ByteArray).bind fun x36 => (((if (a0.Kind == 4) then (((m_ref04_Bytes a0.C)).bind fun r55 => (((catS x36 r55)).bind fun s58 => some s58)) else some x36) : Option ByteArray).bind fun x47 => some x47))))))))

noncomputable def m_ref05_bytes (a0 : Cred) : Option ByteArray :=
  (((m_ref05_Right a0)).bind fun r3 => (if (!r3) then some zS else (((m_ref05_Bytes a0)).bind fun r7 => some r7)))

noncomputable def m_ref05_Compare (a0 : Cred) (a1 : Cred) : Option Int :=
  (((m_ref05_bytes a0)).bind fun r5 => (((m_ref05_bytes a1)).bind fun r8 => (if (ltS r5 r8) then some (-1) else (if (!(ltS r5 r8 || beqS r5 r8)) then some 1 else some 0))))

noncomputable def m_ref05_Set_L2 (l2953 : List Cred) : List Cred → Bool → Cred → Option ((Bool × Cred))
  | [], x4197, x4198 => some (x4197, x4198)
  | x4080 :: xs4081, x4197, x4198 => (((((m_ref05_Right x4080)).bind fun r4413 => (if r4413 then (if (((l2953.length : Int)) == 0) then (if (!x4197) then some true else (((m_ref05_Compare x4080 x4198)).bind fun r4419 => some ((decide (r4419 < 0))))) else (((idx l2953 ((IntKind.i64.wrap (((l2953.length : Int)) - 1))))).bind fun x4425 => (((m_ref05_Compare x4425 x4080)).bind fun r4427 => (if (decide (r4427 < 0)) then (if (!x4197) then some true else (((m_ref05_Compare x4080 x4198)).bind fun r4432 => some ((decide (r4432 < 0))))) else some false)))) else some false)) : Option Bool).bind fun x4374 => (if x4374 then (m_ref05_Set_L2 l2953 xs4081 true x4080) else (m_ref05_Set_L2 l2953 xs4081 x4197 x4198)))

noncomputable def m_ref05_Set_L1 (a0 : List Cred) : Nat → (List Cred) → Option (List Cred)
  | 0, _ => none
  | n3698 + 1, l2953 => ((m_ref05_Set_L2 l2953 a0 false ((⟨0, (⟨zS, zS⟩ : Role), zS, (⟨zS, zS⟩ : Role), (⟨zS, zS⟩ : Role), zS⟩ : Cred)) : Option ((Bool × Cred))).bind fun (x4059, x4060) => (if (!x4059) then some l2953 else (((appB 136 l2953 ([x4060]))).bind fun l4070 => (m_ref05_Set_L1 a0 n3698 l4070))))

noncomputable def m_ref05_Set (a0 : List Cred) : Option (List Cred) :=
  m_ref05_Set_L1 a0 FUEL ([])

noncomputable def m_ref04_Set_L2 (l2953 : List Role) : List Role → Bool → Role → Option ((Bool × Role))
  | [], x4197, x4198 => some (x4197, x4198)
  | x4080 :: xs4081, x4197, x4198 => (((((m_ref04_Right x4080)).bind fun r4413 => (if r4413 then (if (((l2953.length : Int)) == 0) then (if (!x4197) then some true else (((m_ref04_Less x4080 x4198)).bind fun r4419 => some r4419)) else (((idx l2953 ((IntKind.i64.wrap (((l2953.length : Int)) - 1))))).bind fun x4425 => (((m_ref04_Less x4425 x4080)).bind fun r4427 => (if r4427 then (if (!x4197) then some true else (((m_ref04_Less x4080 x4198)).bind fun r4432 => some r4432)) else some false)))) else some false)) : Option Bool).bind fun x4374 => (if x4374 then (m_ref04_Set_L2 l2953 xs4081 true x4080) else (m_ref04_Set_L2 l2953 xs4081 x4197 x4198)))

noncomputable def m_ref04_Set_L1 (a0 : List Role) : Nat → (List Role) → Option (List Role)
  | 0, _ => none
  | n3698 + 1, l2953 => ((m_ref04_Set_L2 l2953 a0 false ((⟨zS, zS⟩ : Role)) : Option ((Bool × Role))).bind fun (x4059, x4060) => (if (!x4059) then some l2953 else (((appB 32 l2953 ([x4060]))).bind fun l4070 => (m_ref04_Set_L1 a0 n3698 l4070))))

noncomputable def m_ref04_Set (a0 : List Role) : Option (List Role) :=
  m_ref04_Set_L1 a0 FUEL ([])

noncomputable def m_ref05_Has_L1 (a1 : Cred) : List Cred → Option Bool
  | [] => some false
  | x38 :: xs39 => (if (beqCred x38 a1) then some true else (m_ref05_Has_L1 a1 xs39))

noncomputable def m_ref05_Has (a0 : List Cred) (a1 : Cred) : Option Bool :=
  m_ref05_Has_L1 a1 a0

noncomputable def m_ref04_Has_L1 (a1 : Role) : List Role → Option Bool
  | [] => some false
  | x38 :: xs39 => (if (beqRole x38 a1) then some true else (m_ref04_Has_L1 a1 xs39))

noncomputable def m_ref04_Has (a0 : List Role) (a1 : Role) : Option Bool :=
  m_ref04_Has_L1 a1 a0

noncomputable def m_ref03_Has_L1 (a1 : ByteArray) : List ByteArray → Option Bool
  | [] => some false
  | x27 :: xs28 => (if (beqS x27 a1) then some true else (m_ref03_Has_L1 a1 xs28))

noncomputable def m_ref03_Has (a0 : List ByteArray) (a1 : ByteArray) : Option Bool :=
  m_ref03_Has_L1 a1 a0

noncomputable def m_ref03_Set_L2 (l1297 : List ByteArray) : List ByteArray → ByteArray → Option ByteArray
  | [], x1851 => some x1851
  | x1801 :: xs1802, x1851 => (((((m_ref03_Right x1801)).bind fun r1938 => (if r1938 then (if (((l1297.length : Int)) == 0) then (if (beqS x1851 zS) then some true else some ((ltS x1801 x1851))) else (((idx l1297 ((IntKind.i64.wrap (((l1297.length : Int)) - 1))))).bind fun x1947 => (if (!(ltS x1801 x1947 || beqS x1801 x1947)) then (if (beqS x1851 zS) then some true else some ((ltS x1801 x1851))) else some false))) else some false)) : Option Bool).bind fun x1923 => (if x1923 then (m_ref03_Set_L2 l1297 xs1802 x1801) else (m_ref03_Set_L2 l1297 xs1802 x1851)))

noncomputable def m_ref03_Set_L1 (a0 : List ByteArray) : Nat → (List ByteArray) → Option (List ByteArray)
  | 0, _ => none
  | n1628 + 1, l1297 => ((m_ref03_Set_L2 l1297 a0 zS : Option ByteArray).bind fun x1782 => (if (beqS x1782 zS) then some l1297 else (((appB 16 l1297 ([x1782]))).bind fun l1791 => (m_ref03_Set_L1 a0 n1628 l1791))))

noncomputable def m_ref03_Set (a0 : List ByteArray) : Option (List ByteArray) :=
  m_ref03_Set_L1 a0 FUEL ([])

noncomputable def m_ref22_Of_L2  : List Cred → Bool → (List Role) → (List ByteArray) → (List Cred) → Option ((Bool × (List Role) × (List ByteArray) × (List Cred)))
  | [], x8112, l8114, l8118, l8122 => some (x8112, l8114, l8118, l8122)
  | x7900 :: xs7901, x8112, l8114, l8118, l8122 => (((((((m_ref05_Has l8122 x7900)).bind fun r8550 => (if r8550 then some true else (((m_ref04_Has l8114 x7900.Head)).bind fun r8554 => (if (!r8554) then (((m_ref03_Has l8118 x7900.Head.Word)).bind fun r8558 => some ((!r8558))) else some false)))) : Option Bool).bind fun x8531 => (if x8531 then (((m_ref22_Of_L2 xs7901 x8112 l8114 l8118 l8122) : Option ((Bool × (List Role) × (List ByteArray) × (List Cred)))).bind fun q8544 => some (Sum.inl q8544)) else some (Sum.inr ()))) : Option ((((Bool × (List Role) × (List ByteArray) × (List Cred))) ⊕ Unit))).bind fun s => match s with | .inl q8561 => some q8561 | .inr _ => (((appB 136 l8122 ([x7900]))).bind fun l8414 => (((if (decide (x7900.Kind > 1)) then (((appB 32 l8114 ([x7900.B]))).bind fun l8508 => some l8508) else some l8114) : Option (List Role)).bind fun l8436 => (((if (x7900.Kind == 4) then (((appB 32 l8436 ([x7900.C]))).bind fun l8493 => some l8493) else some l8436) : Option (List Role)).bind fun l8462 => (if (x7900.Kind == 3) then (((appB 16 l8118 ([x7900.Word2]))).bind fun l8478 => (m_ref22_Of_L2 xs7901 true l8462 l8478 l8414)) else (m_ref22_Of_L2 xs7901 true l8462 l8118 l8414))))))

noncomputable def m_ref22_Of_L1 (r3 : List Cred) : Nat → (List Role) → (List ByteArray) → (List Cred) → Option (((List Role) × (List ByteArray) × (List Cred)))
  | 0, _, _, _ => none
  | n7146 + 1, l5706, l5710, l5714 => ((m_ref22_Of_L2 r3 false l5706 l5710 l5714 : Option ((Bool × (List Role) × (List ByteArray) × (List Cred)))).bind fun (x7813, l7815, l7819, l7823) => (if (!x7813) then (((m_ref04_Set l7815)).bind fun r7864 => (((m_ref03_Set l7819)).bind fun r7872 => (((m_ref05_Set l7823)).bind fun r7880 => some (r7864, r7872, r7880)))) else (m_ref22_Of_L1 r3 n7146 l7815 l7819 l7823)))

noncomputable def m_ref22_Of (a0 : List Cred) (a1 : List Role) : Option (((List Role) × (List ByteArray) × (List Cred))) :=
  (((m_ref05_Set a0)).bind fun r3 => (((m_ref04_Set a1)).bind fun r11 => m_ref22_Of_L1 r3 FUEL r11 ([]) ([])))

noncomputable def m_ref04_Same_L1 (a1 : List Role) : List Role → Nat → Option Bool
  | [], _ => some true
  | x67 :: xs68, i66 => (((idx a1 ((i66 : Int)))).bind fun x127 => (if (!(beqRole x67 x127)) then some false else (m_ref04_Same_L1 a1 xs68 (i66 + 1))))

noncomputable def m_ref04_Same (a0 : List Role) (a1 : List Role) : Option Bool :=
  (if (((a0.length : Int)) != ((a1.length : Int))) then some false else m_ref04_Same_L1 a1 a0 0)

noncomputable def m_ref03_Same_L1 (a1 : List ByteArray) : List ByteArray → Nat → Option Bool
  | [], _ => some true
  | x67 :: xs68, i66 => (((idx a1 ((i66 : Int)))).bind fun x127 => (if (!(beqS x67 x127)) then some false else (m_ref03_Same_L1 a1 xs68 (i66 + 1))))

noncomputable def m_ref03_Same (a0 : List ByteArray) (a1 : List ByteArray) : Option Bool :=
  (if (((a0.length : Int)) != ((a1.length : Int))) then some false else m_ref03_Same_L1 a1 a0 0)

noncomputable def m_ref05_Same_L1 (a1 : List Cred) : List Cred → Nat → Option Bool
  | [], _ => some true
  | x67 :: xs68, i66 => (((idx a1 ((i66 : Int)))).bind fun x127 => (if (!(beqCred x67 x127)) then some false else (m_ref05_Same_L1 a1 xs68 (i66 + 1))))

noncomputable def m_ref05_Same (a0 : List Cred) (a1 : List Cred) : Option Bool :=
  (if (((a0.length : Int)) != ((a1.length : Int))) then some false else m_ref05_Same_L1 a1 a0 0)

noncomputable def m_graph_Graph_Want_nil (a1 : List Role) : Option Int :=
  some 0

noncomputable def m_graph_Graph_Targets_nil  : Option (List Role) :=
  some []

noncomputable def m_graph_Graph_Words_nil  : Option (List ByteArray) :=
  some []

noncomputable def m_graph_Graph_Relevant_nil  : Option (List Cred) :=
  some []

noncomputable def m_law22_GraphTells (a0 : List Cred) (a1 : List Role) (a2 : List Role) : Option Bool :=
  (m_law22_first.bind fun r1 => (if (!r1) then some false else (((((m_law05_Great a0)).bind fun r864 => (if (decide (r864 > 1500)) then some true else (((m_law22_great a1)).bind fun r868 => (if r868 then some true else (((m_law22_great a2)).bind fun r872 => some r872))))) : Option Bool).bind fun x49 => (if x49 then some true else (((m_ref22_Of a0 a1)).bind fun r57 => (((appB 32 ([]) a1)).bind fun l86 => (((appB 32 l86 a2)).bind fun l92 => (((m_ref22_Of a0 l92)).bind fun r98 => (((m_graph_New a0 a1)).bind fun r125 => (((((m_graph_Graph_Targets r125.1 r125.2.1 r125.2.2.1 r125.2.2.2)).bind fun r810 => (((m_ref04_Same r810 r57.1)).bind fun r818 => (if (!r818) then some (true, r125.2.1, r125.2.2.1, r125.2.2.2) else (((m_graph_Graph_Words r125.1 r125.2.1 r125.2.2.1 r125.2.2.2)).bind fun r822 => (((m_ref03_Same r822 r57.2.1)).bind fun r830 => (if (!r830) then some (true, r125.2.1, r125.2.2.1, r125.2.2.2) else (((m_graph_Graph_Relevant r125.1 r125.2.1 r125.2.2.1 r125.2.2.2)).bind fun r834 => (((m_ref05_Same r834 r57.2.2)).bind fun r842 => (if (!r842) then some (true, r125.2.1, r125.2.2.1, r125.2.2.2) else (((m_graph_Graph_Want_w r125.1 r125.2.1 r125.2.2.1 r125.2.2.2 a2)).bind fun r846 => some (((r846.1 != ((IntKind.i64.wrap (((r98.2.2.length : Int)) - ((r57.2.2.length : Int))))))), r846.2.1, r846.2.2.1, r846.2.2.2))))))))))) : Option ((Bool × (List (Role × Bool)) × (List (ByteArray × Bool)) × (List (Cred × Bool))))).bind fun (x477, l478, l481, l484) => (if x477 then some false else (((((m_graph_Graph_Targets r125.1 l478 l481 l484)).bind fun r693 => (((m_ref04_Same r693 r98.1)).bind fun r701 => (if r701 then (((m_graph_Graph_Words r125.1 l478 l481 l484)).bind fun r705 => (((m_ref03_Same r705 r98.2.1)).bind fun r713 => (if r713 then (((m_graph_Graph_Relevant r125.1 l478 l481 l484)).bind fun r717 => (((m_ref05_Same r717 r98.2.2)).bind fun r725 => (if r725 then (((m_graph_Graph_Want_nil a1)).bind fun r729 => (m_graph_Graph_Targets_nil.bind fun r732 => (m_graph_Graph_Words_nil.bind fun r740 => (m_graph_Graph_Relevant_nil.bind fun r748 => some ((((IntKind.i64.wrap (((IntKind.i64.wrap (((IntKind.i64.wrap (r729 + ((r732.length : Int))))) + ((r740.length : Int))))) + ((r748.length : Int))))) == 0)))))) else some false))) else some false))) else some false))) : Option Bool).bind fun x622 => some x622))))))))))))

noncomputable def m_ref22_Edges_L1  : List Cred → (List Arr2Role) → Option (List Arr2Role)
  | [], l226 => some l226
  | x172 :: xs173, l226 => (((if (decide (x172.Kind > 1)) then (((appB 64 l226 ([(⟨x172.Head, x172.B⟩ : Arr2Role)]))).bind fun l327 => some l327) else some l226) : Option (List Arr2Role)).bind fun l302 => (if (x172.Kind == 4) then (((appB 64 l302 ([(⟨x172.Head, x172.C⟩ : Arr2Role)]))).bind fun l315 => (m_ref22_Edges_L1 xs173 l315)) else (m_ref22_Edges_L1 xs173 l302)))

noncomputable def m_ref22_Edges (a0_Roles : List Role) (a0_Words : List ByteArray) (a0_Relevant : List Cred) : Option (List Arr2Role) :=
  m_ref22_Edges_L1 a0_Relevant ([])

noncomputable def m_law22_GraphEdges_c1_w (a0 : Role) (a1 : Role) (c0 : Bool) (c1 : Int) (c2 : List Arr2Role) (c3 : Int) : Option ((Bool × Bool × Int)) :=
  (((if c0 then (if (decide (c1 < ((c2.length : Int)))) then (((idx c2 c1)).bind fun x49 => some ((beqArr2Role x49 ((⟨a0, a1⟩ : Arr2Role))))) else some false) else some false) : Option Bool).bind fun x25 => some ((decide (((IntKind.i64.wrap (c1 + 1))) ≤ ((IntKind.i64.wrap c3)))), x25, (IntKind.i64.wrap (c1 + 1))))

noncomputable def m_law22_GraphEdges (a0 : List Cred) (a1 : List Role) (a2 : Int) : Option Bool :=
  (m_law22_first.bind fun r3 => (if (!r3) then some false else (((((m_law05_Great a0)).bind fun r140 => (if (decide (r140 > 1500)) then some true else (((m_law22_great a1)).bind fun r144 => some r144))) : Option Bool).bind fun x39 => (if x39 then some true else (((m_ref22_Of a0 a1)).bind fun r47 => (((m_ref22_Edges r47.1 r47.2.1 r47.2.2)).bind fun r65 => (((m_graph_New a0 a1)).bind fun r84 => (((m_graph_Graph_Edges_w r84.1 r84.2.1 r84.2.2.1 r84.2.2.2)).bind fun r107 => (((m_graph_Graph_Edges_c1_s (fun (s : (Bool × Int)) (x : (Role × Role)) => m_law22_GraphEdges_c1_w x.1 x.2 s.1 s.2 r65 a2) ((true, 0)) r84.1 r84.2.1 r84.2.2.1 r84.2.2.2)).bind fun r117 => (((if r117.1 then some ((r117.2 == ((if (IntKind.i64.wrap (((IntKind.i64.wrap a2)) + 1)) < (r65.length : Int) then (IntKind.i64.wrap (((IntKind.i64.wrap a2)) + 1)) else (r65.length : Int))))) else some false) : Option Bool).bind fun x129 => some x129))))))))))
end Go.Proofs.YtfjdjbdnnoijgaaGreat
