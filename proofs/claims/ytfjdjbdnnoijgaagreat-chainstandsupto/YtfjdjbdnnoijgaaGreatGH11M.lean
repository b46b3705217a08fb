/- a part of a proof of ChainStands -/
import Derived.Test.YtfjdjbdnnoijgaaGreatLs
set_option linter.all false
namespace Go.Proofs.YtfjdjbdnnoijgaaGreat
open Go.RowKit
set_option maxRecDepth 10000
structure Role where
  Owner : ByteArray
  Word : ByteArray
def encRole (x : Role) : List Value := [.string x.Owner, .string x.Word]
def beqRole (x y : Role) : Bool := (beqS x.Owner y.Owner) && ((beqS x.Word y.Word) && true)
theorem beqRole_iff {x y : Role} : beqRole x y = true ↔ x = y := by
  cases x; cases y; simp [beqRole, beqS_iff]
theorem oneRole (x : Role) : ∀ u ∈ encRole x, u.oneCell' = true := by
  intro u hu
  simp only [encRole, List.mem_cons, List.not_mem_nil, or_false] at hu
  rcases hu with rfl | rfl <;> rfl
structure Cred where
  Kind : Int
  Head : Role
  Who : ByteArray
  B : Role
  C : Role
  Word2 : ByteArray
def encCred (x : Cred) : List Value := [.int .i64 x.Kind, .string x.Head.Owner, .string x.Head.Word, .string x.Who, .string x.B.Owner, .string x.B.Word, .string x.C.Owner, .string x.C.Word, .string x.Word2]
def beqCred (x y : Cred) : Bool := (x.Kind == y.Kind) && ((beqRole x.Head y.Head) && ((beqS x.Who y.Who) && ((beqRole x.B y.B) && ((beqRole x.C y.C) && ((beqS x.Word2 y.Word2) && true)))))
theorem beqCred_iff {x y : Cred} : beqCred x y = true ↔ x = y := by
  cases x; cases y; simp [beqCred, beqS_iff, beqRole_iff]
theorem lenCred (x : Cred) : (encCred x).length = 9 := rfl
theorem oneCred (x : Cred) : ∀ u ∈ encCred x, u.oneCell' = true := by
  intro u hu
  simp only [encCred, List.mem_cons, List.not_mem_nil, or_false] at hu
  rcases hu with rfl | rfl | rfl | rfl | rfl | rfl | rfl | rfl | rfl <;> rfl
structure Fact where
  Role : Role
  Who : ByteArray
def encFact (x : Fact) : List Value := [.string x.Role.Owner, .string x.Role.Word, .string x.Who]
def beqFact (x y : Fact) : Bool := (beqRole x.Role y.Role) && ((beqS x.Who y.Who) && true)
theorem beqFact_iff {x y : Fact} : beqFact x y = true ↔ x = y := by
  cases x; cases y; simp [beqFact, beqS_iff, beqRole_iff]
theorem lenFact (x : Fact) : (encFact x).length = 3 := rfl
theorem oneFact (x : Fact) : ∀ u ∈ encFact x, u.oneCell' = true := by
  intro u hu
  simp only [encFact, List.mem_cons, List.not_mem_nil, or_false] at hu
  rcases hu with rfl | rfl | rfl <;> rfl
structure Step where
  Cred : Cred
  Fact : Fact
def encStep (x : Step) : List Value := [.int .i64 x.Cred.Kind, .string x.Cred.Head.Owner, .string x.Cred.Head.Word, .string x.Cred.Who, .string x.Cred.B.Owner, .string x.Cred.B.Word, .string x.Cred.C.Owner, .string x.Cred.C.Word, .string x.Cred.Word2, .string x.Fact.Role.Owner, .string x.Fact.Role.Word, .string x.Fact.Who]
def beqStep (x y : Step) : Bool := (beqCred x.Cred y.Cred) && ((beqFact x.Fact y.Fact) && true)
theorem beqStep_iff {x y : Step} : beqStep x y = true ↔ x = y := by
  cases x; cases y; simp [beqStep, beqS_iff, beqCred_iff, beqFact_iff]
theorem lenStep (x : Step) : (encStep x).length = 12 := rfl
theorem oneStep (x : Step) : ∀ u ∈ encStep x, u.oneCell' = true := by
  intro u hu
  simp only [encStep, List.mem_cons, List.not_mem_nil, or_false] at hu
  rcases hu with rfl | rfl | rfl | rfl | rfl | rfl | rfl | rfl | rfl | rfl | rfl | rfl <;> rfl
structure TapePen where
  b : List Int
noncomputable def m_slices_Clone_Cred (a0 : List Cred) : Option (List Cred) :=
  (((appB 136 ([]) a0)).bind fun l8 => some l8)
noncomputable def m_slices_IndexFunc_Cred_L1 (f1 : Cred → Option Bool) : List Cred → Nat → Option Int
  | [], _ => some (-1)
  | x36 :: xs37, i35 => (((f1 x36)).bind fun r65 => (if r65 then some (i35 : Int) else (m_slices_IndexFunc_Cred_L1 f1 xs37 (i35 + 1))))
noncomputable def m_slices_IndexFunc_Cred (a0 : List Cred) (f1 : Cred → Option Bool) : Option Int :=
  m_slices_IndexFunc_Cred_L1 f1 a0 0
noncomputable def m_slices_DeleteFunc_Cred_L1 (f1 : Cred → Option Bool) : Nat → (List Cred) → Int → Int → Option (List Cred)
  | 0, _, _, _ => none
  | n321 + 1, l249, x252, x253 => (if (decide (x253 < ((l249.length : Int)))) then (((((idx l249 x253)).bind fun x364 => (((f1 x364)).bind fun r369 => (if (!r369) then (((idx l249 x252)).bind fun x376 => some (((l249.set (Int.toNat x252) x364)), ((IntKind.i64.wrap (x252 + 1))))) else some (l249, x252)))) : Option (((List Cred) × Int))).bind fun (l348, x351) => (m_slices_DeleteFunc_Cred_L1 f1 n321 l348 x351 ((IntKind.i64.wrap (x253 + 1))))) else (((chk (decide (0 ≤ x252) && decide (x252 ≤ (l249.length : Int))))).bind fun _ => (((chk (decide (0 ≤ x252) && decide (x252 ≤ (((clearT l249 (Int.toNat x252) (⟨0, (⟨zS, zS⟩ : Role), zS, (⟨zS, zS⟩ : Role), (⟨zS, zS⟩ : Role), zS⟩ : Cred))).length : Int))))).bind fun _ => some (((clearT l249 (Int.toNat x252) (⟨0, (⟨zS, zS⟩ : Role), zS, (⟨zS, zS⟩ : Role), (⟨zS, zS⟩ : Role), zS⟩ : Cred))).take (Int.toNat x252)))))
noncomputable def m_slices_DeleteFunc_Cred (a0 : List Cred) (f1 : Cred → Option Bool) : Option (List Cred) :=
  (((m_slices_IndexFunc_Cred a0 f1)).bind fun r1 => (if (r1 == ((-1))) then some a0 else m_slices_DeleteFunc_Cred_L1 f1 FUEL a0 r1 ((IntKind.i64.wrap (r1 + 1)))))
noncomputable def m_internal_stringslite_IndexByte (a0 : ByteArray) (a1 : Int) : Option Int :=
  some (xIndexByte a0 a1)
noncomputable def m_strings_IndexByte (a0 : ByteArray) (a1 : Int) : Option Int :=
  (((m_internal_stringslite_IndexByte a0 a1)).bind fun r1 => some r1)
noncomputable def m_name_only_L1  : List Int → Option Bool
  | [] => some true
  | x42 :: xs43 => (((m_strings_IndexByte ((⟨#[97, 98, 99, 100, 101, 102, 103, 104, 105, 106, 107, 108, 109, 110, 111, 112, 113, 114, 115, 116, 117, 118, 119, 120, 121, 122, 48, 49, 50, 51, 52, 53, 54, 55, 56, 57, 45]⟩ : ByteArray)) x42)).bind fun r69 => (if (decide (r69 < 0)) then some false else (m_name_only_L1 xs43)))
noncomputable def m_name_only (a0 : ByteArray) : Option Bool :=
  (((bytesB a0)).bind fun l1 => m_name_only_L1 l1)
noncomputable def m_name_Right (a0 : ByteArray) : Option Bool :=
  (((if (decide (((a0.size : Int)) ≥ 1)) then some ((decide (((a0.size : Int)) ≤ 16))) else some false) : Option Bool).bind fun x2 => (((if x2 then (((idxS a0 0)).bind fun c40 => (((m_strings_IndexByte ((⟨#[97, 98, 99, 100, 101, 102, 103, 104, 105, 106, 107, 108, 109, 110, 111, 112, 113, 114, 115, 116, 117, 118, 119, 120, 121, 122]⟩ : ByteArray)) ((c40.toNat : Int)))).bind fun r42 => some ((decide (r42 ≥ 0))))) else some false) : Option Bool).bind fun x14 => (((if x14 then (((m_name_only a0)).bind fun r33 => some r33) else some false) : Option Bool).bind fun x24 => some x24)))
noncomputable def m_role_Right (a0 : Role) : Option Bool :=
  (((m_name_Right a0.Owner)).bind fun r3 => (((if r3 then (((m_name_Right a0.Word)).bind fun r19 => some r19) else some false) : Option Bool).bind fun x10 => some x10))
noncomputable def m_internal_bytealg_CompareString (a0 : ByteArray) (a1 : ByteArray) : Option Int :=
  some (xCompareS a0 a1)
noncomputable def m_strings_Compare (a0 : ByteArray) (a1 : ByteArray) : Option Int :=
  (((m_internal_bytealg_CompareString a0 a1)).bind fun r1 => some r1)
noncomputable def m_cmp_Or_int_L1  : List Int → Option Int
  | [] => some 0
  | x27 :: xs28 => (if (x27 != 0) then some x27 else (m_cmp_Or_int_L1 xs28))
noncomputable def m_cmp_Or_int (a0 : List Int) : Option Int :=
  m_cmp_Or_int_L1 a0
noncomputable def m_role_Compare (a0 : Role) (a1 : Role) : Option Int :=
  (((m_strings_Compare a0.Owner a1.Owner)).bind fun r27 => (((m_strings_Compare a0.Word a1.Word)).bind fun r30 => (((m_cmp_Or_int ([r27, r30]))).bind fun r35 => some r35)))
noncomputable def m_cred_Right (a0 : Cred) : Option Bool :=
  (((m_role_Right a0.Head)).bind fun r6 => (((if (a0.Kind == 1) then (((if r6 then (((m_name_Right a0.Who)).bind fun r330 => some r330) else some false) : Option Bool).bind fun x316 => some (Sum.inr (x316, ((⟨a0.Kind, a0.Head, a0.Who, (⟨zS, zS⟩ : Role), (⟨zS, zS⟩ : Role), zS⟩ : Cred))))) else (if (a0.Kind == 2) then (((if r6 then (((m_role_Right a0.B)).bind fun r393 => some r393) else some false) : Option Bool).bind fun x379 => some (Sum.inr (x379, ((⟨a0.Kind, a0.Head, zS, a0.B, (⟨zS, zS⟩ : Role), zS⟩ : Cred))))) else (if (a0.Kind == 3) then (((if r6 then (((m_role_Right a0.B)).bind fun r448 => some r448) else some false) : Option Bool).bind fun x407 => (((if x407 then some ((beqS a0.B.Owner a0.Head.Owner)) else some false) : Option Bool).bind fun x415 => (((if x415 then (((m_name_Right a0.Word2)).bind fun r437 => some r437) else some false) : Option Bool).bind fun x426 => some (Sum.inr (x426, ((⟨a0.Kind, a0.Head, zS, a0.B, (⟨zS, zS⟩ : Role), a0.Word2⟩ : Cred))))))) else (if (a0.Kind == 4) then (((if r6 then (((m_role_Right a0.B)).bind fun r509 => some r509) else some false) : Option Bool).bind fun x462 => (((if x462 then (((m_role_Right a0.C)).bind fun r502 => some r502) else some false) : Option Bool).bind fun x473 => (((if x473 then (((m_role_Compare a0.B a0.C)).bind fun r495 => some ((decide (r495 < 0)))) else some false) : Option Bool).bind fun x484 => some (Sum.inr (x484, ((⟨a0.Kind, a0.Head, zS, a0.B, a0.C, zS⟩ : Cred))))))) else some (Sum.inl false))))) : Option ((Bool ⊕ ((Bool × Cred))))).bind fun s => match s with | .inl q512 => some q512 | .inr (x251, x252) => (((if x251 then some ((beqCred x252 a0)) else some false) : Option Bool).bind fun x259 => some x259)))
noncomputable def m_cred_Set_c1 (a0 : Cred) : Option Bool :=
  (((m_cred_Right a0)).bind fun r3 => some (!r3))
noncomputable def m_tape_Pen_Number_w_L1  : Nat → Int → (List Int) → Option ((Bool × (List Int)))
  | 0, _, _ => none
  | n93 + 1, x67, l69 => (if (decide (x67 ≥ 128)) then (((appB 1 l69 ([(IntKind.u8.wrap (BitVec.ofInt (IntKind.bits .u8) ((IntKind.u8.wrap x67)) ||| BitVec.ofInt (IntKind.bits .u8) 128).toNat)]))).bind fun l99 => (m_tape_Pen_Number_w_L1 n93 ((Int.fdiv x67 (2 ^ min (Int.toNat 7) (IntKind.bits .i64)))) l99)) else (((appB 1 l69 ([(IntKind.u8.wrap x67)]))).bind fun l110 => some (true, l110)))
noncomputable def m_tape_Pen_Number_w (a0_b : List Int) (a1 : Int) : Option ((Bool × (List Int))) :=
  (if (decide (a1 < 0)) then some (false, a0_b) else m_tape_Pen_Number_w_L1 FUEL a1 a0_b)
noncomputable def m_tape_Pen_Text_w (a0_b : List Int) (a1 : List Int) : Option ((Bool × (List Int))) :=
  (if (decide (((a1.length : Int)) > 2048)) then some (false, a0_b) else (((m_tape_Pen_Number_w a0_b ((a1.length : Int)))).bind fun r2 => (((appB 1 r2.2 a1)).bind fun l14 => some (true, l14))))
noncomputable def m_name_Put_w (a0_b : List Int) (a1 : ByteArray) : Option ((Bool × (List Int))) :=
  (((m_name_Right a1)).bind fun r1 => (((if r1 then (((bytesB a1)).bind fun l40 => (((m_tape_Pen_Text_w a0_b l40)).bind fun r48 => some (r48.1, r48.2))) else some (false, a0_b)) : Option ((Bool × (List Int)))).bind fun (x26, l28) => some (x26, l28)))
noncomputable def m_role_Put_w (a0_b : List Int) (a1 : Role) : Option ((Bool × (List Int))) :=
  (((m_role_Right a1)).bind fun r3 => (((if r3 then (((m_name_Put_w a0_b a1.Owner)).bind fun r76 => some (r76.1, r76.2)) else some (false, a0_b)) : Option ((Bool × (List Int)))).bind fun (x20, l22) => (((if x20 then (((m_name_Put_w l22 a1.Word)).bind fun r60 => some (r60.1, r60.2)) else some (false, l22)) : Option ((Bool × (List Int)))).bind fun (x46, l48) => some (x46, l48))))
noncomputable def m_bytes_Clone (a0 : List Int) : Option (List Int) :=
  (((appB 1 ([]) a0)).bind fun l8 => some l8)
noncomputable def m_tape_Pen_Bytes (a0_b : List Int) : Option (List Int) :=
  (((m_bytes_Clone a0_b)).bind fun r4 => some r4)
noncomputable def m_cred_Bytes (a0 : Cred) : Option (List Int) :=
  (((m_cred_Right a0)).bind fun r3 => (if (!r3) then some [] else (((m_tape_Pen_Number_w ([]) a0.Kind)).bind fun r9 => (((m_role_Put_w r9.2 a0.Head)).bind fun r21 => (((if (a0.Kind == 1) then (((m_name_Put_w r21.2 a0.Who)).bind fun r130 => some r130.2) else (if (a0.Kind == 2) then (((m_role_Put_w r21.2 a0.B)).bind fun r143 => some r143.2) else (if (a0.Kind == 3) then (((m_role_Put_w r21.2 a0.B)).bind fun r156 => (((m_name_Put_w r156.2 a0.Word2)).bind fun r168 => some r168.2)) else (if (a0.Kind == 4) then (((m_role_Put_w r21.2 a0.B)).bind fun r181 => (((m_role_Put_w r181.2 a0.C)).bind fun r193 => some r193.2)) else some r21.2)))) : Option (List Int)).bind fun l111 => (((m_tape_Pen_Bytes l111)).bind fun r118 => some r118))))))
noncomputable def m_bytes_Compare (a0 : List Int) (a1 : List Int) : Option Int :=
  some (xCompareB a0 a1)
noncomputable def m_cred_Compare (a0 : Cred) (a1 : Cred) : Option Int :=
  (((m_cred_Bytes a0)).bind fun r43 => (((m_cred_Bytes a1)).bind fun r51 => (((m_bytes_Compare r43 r51)).bind fun r59 => some r59)))
noncomputable def m_slices_Compact_Cred_L2 (x2891 : Int) : Nat → (List Cred) → Int → Int → Option (((List Cred) × Int))
  | 0, _, _, _ => none
  | n4232 + 1, l4112, x4115, x4116 => (if (decide (x4116 < (((l4112.length - (Int.toNat x2891) : Nat) : Int)))) then (((((idx (l4112.drop (Int.toNat x2891)) x4116)).bind fun x4319 => (((idx (l4112.drop (Int.toNat x2891)) ((IntKind.i64.wrap (x4116 - 1))))).bind fun x4324 => (if (!(beqCred x4319 x4324)) then (((idx (l4112.drop (Int.toNat x2891)) x4116)).bind fun x4330 => (((idx l4112 x4115)).bind fun x4335 => some (((l4112.set (Int.toNat x4115) x4330)), ((IntKind.i64.wrap (x4115 + 1)))))) else some (l4112, x4115)))) : Option (((List Cred) × Int))).bind fun (l4283, x4286) => (m_slices_Compact_Cred_L2 x2891 n4232 l4283 x4286 ((IntKind.i64.wrap (x4116 + 1))))) else some (l4112, x4115))
noncomputable def m_slices_Compact_Cred_L1 (a0 : List Cred) : Nat → Int → Option (List Cred)
  | 0, _ => none
  | n3617 + 1, x2891 => (if (decide (x2891 < ((a0.length : Int)))) then (((idx a0 x2891)).bind fun x3644 => (((idx a0 ((IntKind.i64.wrap (x2891 - 1))))).bind fun x3649 => (if (beqCred x3644 x3649) then (((chk (decide (0 ≤ x2891) && decide (x2891 ≤ (a0.length : Int))))).bind fun _ => ((m_slices_Compact_Cred_L2 x2891 FUEL a0 x2891 1 : Option (((List Cred) × Int))).bind fun (l3988, x3991) => (((chk (decide (0 ≤ x3991) && decide (x3991 ≤ (l3988.length : Int))))).bind fun _ => (((chk (decide (0 ≤ x3991) && decide (x3991 ≤ (((clearT l3988 (Int.toNat x3991) (⟨0, (⟨zS, zS⟩ : Role), zS, (⟨zS, zS⟩ : Role), (⟨zS, zS⟩ : Role), zS⟩ : Cred))).length : Int))))).bind fun _ => some (((clearT l3988 (Int.toNat x3991) (⟨0, (⟨zS, zS⟩ : Role), zS, (⟨zS, zS⟩ : Role), (⟨zS, zS⟩ : Role), zS⟩ : Cred))).take (Int.toNat x3991)))))) else (m_slices_Compact_Cred_L1 a0 n3617 ((IntKind.i64.wrap (x2891 + 1))))))) else some a0)
noncomputable def m_slices_Compact_Cred (a0 : List Cred) : Option (List Cred) :=
  (if (decide (((a0.length : Int)) < 2)) then some a0 else m_slices_Compact_Cred_L1 a0 FUEL 1)
noncomputable def m_cred_Set (a0 : List Cred) : Option (List Cred) :=
  (((m_slices_Clone_Cred a0)).bind fun r1 => (((m_slices_DeleteFunc_Cred r1 (fun (x : Cred) => m_cred_Set_c1 x))).bind fun r9 => (((sortF (fun (x : (Cred × Cred)) => m_cred_Compare x.1 x.2) r9)).bind fun r21 => (((m_slices_Compact_Cred r21)).bind fun r32 => some r32))))
noncomputable def m_slices_Compact_string_L2 (x2891 : Int) : Nat → (List ByteArray) → Int → Int → Option (((List ByteArray) × Int))
  | 0, _, _, _ => none
  | n4232 + 1, l4112, x4115, x4116 => (if (decide (x4116 < (((l4112.length - (Int.toNat x2891) : Nat) : Int)))) then (((((idx (l4112.drop (Int.toNat x2891)) x4116)).bind fun x4319 => (((idx (l4112.drop (Int.toNat x2891)) ((IntKind.i64.wrap (x4116 - 1))))).bind fun x4324 => (if (!(beqS x4319 x4324)) then (((idx (l4112.drop (Int.toNat x2891)) x4116)).bind fun x4330 => (((idx l4112 x4115)).bind fun x4335 => some (((l4112.set (Int.toNat x4115) x4330)), ((IntKind.i64.wrap (x4115 + 1)))))) else some (l4112, x4115)))) : Option (((List ByteArray) × Int))).bind fun (l4283, x4286) => (m_slices_Compact_string_L2 x2891 n4232 l4283 x4286 ((IntKind.i64.wrap (x4116 + 1))))) else some (l4112, x4115))
noncomputable def m_slices_Compact_string_L1 (a0 : List ByteArray) : Nat → Int → Option (List ByteArray)
  | 0, _ => none
  | n3617 + 1, x2891 => (if (decide (x2891 < ((a0.length : Int)))) then (((idx a0 x2891)).bind fun x3644 => (((idx a0 ((IntKind.i64.wrap (x2891 - 1))))).bind fun x3649 => (if (beqS x3644 x3649) then (((chk (decide (0 ≤ x2891) && decide (x2891 ≤ (a0.length : Int))))).bind fun _ => ((m_slices_Compact_string_L2 x2891 FUEL a0 x2891 1 : Option (((List ByteArray) × Int))).bind fun (l3988, x3991) => (((chk (decide (0 ≤ x3991) && decide (x3991 ≤ (l3988.length : Int))))).bind fun _ => (((chk (decide (0 ≤ x3991) && decide (x3991 ≤ (((clearT l3988 (Int.toNat x3991) zS)).length : Int))))).bind fun _ => some (((clearT l3988 (Int.toNat x3991) zS)).take (Int.toNat x3991)))))) else (m_slices_Compact_string_L1 a0 n3617 ((IntKind.i64.wrap (x2891 + 1))))))) else some a0)
noncomputable def m_slices_Compact_string (a0 : List ByteArray) : Option (List ByteArray) :=
  (if (decide (((a0.length : Int)) < 2)) then some a0 else m_slices_Compact_string_L1 a0 FUEL 1)
noncomputable def m_name_Set_L1  : List ByteArray → (List ByteArray) → Option (List ByteArray)
  | [], l90 => (((sortS l90)).bind fun r133 => (((m_slices_Compact_string r133)).bind fun r144 => some r144))
  | x68 :: xs69, l90 => (((m_name_Right x68)).bind fun r121 => (if r121 then (((appB 16 l90 ([x68]))).bind fun l127 => (m_name_Set_L1 xs69 l127)) else (m_name_Set_L1 xs69 l90)))
noncomputable def m_name_Set (a0 : List ByteArray) : Option (List ByteArray) :=
  m_name_Set_L1 a0 ([])
noncomputable def m_law05_Great_L1  : List Cred → Int → Option Int
  | [], x47 => some x47
  | x35 :: xs36, x47 => (m_law05_Great_L1 xs36 ((IntKind.i64.wrap (x47 + ((IntKind.i64.wrap (((IntKind.i64.wrap (((IntKind.i64.wrap (((IntKind.i64.wrap (((IntKind.i64.wrap (((IntKind.i64.wrap (((IntKind.i64.wrap (((IntKind.i64.wrap (20 + ((x35.Head.Owner.size : Int))))) + ((x35.Head.Word.size : Int))))) + ((x35.Who.size : Int))))) + ((x35.B.Owner.size : Int))))) + ((x35.B.Word.size : Int))))) + ((x35.C.Owner.size : Int))))) + ((x35.C.Word.size : Int))))) + ((x35.Word2.size : Int)))))))))
noncomputable def m_law05_Great (a0 : List Cred) : Option Int :=
  m_law05_Great_L1 a0 0
noncomputable def m_ref03_Right_L1 (a0 : ByteArray) : Nat → Int → Option Bool
  | 0, _ => none
  | n364 + 1, x293 => (if (decide (x293 < ((a0.size : Int)))) then (((idxS a0 x293)).bind fun c368 => (((if (decide (((c368.toNat : Int)) < 97)) then some true else some ((decide (((c368.toNat : Int)) > 122)))) : Option Bool).bind fun x371 => (((if x371 then (((if (decide (((c368.toNat : Int)) < 48)) then some true else some ((decide (((c368.toNat : Int)) > 57)))) : Option Bool).bind fun x416 => some x416) else some false) : Option Bool).bind fun x392 => (((if x392 then some ((((c368.toNat : Int)) != 45)) else some false) : Option Bool).bind fun x400 => (if x400 then some false else (m_ref03_Right_L1 a0 n364 ((IntKind.i64.wrap (x293 + 1))))))))) else some true)
noncomputable def m_ref03_Right (a0 : ByteArray) : Option Bool :=
  (((if (beqS a0 zS) then some true else some ((decide (((a0.size : Int)) > 16)))) : Option Bool).bind fun x2 => (((if x2 then some true else (((idxS a0 0)).bind fun c442 => some ((decide (((c442.toNat : Int)) < 97))))) : Option Bool).bind fun x10 => (((if x10 then some true else (((idxS a0 0)).bind fun c436 => some ((decide (((c436.toNat : Int)) > 122))))) : Option Bool).bind fun x18 => (if x18 then some false else m_ref03_Right_L1 a0 FUEL 0))))
noncomputable def m_ref04_Right (a0 : Role) : Option Bool :=
  (((m_ref03_Right a0.Owner)).bind fun r3 => (((if r3 then (((m_ref03_Right a0.Word)).bind fun r19 => some r19) else some false) : Option Bool).bind fun x10 => some x10))
noncomputable def m_ref04_Less (a0 : Role) (a1 : Role) : Option Bool :=
  (((if (ltS a0.Owner a1.Owner) then some true else (((if (beqS a0.Owner a1.Owner) then some ((ltS a0.Word a1.Word)) else some false) : Option Bool).bind fun x27 => some x27)) : Option Bool).bind fun x17 => some x17)
noncomputable def m_ref05_Right (a0 : Cred) : Option Bool :=
  (((m_ref04_Right a0.Head)).bind fun r5 => (if (!r5) then some false else (if (a0.Kind == 1) then (((m_ref03_Right a0.Who)).bind fun r10 => (((if r10 then some ((beqRole a0.B ((⟨zS, zS⟩ : Role)))) else some false) : Option Bool).bind fun x14 => (((if x14 then some ((beqRole a0.C ((⟨zS, zS⟩ : Role)))) else some false) : Option Bool).bind fun x22 => (((if x22 then some ((beqS a0.Word2 zS)) else some false) : Option Bool).bind fun x29 => some x29)))) else (((if (!(beqS a0.Who zS)) then some true else (((m_ref04_Right a0.B)).bind fun r138 => some ((!r138)))) : Option Bool).bind fun x50 => (if x50 then some false else (if (a0.Kind == 2) then (((if (beqRole a0.C ((⟨zS, zS⟩ : Role))) then some ((beqS a0.Word2 zS)) else some false) : Option Bool).bind fun x59 => some x59) else (if (a0.Kind == 3) then (((if (beqRole a0.C ((⟨zS, zS⟩ : Role))) then some ((beqS a0.B.Owner a0.Head.Owner)) else some false) : Option Bool).bind fun x69 => (((if x69 then (((m_ref03_Right a0.Word2)).bind fun r86 => some r86) else some false) : Option Bool).bind fun x78 => some x78)) else (((if (a0.Kind == 4) then some ((beqS a0.Word2 zS)) else some false) : Option Bool).bind fun x94 => (((if x94 then (((m_ref04_Right a0.C)).bind fun r127 => some r127) else some false) : Option Bool).bind fun x103 => (((if x103 then (((m_ref04_Less a0.B a0.C)).bind fun r120 => some r120) else some false) : Option Bool).bind fun x112 => some x112))))))))))
noncomputable def m_ref01_Number_L1  : Nat → Int → ByteArray → Option ByteArray
  | 0, _, _ => none
  | n45 + 1, x32, x33 => (if (decide (x32 ≥ 128)) then (((catS x33 ((strI ([(IntKind.u8.wrap ((IntKind.i64.wrap (128 + ((Int.tmod x32 128))))))]))))).bind fun s51 => (m_ref01_Number_L1 n45 ((IntKind.i64.wrap (Int.tdiv x32 128))) s51)) else (((catS x33 ((strI ([(IntKind.u8.wrap x32)]))))).bind fun s55 => some s55))
noncomputable def m_ref01_Number (a0 : Int) : Option ByteArray :=
  m_ref01_Number_L1 FUEL a0 zS
noncomputable def m_ref01_Text (a0 : ByteArray) : Option ByteArray :=
  (((m_ref01_Number ((a0.size : Int)))).bind fun r1 => (((catS r1 a0)).bind fun s4 => some s4))
noncomputable def m_ref04_Bytes (a0 : Role) : Option ByteArray :=
  (((m_ref01_Text a0.Owner)).bind fun r19 => (((m_ref01_Text a0.Word)).bind fun r22 => (((catS r19 r22)).bind fun s25 => some s25)))
noncomputable def m_ref05_Bytes (a0 : Cred) : Option ByteArray :=
  (((m_ref01_Number a0.Kind)).bind fun r19 => (((m_ref04_Bytes a0.Head)).bind fun r22 => (((catS r19 r22)).bind fun s25 => (if (a0.Kind == 1) then (((m_ref01_Text a0.Who)).bind fun r28 => (((catS s25 r28)).bind fun s31 => some s31)) else (((m_ref04_Bytes a0.B)).bind fun r33 => (((catS s25 r33)).bind fun s36 => (((if (a0.Kind == 3) then (((m_ref01_Text a0.Word2)).bind fun r72 => (((catS s36 r72)).bind fun s75 => some s75)) else some s36) : Option ByteArray).bind fun x44 => (((if (a0.Kind == 4) then (((m_ref04_Bytes a0.C)).bind fun r63 => (((catS x44 r63)).bind fun s66 => some s66)) else some x44) : Option ByteArray).bind fun x55 => some x55))))))))
noncomputable def m_ref05_bytes (a0 : Cred) : Option ByteArray :=
  (((m_ref05_Right a0)).bind fun r3 => (if (!r3) then some zS else (((m_ref05_Bytes a0)).bind fun r7 => some r7)))
noncomputable def m_ref05_Compare (a0 : Cred) (a1 : Cred) : Option Int :=
  (((m_ref05_bytes a0)).bind fun r5 => (((m_ref05_bytes a1)).bind fun r8 => (if (ltS r5 r8) then some (-1) else (if (!(ltS r5 r8 || beqS r5 r8)) then some 1 else some 0))))
noncomputable def m_ref05_Set_L2 (l11497 : List Cred) : List Cred → Bool → Cred → Option ((Bool × Cred))
  | [], x16301, x16302 => some (x16301, x16302)
  | x15828 :: xs15829, x16301, x16302 => (((m_ref05_Right x15828)).bind fun r17096 => (((if r17096 then (((if (((l11497.length : Int)) == 0) then some true else (((idx l11497 ((IntKind.i64.wrap (((l11497.length : Int)) - 1))))).bind fun x17246 => (((m_ref05_Compare x17246 x15828)).bind fun r17248 => some ((decide (r17248 < 0)))))) : Option Bool).bind fun x17226 => some x17226) else some false) : Option Bool).bind fun x17134 => (((if x17134 then (((if (!x16301) then some true else (((m_ref05_Compare x15828 x16302)).bind fun r17210 => some ((decide (r17210 < 0))))) : Option Bool).bind fun x17193 => some x17193) else some false) : Option Bool).bind fun x17171 => (if x17171 then (m_ref05_Set_L2 l11497 xs15829 true x15828) else (m_ref05_Set_L2 l11497 xs15829 x16301 x16302)))))
noncomputable def m_ref05_Set_L1 (a0 : List Cred) : Nat → (List Cred) → Option (List Cred)
  | 0, _ => none
  | n14378 + 1, l11497 => ((m_ref05_Set_L2 l11497 a0 false ((⟨0, (⟨zS, zS⟩ : Role), zS, (⟨zS, zS⟩ : Role), (⟨zS, zS⟩ : Role), zS⟩ : Cred)) : Option ((Bool × Cred))).bind fun (x15807, x15808) => (if (!x15807) then some l11497 else (((appB 136 l11497 ([x15808]))).bind fun l15818 => (m_ref05_Set_L1 a0 n14378 l15818))))
noncomputable def m_ref05_Set (a0 : List Cred) : Option (List Cred) :=
  m_ref05_Set_L1 a0 FUEL ([])
noncomputable def m_slices_Index_Cred_L1 (a1 : Cred) : List Cred → Nat → Option Int
  | [], _ => some (-1)
  | x47 :: xs48, i46 => (if (beqCred a1 x47) then some (i46 : Int) else (m_slices_Index_Cred_L1 a1 xs48 (i46 + 1)))
noncomputable def m_slices_Index_Cred (a0 : List Cred) (a1 : Cred) : Option Int :=
  m_slices_Index_Cred_L1 a1 a0 0
noncomputable def m_slices_Contains_Cred (a0 : List Cred) (a1 : Cred) : Option Bool :=
  (((m_slices_Index_Cred a0 a1)).bind fun r3 => some (decide (r3 ≥ 0)))
noncomputable def m_cred_Has (a0 : List Cred) (a1 : Cred) : Option Bool :=
  (((m_slices_Contains_Cred a0 a1)).bind fun r3 => some r3)
noncomputable def m_slices_IndexFunc_string_L1 (f1 : ByteArray → Option Bool) : List ByteArray → Nat → Option Int
  | [], _ => some (-1)
  | x36 :: xs37, i35 => (((f1 x36)).bind fun r65 => (if r65 then some (i35 : Int) else (m_slices_IndexFunc_string_L1 f1 xs37 (i35 + 1))))
noncomputable def m_slices_IndexFunc_string (a0 : List ByteArray) (f1 : ByteArray → Option Bool) : Option Int :=
  m_slices_IndexFunc_string_L1 f1 a0 0
noncomputable def m_slices_ContainsFunc_string (a0 : List ByteArray) (f1 : ByteArray → Option Bool) : Option Bool :=
  (((m_slices_IndexFunc_string a0 f1)).bind fun r1 => some (decide (r1 ≥ 0)))
noncomputable def m_model_brings_c1 (a0 : ByteArray) (f_c0 : ((Role × ByteArray)) → Option Bool) (c1 : Cred) (c2 : ByteArray) : Option Bool :=
  (((f_c0 ((c1.B, a0)))).bind fun r4 => (((if r4 then (((f_c0 (((⟨a0, c1.Word2⟩ : Role), c2)))).bind fun r26 => some r26) else some false) : Option Bool).bind fun x14 => some x14))
noncomputable def m_model_brings (a0 : Cred) (f1 : ((Role × ByteArray)) → Option Bool) (a2 : List ByteArray) (a3 : ByteArray) : Option Bool :=
  (if (a0.Kind == 1) then some (beqS a0.Who a3) else (if (a0.Kind == 2) then (((f1 ((a0.B, a3)))).bind fun r12 => some r12) else (if (a0.Kind == 4) then (((f1 ((a0.B, a3)))).bind fun r16 => (((if r16 then (((f1 ((a0.C, a3)))).bind fun r32 => some r32) else some false) : Option Bool).bind fun x23 => some x23)) else (((m_slices_ContainsFunc_string a2 (fun (x : ByteArray) => m_model_brings_c1 x f1 a0 a3))).bind fun r35 => some r35))))
noncomputable def m_model_Holds_L1 (a0 : Cred) (f1 : ((Role × ByteArray)) → Option Bool) (r15 : List ByteArray) : List ByteArray → (List Fact) → Option (List Fact)
  | [], l148 => some l148
  | x126 :: xs127, l148 => (((m_model_brings a0 f1 r15 x126)).bind fun r185 => (if r185 then (((appB 48 l148 ([(⟨a0.Head, x126⟩ : Fact)]))).bind fun l191 => (m_model_Holds_L1 a0 f1 r15 xs127 l191)) else (m_model_Holds_L1 a0 f1 r15 xs127 l148)))
noncomputable def m_model_Holds (a0 : Cred) (f1 : ((Role × ByteArray)) → Option Bool) (a2 : List ByteArray) : Option (List Fact) :=
  (((m_cred_Right a0)).bind fun r3 => (((if (!r3) then some true else some false) : Option Bool).bind fun x7 => (if x7 then some [] else (((m_name_Set a2)).bind fun r15 => (((if (a0.Kind == 1) then some ([a0.Who]) else some r15) : Option (List ByteArray)).bind fun l43 => m_model_Holds_L1 a0 f1 r15 l43 ([]))))))
noncomputable def m_chain_names_L1  : List Cred → (List ByteArray) → Option (List ByteArray)
  | [], l86 => (((m_name_Set l86)).bind fun r127 => some r127)
  | x65 :: xs66, l86 => (((appB 16 l86 ([x65.Who, x65.Head.Owner, x65.B.Owner, x65.C.Owner]))).bind fun l121 => (m_chain_names_L1 xs66 l121))
noncomputable def m_chain_names (a0 : List Cred) : Option (List ByteArray) :=
  m_chain_names_L1 a0 ([])
noncomputable def m_chain_grown_c1 (a0 : Role) (a1 : ByteArray) (c0 : List (Fact × Bool)) : Option Bool :=
  some (mgetD beqFact c0 ((⟨a0, a1⟩ : Fact)) false)
noncomputable def m_chain_grown_L3 (x8797 : Cred) (a1 : Fact) : List Fact → (List Step) → (List (Fact × Bool)) → Option (((((((List Step) × Bool)) ⊕ (((List Step) × (List (Fact × Bool)))))) ⊕ (((List Step) × (List (Fact × Bool))))))
  | [], l9496, l9499 => some (Sum.inr (l9496, l9499))
  | x9470 :: xs9471, l9496, l9499 => (if (mgetD beqFact l9499 x9470 false) then (m_chain_grown_L3 x8797 a1 xs9471 l9496 l9499) else (((appB 184 l9496 ([(⟨x8797, x9470⟩ : Step)]))).bind fun l9566 => (if (beqFact x9470 a1) then some (Sum.inl (Sum.inl (l9566, true))) else (m_chain_grown_L3 x8797 a1 xs9471 l9566 ((mput beqFact l9499 x9470 true))))))
noncomputable def m_chain_grown_L2 (r11 : List ByteArray) (a1 : Fact) : List Cred → (List Step) → (List (Fact × Bool)) → Option (((((List Step) × Bool)) ⊕ (((List Step) × (List (Fact × Bool))))))
  | [], l9050, l9053 => some (Sum.inr (l9050, l9053))
  | x8797 :: xs8798, l9050, l9053 => (((m_model_Holds x8797 (fun (x : (Role × ByteArray)) => m_chain_grown_c1 x.1 x.2 l9053) r11)).bind fun r9335 => ((m_chain_grown_L3 x8797 a1 r9335 l9050 l9053 : Option (((((((List Step) × Bool)) ⊕ (((List Step) × (List (Fact × Bool)))))) ⊕ (((List Step) × (List (Fact × Bool))))))).bind fun s => match s with | .inl q9573 => some q9573 | .inr (l9448, l9451) => (m_chain_grown_L2 r11 a1 xs8798 l9448 l9451)))
noncomputable def m_chain_grown_L1 (r11 : List ByteArray) (a1 : Fact) (r3 : List Cred) : Nat → (List Step) → Int → (List (Fact × Bool)) → Option (((List Step) × Bool))
  | 0, _, _, _ => none
  | n7987 + 1, l6382, x6385, l6386 => (if (decide (x6385 < ((l6382.length : Int)))) then ((m_chain_grown_L2 r11 a1 r3 l6382 l6386 : Option (((((List Step) × Bool)) ⊕ (((List Step) × (List (Fact × Bool))))))).bind fun s => match s with | .inl q9574 => some q9574 | .inr (l8777, l8780) => (m_chain_grown_L1 r11 a1 r3 n7987 l8777 ((l6382.length : Int)) l8780)) else some ([], false))
noncomputable def m_chain_grown (a0 : List Cred) (a1 : Fact) : Option (((List Step) × Bool)) :=
  (((m_cred_Set a0)).bind fun r3 => (((m_chain_names a0)).bind fun r11 => m_chain_grown_L1 r11 a1 r3 FUEL ([]) ((-1)) ([])))
noncomputable def m_check_facts_L1  : List Step → (List Fact) → Option (List Fact)
  | [], l86 => some l86
  | x65 :: xs66, l86 => (((appB 48 l86 ([x65.Fact]))).bind fun l121 => (m_check_facts_L1 xs66 l121))
noncomputable def m_check_facts (a0 : List Step) : Option (List Fact) :=
  m_check_facts_L1 a0 ([])
noncomputable def m_slices_Index_Fact_L1 (a1 : Fact) : List Fact → Nat → Option Int
  | [], _ => some (-1)
  | x47 :: xs48, i46 => (if (beqFact a1 x47) then some (i46 : Int) else (m_slices_Index_Fact_L1 a1 xs48 (i46 + 1)))
noncomputable def m_slices_Index_Fact (a0 : List Fact) (a1 : Fact) : Option Int :=
  m_slices_Index_Fact_L1 a1 a0 0
noncomputable def m_slices_Contains_Fact (a0 : List Fact) (a1 : Fact) : Option Bool :=
  (((m_slices_Index_Fact a0 a1)).bind fun r3 => some (decide (r3 ≥ 0)))
noncomputable def m_slices_Index_had_Fact_L1 (a1 : Fact) : List Fact → Nat → Option Int
  | [], _ => some (-1)
  | x47 :: xs48, i46 => (if (beqFact a1 x47) then some (i46 : Int) else (m_slices_Index_had_Fact_L1 a1 xs48 (i46 + 1)))
noncomputable def m_slices_Index_had_Fact (a0 : List Fact) (a1 : Fact) : Option Int :=
  m_slices_Index_had_Fact_L1 a1 a0 0
noncomputable def m_slices_Contains_had_Fact (a0 : List Fact) (a1 : Fact) : Option Bool :=
  (((m_slices_Index_had_Fact a0 a1)).bind fun r3 => some (decide (r3 ≥ 0)))
noncomputable def m_check_had_in (a0 : List Fact) (a1 : Role) (a2 : ByteArray) : Option Bool :=
  (((m_slices_Contains_had_Fact a0 ((⟨a1, a2⟩ : Fact)))).bind fun r3 => some r3)
noncomputable def m_slices_IndexFunc_had_Fact_L1 (f1 : Fact → Option Bool) : List Fact → Nat → Option Int
  | [], _ => some (-1)
  | x36 :: xs37, i35 => (((f1 x36)).bind fun r65 => (if r65 then some (i35 : Int) else (m_slices_IndexFunc_had_Fact_L1 f1 xs37 (i35 + 1))))
noncomputable def m_slices_IndexFunc_had_Fact (a0 : List Fact) (f1 : Fact → Option Bool) : Option Int :=
  m_slices_IndexFunc_had_Fact_L1 f1 a0 0
noncomputable def m_slices_ContainsFunc_had_Fact (a0 : List Fact) (f1 : Fact → Option Bool) : Option Bool :=
  (((m_slices_IndexFunc_had_Fact a0 f1)).bind fun r1 => some (decide (r1 ≥ 0)))
noncomputable def m_check_had_linked_c1 (a0 : Fact) (c0 : Role) (c1 : List Fact) (c2 : ByteArray) (c3 : ByteArray) : Option Bool :=
  (((if (beqRole a0.Role c0) then (((m_check_had_in c1 ((⟨a0.Who, c2⟩ : Role)) c3)).bind fun r16 => some r16) else some false) : Option Bool).bind fun x7 => some x7)
noncomputable def m_check_had_linked (a0 : List Fact) (a1 : Role) (a2 : ByteArray) (a3 : ByteArray) : Option Bool :=
  (((m_slices_ContainsFunc_had_Fact a0 (fun (x : Fact) => m_check_had_linked_c1 x a1 a0 a2 a3))).bind fun r11 => some r11)
noncomputable def m_check_Follows (a0 : Step) (a1 : List Fact) : Option Bool :=
  (((m_cred_Right a0.Cred)).bind fun r12 => (((if (!r12) then some true else some ((!(beqRole a0.Fact.Role a0.Cred.Head)))) : Option Bool).bind fun x16 => (if x16 then some false else (if (a0.Cred.Kind == 1) then some (beqS a0.Cred.Who a0.Fact.Who) else (if (a0.Cred.Kind == 2) then (((m_check_had_in a1 a0.Cred.B a0.Fact.Who)).bind fun r26 => some r26) else (if (a0.Cred.Kind == 3) then (((m_check_had_linked a1 a0.Cred.B a0.Cred.Word2 a0.Fact.Who)).bind fun r30 => some r30) else (((m_check_had_in a1 a0.Cred.B a0.Fact.Who)).bind fun r33 => (((if r33 then (((m_check_had_in a1 a0.Cred.C a0.Fact.Who)).bind fun r48 => some r48) else some false) : Option Bool).bind fun x40 => some x40))))))))
noncomputable def m_check_stands_L1 (r1 : List Fact) : List Step → Nat → Option Bool
  | [], _ => some true
  | x98 :: xs99, i97 => (((chk (decide (0 ≤ ((i97 : Int))) && decide (((i97 : Int)) ≤ (r1.length : Int))))).bind fun _ => (((m_check_Follows x98 ((r1.take (Int.toNat ((i97 : Int))))))).bind fun r181 => (if (!r181) then some false else (m_check_stands_L1 r1 xs99 (i97 + 1)))))
noncomputable def m_check_stands (a0 : List Step) : Option Bool :=
  (((m_check_facts a0)).bind fun r1 => m_check_stands_L1 r1 a0 0)
noncomputable def m_slices_Clone_Step (a0 : List Step) : Option (List Step) :=
  (((appB 184 ([]) a0)).bind fun l8 => some l8)
noncomputable def m_slices_Delete_Step (a0 : List Step) (a1 : Int) (a2 : Int) : Option (List Step) :=
  (((chk (decide (0 ≤ a1 ∧ a1 ≤ a2 ∧ a2 ≤ (a0.length : Int) ∧ (a0.length : Int) ≤ (a0.length : Int))))).bind fun _ => (if (a1 == a2) then some a0 else (((chk (decide (0 ≤ a1) && decide (a1 ≤ (a0.length : Int))))).bind fun _ => (((chk (decide (0 ≤ a2) && decide (a2 ≤ (a0.length : Int))))).bind fun _ => (((chk (decide ((Int.toNat a1) ≤ (Int.toNat a2) ∧ (Int.toNat a2) ≤ a0.length)))).bind fun u37 => (((chk (decide (0 ≤ (((a0.take (Int.toNat a1) ++ a0.drop (Int.toNat a2))).length : Int) ∧ (((a0.take (Int.toNat a1) ++ a0.drop (Int.toNat a2))).length : Int) ≤ (a0.length : Int) ∧ (a0.length : Int) = (((delB a0 (Int.toNat a1) (Int.toNat a2))).length : Int) ∧ (((a0.take (Int.toNat a1) ++ a0.drop (Int.toNat a2))).length : Int) = (((a0.take (Int.toNat a1) ++ a0.drop (Int.toNat a2))).length : Int))))).bind fun _ => some (((clearT ((delB a0 (Int.toNat a1) (Int.toNat a2))) (Int.toNat ((((a0.take (Int.toNat a1) ++ a0.drop (Int.toNat a2))).length : Int))) (⟨(⟨0, (⟨zS, zS⟩ : Role), zS, (⟨zS, zS⟩ : Role), (⟨zS, zS⟩ : Role), zS⟩ : Cred), (⟨(⟨zS, zS⟩ : Role), zS⟩ : Fact)⟩ : Step))).take ((a0.take (Int.toNat a1) ++ a0.drop (Int.toNat a2))).length)))))))
noncomputable def m_check_Tight_L2 (a0 : List Step) : Nat → Int → Option ((Bool ⊕ Unit))
  | 0, _ => none
  | n350 + 1, x316 => (if (decide (x316 < ((if 0 > (IntKind.i64.wrap (((a0.length : Int)) - 1)) then 0 else (IntKind.i64.wrap (((a0.length : Int)) - 1)))))) then (((m_slices_Clone_Step a0)).bind fun r356 => (((m_slices_Delete_Step r356 x316 ((IntKind.i64.wrap (x316 + 1))))).bind fun r364 => (((m_check_stands r364)).bind fun r376 => (if r376 then some (Sum.inl false) else (m_check_Tight_L2 a0 n350 ((IntKind.i64.wrap (x316 + 1)))))))) else some (Sum.inr ()))
noncomputable def m_check_Tight_L1 (r1 : List Fact) (a0 : List Step) : List Fact → Nat → Option Bool
  | [], _ => (((m_check_stands a0)).bind fun r189 => (if (!r189) then some false else ((m_check_Tight_L2 a0 FUEL 0 : Option ((Bool ⊕ Unit))).bind fun s => match s with | .inl q380 => some q380 | .inr _ => some true)))
  | x100 :: xs101, i99 => (((chk (decide (0 ≤ ((i99 : Int))) && decide (((i99 : Int)) ≤ (r1.length : Int))))).bind fun _ => (((m_slices_Contains_Fact ((r1.take (Int.toNat ((i99 : Int))))) x100)).bind fun r185 => (if r185 then some false else (m_check_Tight_L1 r1 a0 xs101 (i99 + 1)))))
noncomputable def m_check_Tight (a0 : List Step) : Option Bool :=
  (((m_check_facts a0)).bind fun r1 => m_check_Tight_L1 r1 a0 r1 0)
noncomputable def m_chain_stands_L1  : List Step → (List Fact) → Option Bool
  | [], l102 => some true
  | x77 :: xs78, l102 => (((m_check_Follows x77 l102)).bind fun r139 => (if (!r139) then some false else (((appB 48 l102 ([x77.Fact]))).bind fun l145 => (m_chain_stands_L1 xs78 l145))))
noncomputable def m_chain_stands (a0 : List Step) : Option Bool :=
  m_chain_stands_L1 a0 ([])
noncomputable def m_chain_tightened_L2  : Nat → (List Step) → Int → Option (List Step)
  | 0, _, _ => none
  | n2549 + 1, l2472, x2475 => (if (decide (x2475 ≥ 0)) then (((((m_slices_Clone_Step l2472)).bind fun r2591 => (((m_slices_Delete_Step r2591 x2475 ((IntKind.i64.wrap (x2475 + 1))))).bind fun r2599 => (((m_chain_stands r2599)).bind fun r2611 => (if r2611 then some r2599 else some l2472)))) : Option (List Step)).bind fun l2580 => (m_chain_tightened_L2 n2549 l2580 ((IntKind.i64.wrap (x2475 - 1))))) else some l2472)
noncomputable def m_chain_tightened_L1  : Nat → (List Step) → Option (List Step)
  | 0, _ => none
  | n2182 + 1, l1740 => (((m_check_Tight l1740)).bind fun r2185 => (if (!r2185) then ((m_chain_tightened_L2 FUEL l1740 ((IntKind.i64.wrap (((l1740.length : Int)) - 2))) : Option (List Step)).bind fun l2398 => (m_chain_tightened_L1 n2182 l2398)) else some l1740))
noncomputable def m_chain_tightened (a0 : List Step) : Option (List Step) :=
  m_chain_tightened_L1 FUEL a0
noncomputable def m_chain_Find (a0 : List Cred) (a1 : Fact) : Option (((List Step) × Bool)) :=
  (((m_chain_grown a0 a1)).bind fun r3 => (if (!r3.2) then some ([], false) else (((m_chain_tightened r3.1)).bind fun r16 => some (r16, true))))
noncomputable def m_chain_Used_L1  : List Step → (List Cred) → Option (List Cred)
  | [], l86 => (((m_cred_Set l86)).bind fun r127 => some r127)
  | x65 :: xs66, l86 => (((appB 136 l86 ([x65.Cred]))).bind fun l121 => (m_chain_Used_L1 xs66 l121))
noncomputable def m_chain_Used (a0 : List Step) : Option (List Cred) :=
  m_chain_Used_L1 a0 ([])
noncomputable def m_slices_Grow_Step_nil (a1 : Int) : Option (List Step) :=
  (if (decide (a1 < 0)) then none else (((if (decide (((IntKind.i64.wrap (a1 - ((IntKind.i64.wrap (0 - 0)))))) > 0)) then (((makeB 184 (⟨(⟨0, (⟨zS, zS⟩ : Role), zS, (⟨zS, zS⟩ : Role), (⟨zS, zS⟩ : Role), zS⟩ : Cred), (⟨(⟨zS, zS⟩ : Role), zS⟩ : Fact)⟩ : Step) ((IntKind.i64.wrap (a1 - ((IntKind.i64.wrap (0 - 0)))))))).bind fun l27 => (((chk (decide (0 ≤ 0) && decide (0 ≤ (l27.length : Int))))).bind fun _ => some ((l27.take (Int.toNat 0))))) else some ([])) : Option (List Step)).bind fun l15 => some l15))
noncomputable def m_slices_Concat_Step_L2  : List (List Step) → (List Step) → Option (List Step)
  | [], l162 => some l162
  | x144 :: xs145, l162 => (((appB 184 l162 x144)).bind fun l191 => (m_slices_Concat_Step_L2 xs145 l191))
noncomputable def m_slices_Concat_Step_L1 (a0 : List (List Step)) : List (List Step) → Int → Option (List Step)
  | [], x49 => (((m_slices_Grow_Step_nil x49)).bind fun r71 => ((m_slices_Concat_Step_L2 a0 r71 : Option (List Step)).bind fun l134 => some l134))
  | x37 :: xs38, x49 => (if (decide (((IntKind.i64.wrap (x49 + ((x37.length : Int))))) < 0)) then none else (m_slices_Concat_Step_L1 a0 xs38 ((IntKind.i64.wrap (x49 + ((x37.length : Int)))))))
noncomputable def m_slices_Concat_Step (a0 : List (List Step)) : Option (List Step) :=
  m_slices_Concat_Step_L1 a0 a0 0
noncomputable def m_chain_Merge_L1  : List Step → (List (Fact × Bool)) → (List Step) → Option (List Step)
  | [], l121, l125 => some l125
  | x97 :: xs98, l121, l125 => (if (!((mgetD beqFact l121 x97.Fact false))) then (((appB 184 l125 ([x97]))).bind fun l173 => (m_chain_Merge_L1 xs98 ((mput beqFact l121 x97.Fact true)) l173)) else (m_chain_Merge_L1 xs98 l121 l125))
noncomputable def m_chain_Merge (a0 : List (List Step)) : Option (List Step) :=
  (((m_slices_Concat_Step a0)).bind fun r5 => m_chain_Merge_L1 r5 ([]) ([]))
noncomputable def m_law10_first  : Option Bool :=
  (((m_chain_Find ([(⟨1, (⟨(⟨#[98]⟩ : ByteArray), (⟨#[115]⟩ : ByteArray)⟩ : Role), (⟨#[100]⟩ : ByteArray), (⟨zS, zS⟩ : Role), (⟨zS, zS⟩ : Role), zS⟩ : Cred)]) ((⟨(⟨(⟨#[98]⟩ : ByteArray), (⟨#[115]⟩ : ByteArray)⟩ : Role), (⟨#[100]⟩ : ByteArray)⟩ : Fact)))).bind fun r9 => (((m_chain_Find ([]) ((⟨(⟨(⟨#[98]⟩ : ByteArray), (⟨#[115]⟩ : ByteArray)⟩ : Role), (⟨#[100]⟩ : ByteArray)⟩ : Fact)))).bind fun r21 => (((if r9.2 then some ((!r21.2)) else some false) : Option Bool).bind fun x258 => (((if x258 then some ((((r9.1.length : Int)) == 1)) else some false) : Option Bool).bind fun x267 => (((if x267 then (((idx r9.1 0)).bind fun x359 => some ((beqStep x359 ((⟨(⟨1, (⟨(⟨#[98]⟩ : ByteArray), (⟨#[115]⟩ : ByteArray)⟩ : Role), (⟨#[100]⟩ : ByteArray), (⟨zS, zS⟩ : Role), (⟨zS, zS⟩ : Role), zS⟩ : Cred), (⟨(⟨(⟨#[98]⟩ : ByteArray), (⟨#[115]⟩ : ByteArray)⟩ : Role), (⟨#[100]⟩ : ByteArray)⟩ : Fact)⟩ : Step))))) else some false) : Option Bool).bind fun x281 => (((if x281 then (((m_chain_Used r9.1)).bind fun r344 => some ((((r344.length : Int)) == 1))) else some false) : Option Bool).bind fun x297 => (((if x297 then (((m_chain_Merge ([r9.1, r9.1]))).bind fun r332 => some ((((r332.length : Int)) == 1))) else some false) : Option Bool).bind fun x318 => some x318)))))))
noncomputable def m_ref10_Used_L1  : List Step → (List Cred) → Option (List Cred)
  | [], l86 => (((m_ref05_Set l86)).bind fun r127 => some r127)
  | x65 :: xs66, l86 => (((appB 136 l86 ([x65.Cred]))).bind fun l121 => (m_ref10_Used_L1 xs66 l121))
noncomputable def m_ref10_Used (a0 : List Step) : Option (List Cred) :=
  m_ref10_Used_L1 a0 ([])
noncomputable def m_check_Check_L1 (a1 : List Cred) (r3 : List Fact) (a2 : Fact) (a0 : List Step) : List Step → Nat → Option ((Int × Int))
  | [], _ => (((m_slices_Contains_Fact r3 a2)).bind fun r667 => (if (!r667) then some ((a0.length : Int), 42) else some ((a0.length : Int), 0)))
  | x340 :: xs341, i339 => (((m_cred_Has a1 x340.Cred)).bind fun r634 => (((if (!r634) then some true else (((chk (decide (0 ≤ ((i339 : Int))) && decide (((i339 : Int)) ≤ (r3.length : Int))))).bind fun _ => (((m_check_Follows x340 ((r3.take (Int.toNat ((i339 : Int))))))).bind fun r664 => some ((!r664))))) : Option Bool).bind fun x644 => (if x644 then some ((i339 : Int), 50) else (m_check_Check_L1 a1 r3 a2 a0 xs341 (i339 + 1)))))
noncomputable def m_check_Check (a0 : List Step) (a1 : List Cred) (a2 : Fact) : Option ((Int × Int)) :=
  (((m_check_facts a0)).bind fun r3 => m_check_Check_L1 a1 r3 a2 a0 a0 0)
noncomputable def m_law10_ChainStands_L2 (l200 : List Step) (a0 : List Cred) : List Step → Option ((Bool ⊕ Unit))
  | [] => some (Sum.inr ())
  | x345 :: xs346 => (((m_check_Check l200 a0 x345.Fact)).bind fun r385 => (if (r385.2 != 0) then some (Sum.inl false) else (m_law10_ChainStands_L2 l200 a0 xs346)))
noncomputable def m_law10_ChainStands_L1 (a0 : List Cred) : List Fact → (List Step) → Option Bool
  | [], l200 => ((m_law10_ChainStands_L2 l200 a0 l200 : Option ((Bool ⊕ Unit))).bind fun s => match s with | .inl q389 => some q389 | .inr _ => some true)
  | x156 :: xs157, l200 => (if (decide (((IntKind.i64.wrap (((IntKind.i64.wrap (((x156.Who.size : Int)) + ((x156.Role.Owner.size : Int))))) + ((x156.Role.Word.size : Int))))) > 200)) then some true else (((m_chain_Find a0 x156)).bind fun r263 => (if r263.2 then (((m_check_Check r263.1 a0 x156)).bind fun r276 => (if (r276.2 != 0) then some false else (((m_chain_Merge ([l200, r263.1]))).bind fun r286 => (m_law10_ChainStands_L1 a0 xs157 r286)))) else (m_law10_ChainStands_L1 a0 xs157 l200))))
noncomputable def m_law10_ChainStands (a0 : List Cred) (a1 : List Fact) : Option Bool :=
  (m_law10_first.bind fun r1 => (if (!r1) then some false else (((m_law05_Great a0)).bind fun r5 => (((if (decide (r5 > 1000)) then some true else some ((decide (((a1.length : Int)) > 8)))) : Option Bool).bind fun x9 => (if x9 then some true else m_law10_ChainStands_L1 a0 a1 ([]))))))
end Go.Proofs.YtfjdjbdnnoijgaaGreat
