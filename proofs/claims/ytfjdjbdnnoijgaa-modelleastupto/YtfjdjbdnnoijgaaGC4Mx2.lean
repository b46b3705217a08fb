/- a part of a proof of ModelLeast -/
import Derived.Test.YtfjdjbdnnoijgaaRtOx2
set_option linter.all false
namespace Go.Proofs.Ytfjdjbdnnoijgaa
open Go.RowKit
set_option maxRecDepth 10000
structure Role where
  Owner : ByteArray
  Word : ByteArray
def encRole (x : Role) : List Value := [.string x.Owner, .string x.Word]
def beqRole (x y : Role) : Bool := (beqS x.Owner y.Owner) && ((beqS x.Word y.Word) && true)
theorem beqRole_iff {x y : Role} : beqRole x y = true ↔ x = y := by
  cases x; cases y; simp [beqRole, beqS_iff]
theorem lenRole (x : Role) : (encRole x).length = 2 := rfl
theorem oneRole (x : Role) : ∀ u ∈ encRole x, u.oneCell' = true := by
  intro u hu
  simp only [encRole, List.mem_cons, List.not_mem_nil, or_false] at hu
  rcases hu with rfl | rfl <;> rfl
structure Cred where
  Kind : Int
  Head : Role
  Who : ByteArray
  B : Role
  C : Role
  Word2 : ByteArray
def encCred (x : Cred) : List Value := [.int .i64 x.Kind, .string x.Head.Owner, .string x.Head.Word, .string x.Who, .string x.B.Owner, .string x.B.Word, .string x.C.Owner, .string x.C.Word, .string x.Word2]
def beqCred (x y : Cred) : Bool := (x.Kind == y.Kind) && ((beqRole x.Head y.Head) && ((beqS x.Who y.Who) && ((beqRole x.B y.B) && ((beqRole x.C y.C) && ((beqS x.Word2 y.Word2) && true)))))
theorem beqCred_iff {x y : Cred} : beqCred x y = true ↔ x = y := by
  cases x; cases y; simp [beqCred, beqS_iff, beqRole_iff]
theorem lenCred (x : Cred) : (encCred x).length = 9 := rfl
theorem oneCred (x : Cred) : ∀ u ∈ encCred x, u.oneCell' = true := by
  intro u hu
  simp only [encCred, List.mem_cons, List.not_mem_nil, or_false] at hu
  rcases hu with rfl | rfl | rfl | rfl | rfl | rfl | rfl | rfl | rfl <;> rfl
structure Fact where
  Role : Role
  Who : ByteArray
def encFact (x : Fact) : List Value := [.string x.Role.Owner, .string x.Role.Word, .string x.Who]
def beqFact (x y : Fact) : Bool := (beqRole x.Role y.Role) && ((beqS x.Who y.Who) && true)
theorem beqFact_iff {x y : Fact} : beqFact x y = true ↔ x = y := by
  cases x; cases y; simp [beqFact, beqS_iff, beqRole_iff]
theorem lenFact (x : Fact) : (encFact x).length = 3 := rfl
theorem oneFact (x : Fact) : ∀ u ∈ encFact x, u.oneCell' = true := by
  intro u hu
  simp only [encFact, List.mem_cons, List.not_mem_nil, or_false] at hu
  rcases hu with rfl | rfl | rfl <;> rfl
structure TapePen where
  b : List Int
noncomputable def m_internal_stringslite_IndexByte (a0 : ByteArray) (a1 : Int) : Option Int :=
  some (xIndexByte a0 a1)
noncomputable def m_strings_IndexByte (a0 : ByteArray) (a1 : Int) : Option Int :=
  (((m_internal_stringslite_IndexByte a0 a1)).bind fun r1 => some r1)
noncomputable def m_name_only_L1  : List Int → Option Bool
  | [] => some true
  | x42 :: xs43 => (((m_strings_IndexByte ((⟨#[97, 98, 99, 100, 101, 102, 103, 104, 105, 106, 107, 108, 109, 110, 111, 112, 113, 114, 115, 116, 117, 118, 119, 120, 121, 122, 48, 49, 50, 51, 52, 53, 54, 55, 56, 57, 45]⟩ : ByteArray)) x42)).bind fun r69 => (if (decide (r69 < 0)) then some false else (m_name_only_L1 xs43)))
noncomputable def m_name_only (a0 : ByteArray) : Option Bool :=
  (((bytesB a0)).bind fun l1 => m_name_only_L1 l1)
noncomputable def m_name_Right (a0 : ByteArray) : Option Bool :=
  (((if (decide (((a0.size : Int)) ≥ 1)) then some ((decide (((a0.size : Int)) ≤ 16))) else some false) : Option Bool).bind fun x2 => (((if x2 then (((idxS a0 0)).bind fun c40 => (((m_strings_IndexByte ((⟨#[97, 98, 99, 100, 101, 102, 103, 104, 105, 106, 107, 108, 109, 110, 111, 112, 113, 114, 115, 116, 117, 118, 119, 120, 121, 122]⟩ : ByteArray)) ((c40.toNat : Int)))).bind fun r42 => some ((decide (r42 ≥ 0))))) else some false) : Option Bool).bind fun x14 => (((if x14 then (((m_name_only a0)).bind fun r33 => some r33) else some false) : Option Bool).bind fun x24 => some x24)))
noncomputable def m_role_Right (a0 : Role) : Option Bool :=
  (((m_name_Right a0.Owner)).bind fun r3 => (((if r3 then (((m_name_Right a0.Word)).bind fun r19 => some r19) else some false) : Option Bool).bind fun x10 => some x10))
noncomputable def m_internal_bytealg_CompareString (a0 : ByteArray) (a1 : ByteArray) : Option Int :=
  some (xCompareS a0 a1)
noncomputable def m_strings_Compare (a0 : ByteArray) (a1 : ByteArray) : Option Int :=
  (((m_internal_bytealg_CompareString a0 a1)).bind fun r1 => some r1)
noncomputable def m_cmp_Or_int_L1  : List Int → Option Int
  | [] => some 0
  | x27 :: xs28 => (if (x27 != 0) then some x27 else (m_cmp_Or_int_L1 xs28))
noncomputable def m_cmp_Or_int (a0 : List Int) : Option Int :=
  m_cmp_Or_int_L1 a0
noncomputable def m_role_Compare (a0 : Role) (a1 : Role) : Option Int :=
  (((m_strings_Compare a0.Owner a1.Owner)).bind fun r27 => (((m_strings_Compare a0.Word a1.Word)).bind fun r30 => (((m_cmp_Or_int ([r27, r30]))).bind fun r35 => some r35)))
noncomputable def m_cred_Right (a0 : Cred) : Option Bool :=
  (((m_role_Right a0.Head)).bind fun r6 => (((if (a0.Kind == 1) then (((if r6 then (((m_name_Right a0.Who)).bind fun r330 => some r330) else some false) : Option Bool).bind fun x316 => some (Sum.inr (x316, ((⟨a0.Kind, a0.Head, a0.Who, (⟨zS, zS⟩ : Role), (⟨zS, zS⟩ : Role), zS⟩ : Cred))))) else (if (a0.Kind == 2) then (((if r6 then (((m_role_Right a0.B)).bind fun r393 => some r393) else some false) : Option Bool).bind fun x379 => some (Sum.inr (x379, ((⟨a0.Kind, a0.Head, zS, a0.B, (⟨zS, zS⟩ : Role), zS⟩ : Cred))))) else (if (a0.Kind == 3) then (((if r6 then (((m_role_Right a0.B)).bind fun r448 => some r448) else some false) : Option Bool).bind fun x407 => (((if x407 then some ((beqS a0.B.Owner a0.Head.Owner)) else some false) : Option Bool).bind fun x415 => (((if x415 then (((m_name_Right a0.Word2)).bind fun r437 => some r437) else some false) : Option Bool).bind fun x426 => some (Sum.inr (x426, ((⟨a0.Kind, a0.Head, zS, a0.B, (⟨zS, zS⟩ : Role), a0.Word2⟩ : Cred))))))) else (if (a0.Kind == 4) then (((if r6 then (((m_role_Right a0.B)).bind fun r509 => some r509) else some false) : Option Bool).bind fun x462 => (((if x462 then (((m_role_Right a0.C)).bind fun r502 => some r502) else some false) : Option Bool).bind fun x473 => (((if x473 then (((m_role_Compare a0.B a0.C)).bind fun r495 => some ((decide (r495 < 0)))) else some false) : Option Bool).bind fun x484 => some (Sum.inr (x484, ((⟨a0.Kind, a0.Head, zS, a0.B, a0.C, zS⟩ : Cred))))))) else some (Sum.inl false))))) : Option ((Bool ⊕ ((Bool × Cred))))).bind fun s => match s with | .inl q512 => some q512 | .inr (x251, x252) => (((if x251 then some ((beqCred x252 a0)) else some false) : Option Bool).bind fun x259 => some x259)))
noncomputable def m_cred_Roles (a0 : Cred) : Option (List Role) :=
  (((m_cred_Right a0)).bind fun r3 => (if (!r3) then some [] else (((if (a0.Kind != 1) then (((appB 32 ([a0.Head]) ([a0.B]))).bind fun l60 => some l60) else some ([a0.Head])) : Option (List Role)).bind fun l19 => (((if (a0.Kind == 4) then (((appB 32 l19 ([a0.C]))).bind fun l48 => some l48) else some l19) : Option (List Role)).bind fun l36 => some l36))))
noncomputable def m_slices_Compact_string_L2 (x2891 : Int) : Nat → (List ByteArray) → Int → Int → Option (((List ByteArray) × Int))
  | 0, _, _, _ => none
  | n4232 + 1, l4112, x4115, x4116 => (if (decide (x4116 < (((l4112.length - (Int.toNat x2891) : Nat) : Int)))) then (((((idx (l4112.drop (Int.toNat x2891)) x4116)).bind fun x4319 => (((idx (l4112.drop (Int.toNat x2891)) ((IntKind.i64.wrap (x4116 - 1))))).bind fun x4324 => (if (!(beqS x4319 x4324)) then (((idx (l4112.drop (Int.toNat x2891)) x4116)).bind fun x4330 => (((idx l4112 x4115)).bind fun x4335 => some (((l4112.set (Int.toNat x4115) x4330)), ((IntKind.i64.wrap (x4115 + 1)))))) else some (l4112, x4115)))) : Option (((List ByteArray) × Int))).bind fun (l4283, x4286) => (m_slices_Compact_string_L2 x2891 n4232 l4283 x4286 ((IntKind.i64.wrap (x4116 + 1))))) else some (l4112, x4115))
noncomputable def m_slices_Compact_string_L1 (a0 : List ByteArray) : Nat → Int → Option (List ByteArray)
  | 0, _ => none
  | n3617 + 1, x2891 => (if (decide (x2891 < ((a0.length : Int)))) then (((idx a0 x2891)).bind fun x3644 => (((idx a0 ((IntKind.i64.wrap (x2891 - 1))))).bind fun x3649 => (if (beqS x3644 x3649) then (((chk (decide (0 ≤ x2891) && decide (x2891 ≤ (a0.length : Int))))).bind fun _ => ((m_slices_Compact_string_L2 x2891 FUEL a0 x2891 1 : Option (((List ByteArray) × Int))).bind fun (l3988, x3991) => (((chk (decide (0 ≤ x3991) && decide (x3991 ≤ (l3988.length : Int))))).bind fun _ => (((chk (decide (0 ≤ x3991) && decide (x3991 ≤ (((clearT l3988 (Int.toNat x3991) zS)).length : Int))))).bind fun _ => some (((clearT l3988 (Int.toNat x3991) zS)).take (Int.toNat x3991)))))) else (m_slices_Compact_string_L1 a0 n3617 ((IntKind.i64.wrap (x2891 + 1))))))) else some a0)
noncomputable def m_slices_Compact_string (a0 : List ByteArray) : Option (List ByteArray) :=
  (if (decide (((a0.length : Int)) < 2)) then some a0 else m_slices_Compact_string_L1 a0 FUEL 1)
noncomputable def m_name_Set_L1  : List ByteArray → (List ByteArray) → Option (List ByteArray)
  | [], l90 => (((sortS l90)).bind fun r133 => (((m_slices_Compact_string r133)).bind fun r144 => some r144))
  | x68 :: xs69, l90 => (((m_name_Right x68)).bind fun r121 => (if r121 then (((appB 16 l90 ([x68]))).bind fun l127 => (m_name_Set_L1 xs69 l127)) else (m_name_Set_L1 xs69 l90)))
noncomputable def m_name_Set (a0 : List ByteArray) : Option (List ByteArray) :=
  m_name_Set_L1 a0 ([])
noncomputable def m_law05_Great_L1  : List Cred → Int → Option Int
  | [], x47 => some x47
  | x35 :: xs36, x47 => (m_law05_Great_L1 xs36 ((IntKind.i64.wrap (x47 + ((IntKind.i64.wrap (((IntKind.i64.wrap (((IntKind.i64.wrap (((IntKind.i64.wrap (((IntKind.i64.wrap (((IntKind.i64.wrap (((IntKind.i64.wrap (((IntKind.i64.wrap (20 + ((x35.Head.Owner.size : Int))))) + ((x35.Head.Word.size : Int))))) + ((x35.Who.size : Int))))) + ((x35.B.Owner.size : Int))))) + ((x35.B.Word.size : Int))))) + ((x35.C.Owner.size : Int))))) + ((x35.C.Word.size : Int))))) + ((x35.Word2.size : Int)))))))))
noncomputable def m_law05_Great (a0 : List Cred) : Option Int :=
  m_law05_Great_L1 a0 0
noncomputable def m_ref03_Right_L1 (a0 : ByteArray) : Nat → Int → Option Bool
  | 0, _ => none
  | n364 + 1, x293 => (if (decide (x293 < ((a0.size : Int)))) then (((idxS a0 x293)).bind fun c368 => (((if (decide (((c368.toNat : Int)) < 97)) then some true else some ((decide (((c368.toNat : Int)) > 122)))) : Option Bool).bind fun x371 => (((if x371 then (((if (decide (((c368.toNat : Int)) < 48)) then some true else some ((decide (((c368.toNat : Int)) > 57)))) : Option Bool).bind fun x416 => some x416) else some false) : Option Bool).bind fun x392 => (((if x392 then some ((((c368.toNat : Int)) != 45)) else some false) : Option Bool).bind fun x400 => (if x400 then some false else (m_ref03_Right_L1 a0 n364 ((IntKind.i64.wrap (x293 + 1))))))))) else some true)
noncomputable def m_ref03_Right (a0 : ByteArray) : Option Bool :=
  (((if (beqS a0 zS) then some true else some ((decide (((a0.size : Int)) > 16)))) : Option Bool).bind fun x2 => (((if x2 then some true else (((idxS a0 0)).bind fun c442 => some ((decide (((c442.toNat : Int)) < 97))))) : Option Bool).bind fun x10 => (((if x10 then some true else (((idxS a0 0)).bind fun c436 => some ((decide (((c436.toNat : Int)) > 122))))) : Option Bool).bind fun x18 => (if x18 then some false else m_ref03_Right_L1 a0 FUEL 0))))
noncomputable def m_ref04_Right (a0 : Role) : Option Bool :=
  (((m_ref03_Right a0.Owner)).bind fun r3 => (((if r3 then (((m_ref03_Right a0.Word)).bind fun r19 => some r19) else some false) : Option Bool).bind fun x10 => some x10))
noncomputable def m_ref04_Less (a0 : Role) (a1 : Role) : Option Bool :=
  (((if (ltS a0.Owner a1.Owner) then some true else (((if (beqS a0.Owner a1.Owner) then some ((ltS a0.Word a1.Word)) else some false) : Option Bool).bind fun x27 => some x27)) : Option Bool).bind fun x17 => some x17)
noncomputable def m_ref05_Right (a0 : Cred) : Option Bool :=
  (((m_ref04_Right a0.Head)).bind fun r5 => (if (!r5) then some false else (if (a0.Kind == 1) then (((m_ref03_Right a0.Who)).bind fun r10 => (((if r10 then some ((beqRole a0.B ((⟨zS, zS⟩ : Role)))) else some false) : Option Bool).bind fun x14 => (((if x14 then some ((beqRole a0.C ((⟨zS, zS⟩ : Role)))) else some false) : Option Bool).bind fun x22 => (((if x22 then some ((beqS a0.Word2 zS)) else some false) : Option Bool).bind fun x29 => some x29)))) else (((if (!(beqS a0.Who zS)) then some true else (((m_ref04_Right a0.B)).bind fun r138 => some ((!r138)))) : Option Bool).bind fun x50 => (if x50 then some false else (if (a0.Kind == 2) then (((if (beqRole a0.C ((⟨zS, zS⟩ : Role))) then some ((beqS a0.Word2 zS)) else some false) : Option Bool).bind fun x59 => some x59) else (if (a0.Kind == 3) then (((if (beqRole a0.C ((⟨zS, zS⟩ : Role))) then some ((beqS a0.B.Owner a0.Head.Owner)) else some false) : Option Bool).bind fun x69 => (((if x69 then (((m_ref03_Right a0.Word2)).bind fun r86 => some r86) else some false) : Option Bool).bind fun x78 => some x78)) else (((if (a0.Kind == 4) then some ((beqS a0.Word2 zS)) else some false) : Option Bool).bind fun x94 => (((if x94 then (((m_ref04_Right a0.C)).bind fun r127 => some r127) else some false) : Option Bool).bind fun x103 => (((if x103 then (((m_ref04_Less a0.B a0.C)).bind fun r120 => some r120) else some false) : Option Bool).bind fun x112 => some x112))))))))))
noncomputable def m_ref01_Number_L1  : Nat → Int → ByteArray → Option ByteArray
  | 0, _, _ => none
  | n45 + 1, x32, x33 => (if (decide (x32 ≥ 128)) then (((catS x33 ((strI ([(IntKind.u8.wrap ((IntKind.i64.wrap (128 + ((Int.tmod x32 128))))))]))))).bind fun s51 => (m_ref01_Number_L1 n45 ((IntKind.i64.wrap (Int.tdiv x32 128))) s51)) else (((catS x33 ((strI ([(IntKind.u8.wrap x32)]))))).bind fun s55 => some s55))
noncomputable def m_ref01_Number (a0 : Int) : Option ByteArray :=
  m_ref01_Number_L1 FUEL a0 zS
noncomputable def m_ref01_Text (a0 : ByteArray) : Option ByteArray :=
  (((m_ref01_Number ((a0.size : Int)))).bind fun r1 => (((catS r1 a0)).bind fun s4 => some s4))
noncomputable def m_ref04_Bytes (a0 : Role) : Option ByteArray :=
  (((m_ref01_Text a0.Owner)).bind fun r19 => (((m_ref01_Text a0.Word)).bind fun r22 => (((catS r19 r22)).bind fun s25 => some s25)))
noncomputable def m_ref05_Bytes (a0 : Cred) : Option ByteArray :=
  (((m_ref01_Number a0.Kind)).bind fun r19 => (((m_ref04_Bytes a0.Head)).bind fun r22 => (((catS r19 r22)).bind fun s25 => (if (a0.Kind == 1) then (((m_ref01_Text a0.Who)).bind fun r28 => (((catS s25 r28)).bind fun s31 => some s31)) else (((m_ref04_Bytes a0.B)).bind fun r33 => (((catS s25 r33)).bind fun s36 => (((if (a0.Kind == 3) then (((m_ref01_Text a0.Word2)).bind fun r72 => (((catS s36 r72)).bind fun s75 => some s75)) else some s36) : Option ByteArray).bind fun x44 => (((if (a0.Kind == 4) then (((m_ref04_Bytes a0.C)).bind fun r63 => (((catS x44 r63)).bind fun s66 => some s66)) else some x44) : Option ByteArray).bind fun x55 => some x55))))))))
noncomputable def m_ref05_bytes (a0 : Cred) : Option ByteArray :=
  (((m_ref05_Right a0)).bind fun r3 => (if (!r3) then some zS else (((m_ref05_Bytes a0)).bind fun r7 => some r7)))
noncomputable def m_ref05_Compare (a0 : Cred) (a1 : Cred) : Option Int :=
  (((m_ref05_bytes a0)).bind fun r5 => (((m_ref05_bytes a1)).bind fun r8 => (if (ltS r5 r8) then some (-1) else (if (!(ltS r5 r8 || beqS r5 r8)) then some 1 else some 0))))
noncomputable def m_ref05_Set_L2 (l11497 : List Cred) : List Cred → Bool → Cred → Option ((Bool × Cred))
  | [], x16301, x16302 => some (x16301, x16302)
  | x15828 :: xs15829, x16301, x16302 => (((m_ref05_Right x15828)).bind fun r17096 => (((if r17096 then (((if (((l11497.length : Int)) == 0) then some true else (((idx l11497 ((IntKind.i64.wrap (((l11497.length : Int)) - 1))))).bind fun x17246 => (((m_ref05_Compare x17246 x15828)).bind fun r17248 => some ((decide (r17248 < 0)))))) : Option Bool).bind fun x17226 => some x17226) else some false) : Option Bool).bind fun x17134 => (((if x17134 then (((if (!x16301) then some true else (((m_ref05_Compare x15828 x16302)).bind fun r17210 => some ((decide (r17210 < 0))))) : Option Bool).bind fun x17193 => some x17193) else some false) : Option Bool).bind fun x17171 => (if x17171 then (m_ref05_Set_L2 l11497 xs15829 true x15828) else (m_ref05_Set_L2 l11497 xs15829 x16301 x16302)))))
noncomputable def m_ref05_Set_L1 (a0 : List Cred) : Nat → (List Cred) → Option (List Cred)
  | 0, _ => none
  | n14378 + 1, l11497 => ((m_ref05_Set_L2 l11497 a0 false ((⟨0, (⟨zS, zS⟩ : Role), zS, (⟨zS, zS⟩ : Role), (⟨zS, zS⟩ : Role), zS⟩ : Cred)) : Option ((Bool × Cred))).bind fun (x15807, x15808) => (if (!x15807) then some l11497 else (((appB 136 l11497 ([x15808]))).bind fun l15818 => (m_ref05_Set_L1 a0 n14378 l15818))))
noncomputable def m_ref05_Set (a0 : List Cred) : Option (List Cred) :=
  m_ref05_Set_L1 a0 FUEL ([])
noncomputable def m_ref03_Set_L2 (l3289 : List ByteArray) : List ByteArray → ByteArray → Option ByteArray
  | [], x4673 => some x4673
  | x4540 :: xs4541, x4673 => (((m_ref03_Right x4540)).bind fun r4815 => (((if r4815 then (((if (((l3289.length : Int)) == 0) then some true else (((idx l3289 ((IntKind.i64.wrap (((l3289.length : Int)) - 1))))).bind fun x4937 => some ((!(ltS x4540 x4937 || beqS x4540 x4937))))) : Option Bool).bind fun x4918 => some x4918) else some false) : Option Bool).bind fun x4846 => (((if x4846 then (((if (beqS x4673 zS) then some true else some ((ltS x4540 x4673))) : Option Bool).bind fun x4892 => some x4892) else some false) : Option Bool).bind fun x4875 => (if x4875 then (m_ref03_Set_L2 l3289 xs4541 x4540) else (m_ref03_Set_L2 l3289 xs4541 x4673)))))
noncomputable def m_ref03_Set_L1 (a0 : List ByteArray) : Nat → (List ByteArray) → Option (List ByteArray)
  | 0, _ => none
  | n4118 + 1, l3289 => ((m_ref03_Set_L2 l3289 a0 zS : Option ByteArray).bind fun x4521 => (if (beqS x4521 zS) then some l3289 else (((appB 16 l3289 ([x4521]))).bind fun l4530 => (m_ref03_Set_L1 a0 n4118 l4530))))
noncomputable def m_ref03_Set (a0 : List ByteArray) : Option (List ByteArray) :=
  m_ref03_Set_L1 a0 FUEL ([])
noncomputable def m_slices_Index_Cred_L1 (a1 : Cred) : List Cred → Nat → Option Int
  | [], _ => some (-1)
  | x47 :: xs48, i46 => (if (beqCred a1 x47) then some (i46 : Int) else (m_slices_Index_Cred_L1 a1 xs48 (i46 + 1)))
noncomputable def m_slices_Index_Cred (a0 : List Cred) (a1 : Cred) : Option Int :=
  m_slices_Index_Cred_L1 a1 a0 0
noncomputable def m_slices_Contains_Cred (a0 : List Cred) (a1 : Cred) : Option Bool :=
  (((m_slices_Index_Cred a0 a1)).bind fun r3 => some (decide (r3 ≥ 0)))
noncomputable def m_cred_Has (a0 : List Cred) (a1 : Cred) : Option Bool :=
  (((m_slices_Contains_Cred a0 a1)).bind fun r3 => some r3)
noncomputable def m_model_Model_note_w_L1 (a1 : Cred) (a0_words : List (ByteArray × (List Cred))) (l27 : List Cred) : List Role → (List (Role × (List Cred))) → Option (((List Cred) × (List (Role × (List Cred))) × (List (ByteArray × (List Cred)))))
  | [], l354 => (if (a1.Kind == 3) then (((appB 136 (((mget beqS a0_words a1.Word2).getD [])) ([a1]))).bind fun l565 => some (l27, l354, (mput beqS a0_words a1.Word2 l565))) else some (l27, l354, a0_words))
  | x279 :: xs280, l354 => (((appB 136 (((mget beqRole l354 x279).getD [])) ([a1]))).bind fun l496 => (m_model_Model_note_w_L1 a1 a0_words l27 xs280 ((mput beqRole l354 x279 l496))))
noncomputable def m_model_Model_note_w (a0_in_ : List (Role × (List (ByteArray × Bool)))) (a0_creds : List Cred) (a0_uses : List (Role × (List Cred))) (a0_words : List (ByteArray × (List Cred))) (a0_todo : List Fact) (a0_n : Int) (a1 : Cred) : Option (((List Cred) × (List (Role × (List Cred))) × (List (ByteArray × (List Cred))))) :=
  (((appB 136 a0_creds ([a1]))).bind fun l27 => (((m_cred_Roles a1)).bind fun r36 => (((chk (decide (0 ≤ 1) && decide (1 ≤ (r36.length : Int))))).bind fun _ => m_model_Model_note_w_L1 a1 a0_words l27 ((r36.drop (Int.toNat 1))) a0_uses)))
noncomputable def m_model_Model_tell_w (a0_in_ : List (Role × (List (ByteArray × Bool)))) (a0_creds : List Cred) (a0_uses : List (Role × (List Cred))) (a0_words : List (ByteArray × (List Cred))) (a0_todo : List Fact) (a0_n : Int) (a1 : Role) (a2 : ByteArray) : Option (((List (Role × (List (ByteArray × Bool)))) × (List Fact) × Int)) :=
  (if (mgetD beqS (((mget beqRole a0_in_ a1).getD [])) a2 false) then some (a0_in_, a0_todo, a0_n) else (((if (mget beqRole a0_in_ a1).isNone then (((mnew beqRole a0_in_ a1 ([]))).bind fun l131 => some l131) else some a0_in_) : Option (List (Role × (List (ByteArray × Bool))))).bind fun l38 => (((mupd beqRole beqS l38 a1 a2 true)).bind fun l66 => (((appB 48 a0_todo ([(⟨a1, a2⟩ : Fact)]))).bind fun l96 => some (l66, l96, (IntKind.i64.wrap (a0_n + 1)))))))
noncomputable def m_maps_Keys_map_stringbool_string_bool_ (a0 : List (ByteArray × Bool)) : Option Unit :=
  some ()
noncomputable def m_model_Model_Members (a0_in_ : List (Role × (List (ByteArray × Bool)))) (a0_creds : List Cred) (a0_uses : List (Role × (List Cred))) (a0_words : List (ByteArray × (List Cred))) (a0_todo : List Fact) (a0_n : Int) (a1 : Role) : Option (List ByteArray) :=
  (((m_maps_Keys_map_stringbool_string_bool_ (((mget beqRole a0_in_ a1).getD [])))).bind fun r60 => (((keysS (((mget beqRole a0_in_ a1).getD [])))).bind fun r70 => some r70))
noncomputable def m_model_Model_all_w_L1 (a0_creds : List Cred) (a0_uses : List (Role × (List Cred))) (a0_words : List (ByteArray × (List Cred))) (a2 : Role) : List ByteArray → (List (Role × (List (ByteArray × Bool)))) → (List Fact) → Int → Option (((List (Role × (List (ByteArray × Bool)))) × (List Fact) × Int))
  | [], l124, l128, x131 => some (l124, l128, x131)
  | x100 :: xs101, l124, l128, x131 => (((m_model_Model_tell_w l124 a0_creds a0_uses a0_words l128 x131 a2 x100)).bind fun r171 => (m_model_Model_all_w_L1 a0_creds a0_uses a0_words a2 xs101 r171.1 r171.2.1 r171.2.2))
noncomputable def m_model_Model_all_w (a0_in_ : List (Role × (List (ByteArray × Bool)))) (a0_creds : List Cred) (a0_uses : List (Role × (List Cred))) (a0_words : List (ByteArray × (List Cred))) (a0_todo : List Fact) (a0_n : Int) (a1 : Role) (a2 : Role) : Option (((List (Role × (List (ByteArray × Bool)))) × (List Fact) × Int)) :=
  (((m_model_Model_Members a0_in_ a0_creds a0_uses a0_words a0_todo a0_n a1)).bind fun r5 => m_model_Model_all_w_L1 a0_creds a0_uses a0_words a2 r5 a0_in_ a0_todo a0_n)
noncomputable def m_model_Model_use_w (a0_in_ : List (Role × (List (ByteArray × Bool)))) (a0_creds : List Cred) (a0_uses : List (Role × (List Cred))) (a0_words : List (ByteArray × (List Cred))) (a0_todo : List Fact) (a0_n : Int) (a1 : Cred) (a2 : Fact) : Option (((List (Role × (List (ByteArray × Bool)))) × (List Fact) × Int)) :=
  (if (a1.Kind == 2) then (((m_model_Model_tell_w a0_in_ a0_creds a0_uses a0_words a0_todo a0_n a1.Head a2.Who)).bind fun r6 => some (r6.1, r6.2.1, r6.2.2)) else (if (a1.Kind == 3) then (((m_model_Model_all_w a0_in_ a0_creds a0_uses a0_words a0_todo a0_n ((⟨a2.Who, a1.Word2⟩ : Role)) a1.Head)).bind fun r21 => some (r21.1, r21.2.1, r21.2.2)) else (if (a1.Kind == 4) then (((if (mgetD beqS (((mget beqRole a0_in_ a1.B).getD [])) a2.Who false) then some ((mgetD beqS (((mget beqRole a0_in_ a1.C).getD [])) a2.Who false)) else some false) : Option Bool).bind fun x67 => (if x67 then (((m_model_Model_tell_w a0_in_ a0_creds a0_uses a0_words a0_todo a0_n a1.Head a2.Who)).bind fun r75 => some (r75.1, r75.2.1, r75.2.2)) else some (a0_in_, a0_todo, a0_n))) else some (a0_in_, a0_todo, a0_n))))
noncomputable def m_model_Model_begin_w_L1 (a0_creds : List Cred) (a0_uses : List (Role × (List Cred))) (a0_words : List (ByteArray × (List Cred))) (a1 : Cred) : List ByteArray → (List (Role × (List (ByteArray × Bool)))) → (List Fact) → Int → Option (((List (Role × (List (ByteArray × Bool)))) × (List Fact) × Int))
  | [], l137, l141, x144 => some (l137, l141, x144)
  | x113 :: xs114, l137, l141, x144 => (((m_model_Model_use_w l137 a0_creds a0_uses a0_words l141 x144 a1 ((⟨a1.B, x113⟩ : Fact)))).bind fun r184 => (m_model_Model_begin_w_L1 a0_creds a0_uses a0_words a1 xs114 r184.1 r184.2.1 r184.2.2))
noncomputable def m_model_Model_begin_w (a0_in_ : List (Role × (List (ByteArray × Bool)))) (a0_creds : List Cred) (a0_uses : List (Role × (List Cred))) (a0_words : List (ByteArray × (List Cred))) (a0_todo : List Fact) (a0_n : Int) (a1 : Cred) : Option (((List (Role × (List (ByteArray × Bool)))) × (List Fact) × Int)) :=
  (if (a1.Kind == 1) then (((m_model_Model_tell_w a0_in_ a0_creds a0_uses a0_words a0_todo a0_n a1.Head a1.Who)).bind fun r4 => some (r4.1, r4.2.1, r4.2.2)) else (((m_model_Model_Members a0_in_ a0_creds a0_uses a0_words a0_todo a0_n a1.B)).bind fun r18 => m_model_Model_begin_w_L1 a0_creds a0_uses a0_words a1 r18 a0_in_ a0_todo a0_n))
noncomputable def m_model_Model_settle_w_L2 (x2555 : Fact) (a0_creds : List Cred) (a0_uses : List (Role × (List Cred))) (a0_words : List (ByteArray × (List Cred))) : List Cred → (List (Role × (List (ByteArray × Bool)))) → (List Fact) → Int → Option (((List (Role × (List (ByteArray × Bool)))) × (List Fact) × Int))
  | [], l2872, l2876, x2879 => some (l2872, l2876, x2879)
  | x2838 :: xs2839, l2872, l2876, x2879 => (if (mgetD beqS (((mget beqRole l2872 x2838.B).getD [])) x2555.Role.Owner false) then (((m_model_Model_tell_w l2872 a0_creds a0_uses a0_words l2876 x2879 x2838.Head x2555.Who)).bind fun r2939 => (m_model_Model_settle_w_L2 x2555 a0_creds a0_uses a0_words xs2839 r2939.1 r2939.2.1 r2939.2.2)) else (m_model_Model_settle_w_L2 x2555 a0_creds a0_uses a0_words xs2839 l2872 l2876 x2879))
noncomputable def m_model_Model_settle_w_L3 (a0_creds : List Cred) (a0_uses : List (Role × (List Cred))) (a0_words : List (ByteArray × (List Cred))) (x2555 : Fact) : List Cred → (List (Role × (List (ByteArray × Bool)))) → (List Fact) → Int → Option (((List (Role × (List (ByteArray × Bool)))) × (List Fact) × Int))
  | [], l2984, l2988, x2991 => some (l2984, l2988, x2991)
  | x2957 :: xs2958, l2984, l2988, x2991 => (((m_model_Model_use_w l2984 a0_creds a0_uses a0_words l2988 x2991 x2957 x2555)).bind fun r3037 => (m_model_Model_settle_w_L3 a0_creds a0_uses a0_words x2555 xs2958 r3037.1 r3037.2.1 r3037.2.2))
noncomputable def m_model_Model_settle_w_L1 (a0_creds : List Cred) (a0_uses : List (Role × (List Cred))) (a0_words : List (ByteArray × (List Cred))) : Nat → (List (Role × (List (ByteArray × Bool)))) → (List Fact) → Int → Option (((List (Role × (List (ByteArray × Bool)))) × (List Fact) × Int))
  | 0, _, _, _ => none
  | n2548 + 1, l2027, l2031, x2034 => (if (decide (((l2031.length : Int)) > 0)) then (((idx l2031 0)).bind fun x2555 => (((chk (decide (0 ≤ 1) && decide (1 ≤ (l2031.length : Int))))).bind fun _ => ((m_model_Model_settle_w_L3 a0_creds a0_uses a0_words x2555 (((mget beqRole a0_uses x2555.Role).getD [])) l2027 ((l2031.drop (Int.toNat 1))) x2034 : Option (((List (Role × (List (ByteArray × Bool)))) × (List Fact) × Int))).bind fun (l2677, l2681, x2684) => ((m_model_Model_settle_w_L2 x2555 a0_creds a0_uses a0_words (((mget beqS a0_words x2555.Role.Word).getD [])) l2677 l2681 x2684 : Option (((List (Role × (List (ByteArray × Bool)))) × (List Fact) × Int))).bind fun (l2822, l2826, x2829) => (m_model_Model_settle_w_L1 a0_creds a0_uses a0_words n2548 l2822 l2826 x2829))))) else some (l2027, l2031, x2034))
noncomputable def m_model_Model_settle_w (a0_in_ : List (Role × (List (ByteArray × Bool)))) (a0_creds : List Cred) (a0_uses : List (Role × (List Cred))) (a0_words : List (ByteArray × (List Cred))) (a0_todo : List Fact) (a0_n : Int) : Option (((List (Role × (List (ByteArray × Bool)))) × (List Fact) × Int)) :=
  m_model_Model_settle_w_L1 a0_creds a0_uses a0_words FUEL a0_in_ a0_todo a0_n
noncomputable def m_model_Model_Add_w_L1 (a0_n : Int) : List Cred → (List (Role × (List (ByteArray × Bool)))) → (List Cred) → (List (Role × (List Cred))) → (List (ByteArray × (List Cred))) → (List Fact) → Int → Option ((Int × (List (Role × (List (ByteArray × Bool)))) × (List Cred) × (List (Role × (List Cred))) × (List (ByteArray × (List Cred))) × (List Fact) × Int))
  | [], l500, l504, l507, l510, l514, x517 => (((m_model_Model_settle_w l500 l504 l507 l510 l514 x517)).bind fun r765 => some ((IntKind.i64.wrap (r765.2.2 - a0_n)), r765.1, l504, l507, l510, r765.2.1, r765.2.2))
  | x384 :: xs385, l500, l504, l507, l510, l514, x517 => (((m_cred_Right x384)).bind fun r710 => (((if r710 then (((m_cred_Has l504 x384)).bind fun r762 => some ((!r762))) else some false) : Option Bool).bind fun x717 => (if x717 then (((m_model_Model_note_w l500 l504 l507 l510 l514 x517 x384)).bind fun r728 => (((m_model_Model_begin_w l500 r728.1 r728.2.1 r728.2.2 l514 x517 x384)).bind fun r744 => (m_model_Model_Add_w_L1 a0_n xs385 r744.1 r728.1 r728.2.1 r728.2.2 r744.2.1 r744.2.2))) else (m_model_Model_Add_w_L1 a0_n xs385 l500 l504 l507 l510 l514 x517))))
noncomputable def m_model_Model_Add_w (a0_in_ : List (Role × (List (ByteArray × Bool)))) (a0_creds : List Cred) (a0_uses : List (Role × (List Cred))) (a0_words : List (ByteArray × (List Cred))) (a0_todo : List Fact) (a0_n : Int) (a1 : List Cred) : Option ((Int × (List (Role × (List (ByteArray × Bool)))) × (List Cred) × (List (Role × (List Cred))) × (List (ByteArray × (List Cred))) × (List Fact) × Int)) :=
  m_model_Model_Add_w_L1 a0_n a1 a0_in_ a0_creds a0_uses a0_words a0_todo a0_n
noncomputable def m_model_Of (a0 : List Cred) : Option (((List (Role × (List (ByteArray × Bool)))) × (List Cred) × (List (Role × (List Cred))) × (List (ByteArray × (List Cred))) × (List Fact) × Int)) :=
  (((m_model_Model_Add_w ([]) ([]) ([]) ([]) ([]) 0 a0)).bind fun r18 => some (r18.2.1, r18.2.2.1, r18.2.2.2.1, r18.2.2.2.2.1, r18.2.2.2.2.2.1, r18.2.2.2.2.2.2))
noncomputable def m_slices_IndexFunc_string_L1 (f1 : ByteArray → Option Bool) : List ByteArray → Nat → Option Int
  | [], _ => some (-1)
  | x36 :: xs37, i35 => (((f1 x36)).bind fun r65 => (if r65 then some (i35 : Int) else (m_slices_IndexFunc_string_L1 f1 xs37 (i35 + 1))))
noncomputable def m_slices_IndexFunc_string (a0 : List ByteArray) (f1 : ByteArray → Option Bool) : Option Int :=
  m_slices_IndexFunc_string_L1 f1 a0 0
noncomputable def m_slices_ContainsFunc_string (a0 : List ByteArray) (f1 : ByteArray → Option Bool) : Option Bool :=
  (((m_slices_IndexFunc_string a0 f1)).bind fun r1 => some (decide (r1 ≥ 0)))
noncomputable def m_model_brings_c1 (a0 : ByteArray) (f_c0 : ((Role × ByteArray)) → Option Bool) (c1 : Cred) (c2 : ByteArray) : Option Bool :=
  (((f_c0 ((c1.B, a0)))).bind fun r4 => (((if r4 then (((f_c0 (((⟨a0, c1.Word2⟩ : Role), c2)))).bind fun r26 => some r26) else some false) : Option Bool).bind fun x14 => some x14))
noncomputable def m_model_brings (a0 : Cred) (f1 : ((Role × ByteArray)) → Option Bool) (a2 : List ByteArray) (a3 : ByteArray) : Option Bool :=
  (if (a0.Kind == 1) then some (beqS a0.Who a3) else (if (a0.Kind == 2) then (((f1 ((a0.B, a3)))).bind fun r12 => some r12) else (if (a0.Kind == 4) then (((f1 ((a0.B, a3)))).bind fun r16 => (((if r16 then (((f1 ((a0.C, a3)))).bind fun r32 => some r32) else some false) : Option Bool).bind fun x23 => some x23)) else (((m_slices_ContainsFunc_string a2 (fun (x : ByteArray) => m_model_brings_c1 x f1 a0 a3))).bind fun r35 => some r35))))
noncomputable def m_model_Holds_L1 (a0 : Cred) (f1 : ((Role × ByteArray)) → Option Bool) (r15 : List ByteArray) : List ByteArray → (List Fact) → Option (List Fact)
  | [], l148 => some l148
  | x126 :: xs127, l148 => (((m_model_brings a0 f1 r15 x126)).bind fun r185 => (if r185 then (((appB 48 l148 ([(⟨a0.Head, x126⟩ : Fact)]))).bind fun l191 => (m_model_Holds_L1 a0 f1 r15 xs127 l191)) else (m_model_Holds_L1 a0 f1 r15 xs127 l148)))
noncomputable def m_model_Holds (a0 : Cred) (f1 : ((Role × ByteArray)) → Option Bool) (a2 : List ByteArray) : Option (List Fact) :=
  (((m_cred_Right a0)).bind fun r3 => (((if (!r3) then some true else some false) : Option Bool).bind fun x7 => (if x7 then some [] else (((m_name_Set a2)).bind fun r15 => (((if (a0.Kind == 1) then some ([a0.Who]) else some r15) : Option (List ByteArray)).bind fun l43 => m_model_Holds_L1 a0 f1 r15 l43 ([]))))))
noncomputable def m_model_Model_In (a0_in_ : List (Role × (List (ByteArray × Bool)))) (a0_creds : List Cred) (a0_uses : List (Role × (List Cred))) (a0_words : List (ByteArray × (List Cred))) (a0_todo : List Fact) (a0_n : Int) (a1 : Role) (a2 : ByteArray) : Option Bool :=
  some (mgetD beqS (((mget beqRole a0_in_ a1).getD [])) a2 false)
noncomputable def m_model_Model_Facts_c1 (a0 : Fact) (a1 : Fact) : Option Int :=
  (((m_role_Compare a0.Role a1.Role)).bind fun r27 => (((m_strings_Compare a0.Who a1.Who)).bind fun r30 => (((m_cmp_Or_int ([r27, r30]))).bind fun r35 => some r35)))
noncomputable def m_model_Model_Facts (a0_in_ : List (Role × (List (ByteArray × Bool)))) (a0_creds : List Cred) (a0_uses : List (Role × (List Cred))) (a0_words : List (ByteArray × (List Cred))) (a0_todo : List Fact) (a0_n : Int) : Option (List Fact) :=
  ((pairsB 48 (fun (a : Role) (b : ByteArray) => (⟨a, b⟩ : Fact)) a0_in_).bind fun fs => allOrders fs (fun l_f => (((sortF (fun (x : (Fact × Fact)) => m_model_Model_Facts_c1 x.1 x.2) l_f)).bind fun r4 => some r4)))
noncomputable def m_model_Model_Roles_L1 (a1 : ByteArray) : List Fact → (List Role) → Option (List Role)
  | [], l100 => some l100
  | x78 :: xs79, l100 => (if (beqS x78.Who a1) then (((appB 32 l100 ([x78.Role]))).bind fun l139 => (m_model_Model_Roles_L1 a1 xs79 l139)) else (m_model_Model_Roles_L1 a1 xs79 l100))
noncomputable def m_model_Model_Roles (a0_in_ : List (Role × (List (ByteArray × Bool)))) (a0_creds : List Cred) (a0_uses : List (Role × (List Cred))) (a0_words : List (ByteArray × (List Cred))) (a0_todo : List Fact) (a0_n : Int) (a1 : ByteArray) : Option (List Role) :=
  (((m_model_Model_Facts a0_in_ a0_creds a0_uses a0_words a0_todo a0_n)).bind fun r1 => m_model_Model_Roles_L1 a1 r1 ([]))
noncomputable def m_law08_first  : Option Bool :=
  (((m_model_Of ([(⟨2, (⟨(⟨#[97]⟩ : ByteArray), (⟨#[114]⟩ : ByteArray)⟩ : Role), zS, (⟨(⟨#[98]⟩ : ByteArray), (⟨#[115]⟩ : ByteArray)⟩ : Role), (⟨zS, zS⟩ : Role), zS⟩ : Cred)]))).bind fun r25 => (((m_model_Model_Add_w r25.1 r25.2.1 r25.2.2.1 r25.2.2.2.1 r25.2.2.2.2.1 r25.2.2.2.2.2 ([(⟨1, (⟨(⟨#[98]⟩ : ByteArray), (⟨#[115]⟩ : ByteArray)⟩ : Role), (⟨#[100]⟩ : ByteArray), (⟨zS, zS⟩ : Role), (⟨zS, zS⟩ : Role), zS⟩ : Cred)]))).bind fun r52 => (((m_model_Holds ((⟨2, (⟨(⟨#[97]⟩ : ByteArray), (⟨#[114]⟩ : ByteArray)⟩ : Role), zS, (⟨(⟨#[98]⟩ : ByteArray), (⟨#[115]⟩ : ByteArray)⟩ : Role), (⟨zS, zS⟩ : Role), zS⟩ : Cred)) (fun (x : (Role × ByteArray)) => m_model_Model_In r52.2.1 r52.2.2.1 r52.2.2.2.1 r52.2.2.2.2.1 r52.2.2.2.2.2.1 r52.2.2.2.2.2.2 x.1 x.2) ([(⟨#[97]⟩ : ByteArray), (⟨#[100]⟩ : ByteArray)]))).bind fun r75 => (((if (r52.1 == 2) then (((m_model_Model_In r52.2.1 r52.2.2.1 r52.2.2.2.1 r52.2.2.2.2.1 r52.2.2.2.2.2.1 r52.2.2.2.2.2.2 ((⟨(⟨#[97]⟩ : ByteArray), (⟨#[114]⟩ : ByteArray)⟩ : Role)) ((⟨#[100]⟩ : ByteArray)))).bind fun r764 => some r764) else some false) : Option Bool).bind fun x543 => (((if x543 then (((m_model_Model_In r52.2.1 r52.2.2.1 r52.2.2.2.1 r52.2.2.2.2.1 r52.2.2.2.2.2.1 r52.2.2.2.2.2.2 ((⟨(⟨#[97]⟩ : ByteArray), (⟨#[114]⟩ : ByteArray)⟩ : Role)) ((⟨#[97]⟩ : ByteArray)))).bind fun r757 => some ((!r757))) else some false) : Option Bool).bind fun x556 => (((if x556 then (((m_model_Model_Members r52.2.1 r52.2.2.1 r52.2.2.2.1 r52.2.2.2.2.1 r52.2.2.2.2.2.1 r52.2.2.2.2.2.2 ((⟨(⟨#[97]⟩ : ByteArray), (⟨#[114]⟩ : ByteArray)⟩ : Role)))).bind fun r745 => some ((((r745.length : Int)) == 1))) else some false) : Option Bool).bind fun x575 => (((if x575 then (((m_model_Model_Roles r52.2.1 r52.2.2.1 r52.2.2.2.1 r52.2.2.2.2.1 r52.2.2.2.2.2.1 r52.2.2.2.2.2.2 ((⟨#[100]⟩ : ByteArray)))).bind fun r733 => some ((((r733.length : Int)) == 2))) else some false) : Option Bool).bind fun x595 => (((if x595 then (((m_model_Model_Facts r52.2.1 r52.2.2.1 r52.2.2.2.1 r52.2.2.2.2.1 r52.2.2.2.2.2.1 r52.2.2.2.2.2.2)).bind fun r721 => some ((((r721.length : Int)) == 2))) else some false) : Option Bool).bind fun x615 => (((if x615 then (((m_model_Model_Add_w r52.2.1 r52.2.2.1 r52.2.2.2.1 r52.2.2.2.2.1 r52.2.2.2.2.2.1 r52.2.2.2.2.2.2 ([(⟨2, (⟨(⟨#[97]⟩ : ByteArray), (⟨#[114]⟩ : ByteArray)⟩ : Role), zS, (⟨(⟨#[98]⟩ : ByteArray), (⟨#[115]⟩ : ByteArray)⟩ : Role), (⟨zS, zS⟩ : Role), zS⟩ : Cred)]))).bind fun r696 => some ((r696.1 == 0))) else some false) : Option Bool).bind fun x650 => (((if x650 then some ((((r75.length : Int)) == 1)) else some false) : Option Bool).bind fun x659 => (((if x659 then (((idx r75 0)).bind fun x684 => some ((beqFact x684 ((⟨(⟨(⟨#[97]⟩ : ByteArray), (⟨#[114]⟩ : ByteArray)⟩ : Role), (⟨#[100]⟩ : ByteArray)⟩ : Fact))))) else some false) : Option Bool).bind fun x672 => some x672)))))))))))
noncomputable def m_ref08_Names_L1  : List Cred → (List ByteArray) → Option (List ByteArray)
  | [], l86 => (((m_ref03_Set l86)).bind fun r127 => some r127)
  | x65 :: xs66, l86 => (((appB 16 l86 ([x65.Who, x65.Head.Owner, x65.B.Owner, x65.C.Owner]))).bind fun l121 => (m_ref08_Names_L1 xs66 l121))
noncomputable def m_ref08_Names (a0 : List Cred) : Option (List ByteArray) :=
  m_ref08_Names_L1 a0 ([])
noncomputable def m_ref08_Same_L1 (a1 : List Fact) : List Fact → Nat → Option Bool
  | [], _ => some true
  | x91 :: xs92, i90 => (((idx a1 ((i90 : Int)))).bind fun x175 => (if (!(beqFact x91 x175)) then some false else (m_ref08_Same_L1 a1 xs92 (i90 + 1))))
noncomputable def m_ref08_Same (a0 : List Fact) (a1 : List Fact) : Option Bool :=
  (if (((a0.length : Int)) != ((a1.length : Int))) then some false else m_ref08_Same_L1 a1 a0 0)
noncomputable def m_law08_founded_c1 (a0 : Role) (a1 : ByteArray) (c0 : List (Fact × Bool)) : Option Bool :=
  some (mgetD beqFact c0 ((⟨a0, a1⟩ : Fact)) false)
noncomputable def m_law08_founded_L3  : List Fact → (List (Fact × Bool)) → Option (List (Fact × Bool))
  | [], l6527 => some l6527
  | x6512 :: xs6513, l6527 => (m_law08_founded_L3 xs6513 ((mput beqFact l6527 x6512 true)))
noncomputable def m_law08_founded_L2 (a2 : List ByteArray) : List Cred → (List (Fact × Bool)) → Option (List (Fact × Bool))
  | [], l6218 => some l6218
  | x6046 :: xs6047, l6218 => (((m_model_Holds x6046 (fun (x : (Role × ByteArray)) => m_law08_founded_c1 x.1 x.2 l6218) a2)).bind fun r6418 => ((m_law08_founded_L3 r6418 l6218 : Option (List (Fact × Bool))).bind fun l6492 => (m_law08_founded_L2 a2 xs6047 l6492)))
noncomputable def m_law08_founded_L1 (a2 : List ByteArray) (a0 : List Cred) : List Fact → (List (Fact × Bool)) → Option (List (Fact × Bool))
  | [], l4390 => some l4390
  | x3300 :: xs3301, l4390 => ((m_law08_founded_L2 a2 a0 l4390 : Option (List (Fact × Bool))).bind fun l6027 => (if (((l6027.length : Int)) == ((l4390.length : Int))) then some l6027 else (m_law08_founded_L1 a2 a0 xs3301 l6027)))
noncomputable def m_law08_founded (a0 : List Cred) (a1 : List Fact) (a2 : List ByteArray) : Option Bool :=
  ((m_law08_founded_L1 a2 a0 a1 ([]) : Option (List (Fact × Bool))).bind fun l3288 => some (((l3288.length : Int)) == ((a1.length : Int))))
noncomputable def m_law08_ModelLeast_L2 (r23 : ((List (Role × (List (ByteArray × Bool)))) × (List Cred) × (List (Role × (List Cred))) × (List (ByteArray × (List Cred))) × (List Fact) × Int)) : List Fact → Option ((Bool ⊕ Unit))
  | [] => some (Sum.inr ())
  | x1097 :: xs1098 => (((m_model_Model_In r23.1 r23.2.1 r23.2.2.1 r23.2.2.2.1 r23.2.2.2.2.1 r23.2.2.2.2.2 x1097.Role x1097.Who)).bind fun r1149 => (if (!r1149) then some (Sum.inl false) else (m_law08_ModelLeast_L2 r23 xs1098)))
noncomputable def m_law08_ModelLeast_L3 (r1464 : ((List (Role × (List (ByteArray × Bool)))) × (List Cred) × (List (Role × (List Cred))) × (List (ByteArray × (List Cred))) × (List Fact) × Int)) : List Fact → Option ((Bool ⊕ Unit))
  | [] => some (Sum.inr ())
  | x1550 :: xs1551 => (((m_model_Model_In r1464.1 r1464.2.1 r1464.2.2.1 r1464.2.2.2.1 r1464.2.2.2.2.1 r1464.2.2.2.2.2 x1550.Role x1550.Who)).bind fun r1594 => (if (!r1594) then some (Sum.inl false) else (m_law08_ModelLeast_L3 r1464 xs1551)))
noncomputable def m_law08_ModelLeast_L4 (a0 : List Cred) : List Cred → Nat → (List Cred) → Option (List Cred)
  | [], _, l1655 => some l1655
  | x1635 :: xs1636, i1634, l1655 => (((idx a0 ((IntKind.i64.wrap (((IntKind.i64.wrap (((a0.length : Int)) - 1))) - ((i1634 : Int))))))).bind fun x1690 => (((appB 136 l1655 ([x1690]))).bind fun l1694 => (m_law08_ModelLeast_L4 a0 xs1636 (i1634 + 1) l1694)))
noncomputable def m_law08_ModelLeast_L1 (r23 : ((List (Role × (List (ByteArray × Bool)))) × (List Cred) × (List (Role × (List Cred))) × (List (ByteArray × (List Cred))) × (List Fact) × Int)) (r244 : List ByteArray) (a0 : List Cred) (r48 : List Fact) (a1 : Cred) : List Cred → Option Bool
  | [] => ((m_law08_ModelLeast_L4 a0 a0 0 ([]) : Option (List Cred)).bind fun l1221 => (((m_model_Of l1221)).bind fun r1231 => (((m_model_Model_Facts r1231.1 r1231.2.1 r1231.2.2.1 r1231.2.2.2.1 r1231.2.2.2.2.1 r1231.2.2.2.2.2)).bind fun r1256 => (((m_ref08_Same r1256 r48)).bind fun r1264 => (if (!r1264) then some false else (((((appB 136 ([]) a0)).bind fun l1605 => some (l1605, ([a1]))) : Option (((List Cred) × (List Cred)))).bind fun (l1444, l1448) => (((appB 136 l1444 l1448)).bind fun l1458 => (((m_model_Of l1458)).bind fun r1464 => ((m_law08_ModelLeast_L3 r1464 r48 : Option ((Bool ⊕ Unit))).bind fun s => match s with | .inl q1598 => some q1598 | .inr _ => (((m_law08_founded a0 r48 r244)).bind fun r1543 => some r1543))))))))))
  | x704 :: xs705 => (((m_model_Holds x704 (fun (x : (Role × ByteArray)) => m_model_Model_In r23.1 r23.2.1 r23.2.2.1 r23.2.2.2.1 r23.2.2.2.2.1 r23.2.2.2.2.2 x.1 x.2) r244)).bind fun r1018 => ((m_law08_ModelLeast_L2 r23 r1018 : Option ((Bool ⊕ Unit))).bind fun s => match s with | .inl q1153 => some q1153 | .inr _ => (m_law08_ModelLeast_L1 r23 r244 a0 r48 a1 xs705)))
noncomputable def m_law08_ModelLeast (a0 : List Cred) (a1 : Cred) : Option Bool :=
  (m_law08_first.bind fun r3 => (if (!r3) then some false else (((m_law05_Great a0)).bind fun r7 => (((if (decide (r7 > 1200)) then some true else (((m_law05_Great ([a1]))).bind fun r1738 => some ((decide (r1738 > 300))))) : Option Bool).bind fun x16 => (if x16 then some true else (((m_model_Of a0)).bind fun r23 => (((m_model_Model_Facts r23.1 r23.2.1 r23.2.2.1 r23.2.2.2.1 r23.2.2.2.2.1 r23.2.2.2.2.2)).bind fun r48 => (((((appB 136 ([]) a0)).bind fun l1706 => some (l1706, ([a1]))) : Option (((List Cred) × (List Cred)))).bind fun (l215, l219) => (((appB 136 l215 l219)).bind fun l230 => (((m_ref05_Set l230)).bind fun r236 => (((m_ref08_Names r236)).bind fun r244 => m_law08_ModelLeast_L1 r23 r244 a0 r48 a1 a0)))))))))))
end Go.Proofs.Ytfjdjbdnnoijgaa
