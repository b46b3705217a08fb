/- a part of a proof of GuardRises -/
import Derived.Test.YtmlncblocfcmiaaGreatRtTg
import Derived.Test.YtmlncblocfcmiaaGreatGRMg
set_option linter.all false
namespace Go.Proofs.YtmlncblocfcmiaaGreat
open Go.RowKit
theorem yv {c x : Bool} : (if c = true then some x else some false : Option Bool) = some (c && x) := by cases c <;> rfl
theorem Jz {c x : Bool} : (if c = true then some true else some x : Option Bool) = some (c || x) := by cases c <;> rfl
theorem kL {α : Type} (x : Option α) : (x.bind fun y => some y) = x := by cases x <;> rfl
theorem dL {x : Int} (h0 : -9223372036854775808 ≤ x) (h1 : x ≤ 9223372036854775807) : IntKind.i64.wrap x = x := IntWalk.i64_in _ (by omega)
theorem fO {α : Type} (A : List α) (x : α) (B : List α) (i : Int) (h : i = (A.length : Int)) : dK (A ++ x :: B) i = some x := by
  subst h; rw [zM]; simp
theorem gw : cE = 18446744073709551615 + 1 := by rw [sV]
def yr {α : Type} (f1 : α → Option Bool) (z : α) : Nat → List α → Int → Int → Option (List α)
  | 0, _, _, _ => none
  | n + 1, l, i, j => if decide (j < (l.length : Int)) then
      ((dK l j).bind fun x => (f1 x).bind fun r => if (!r) then (dK l i).bind fun _ => some (l.set (Int.toNat i) x, IntKind.i64.wrap (i + 1)) else some (l, i) : Option (List α × Int)).bind fun (l', i') => yr f1 z n l' i' (IntKind.i64.wrap (j + 1))
    else (nQ (decide (0 ≤ i) && decide (i ≤ (l.length : Int)))).bind fun _ => (nQ (decide (0 ≤ i) && decide (i ≤ ((iT l (Int.toNat i) z).length : Int)))).bind fun _ => some ((iT l (Int.toNat i) z).take (Int.toNat i))
theorem zz {a b : Int} (h0 : 0 ≤ a) (h1 : a ≤ b) : nQ (decide (0 ≤ a) && decide (a ≤ b)) = some () := by simp [nQ, h0, h1]
theorem En {α : Type} (f1 : α → Option Bool) (p : α → Bool) (z : α) : ∀ (rest out mid : List α) (n : Nat), rest.length < n → (out ++ mid ++ rest).length < 4611686018427387904 → mid ≠ [] → (∀ x ∈ rest, f1 x = some (p x)) →
    yr f1 z n (out ++ mid ++ rest) (out.length : Int) ((out.length + mid.length : Nat) : Int) = some (out ++ rest.filter fun x => !p x)
  | [], out, mid, 0, h, _, _, _ => by simp at h
  | [], out, mid, n + 1, _, hl, hm, _ => by
    rw [yr, if_neg (by simp)]
    have h1 : out.length ≤ (out ++ mid ++ []).length := by simp
    rw [zz (by omega) (by omega)]
    simp only [Option.bind_some]
    rw [zz (by omega) (by rw [rA _ _ _ (by simpa using h1)]; omega)]
    simp only [Option.bind_some, Int.toNat_natCast]
    rw [As _ _ _ h1]
    simp
  | x :: rest, out, mid, 0, h, _, _, _ => by simp at h
  | x :: rest, out, mid, n + 1, h, hl, hm, hf => by
    have hlen : (out ++ mid ++ x :: rest).length = out.length + mid.length + rest.length + 1 := by simp; omega
    rw [hlen] at hl
    rw [yr, if_pos (by rw [hlen]; simp; omega)]
    rw [fO (out ++ mid) x rest _ (by simp)]
    simp only [Option.bind_some, hf x (by simp)]
    rw [dL (x := ((out.length + mid.length : Nat) : Int) + 1) (by omega) (by omega)]
    have ih := En f1 p z rest
    cases hp : p x with
    | true =>
      simp only [Bool.not_true, Bool.false_eq_true, if_false, Option.bind_some]
      have := ih out (mid ++ [x]) n (by simp at h; omega) (by simp; omega) (by simp) (fun y hy => hf y (by simp [hy]))
      simp only [List.append_assoc, List.cons_append, List.nil_append, List.length_append, List.length_cons, List.length_nil] at this ⊢
      rw [show ((out.length + mid.length : Nat) : Int) + 1 = ((out.length + (mid.length + (0 + 1)) : Nat) : Int) by omega, this]
      simp [hp]
    | false =>
      obtain ⟨m, mid', rfl⟩ : ∃ m mid', mid = m :: mid' := by cases mid with
        | nil => exact absurd rfl hm
        | cons m mid' => exact ⟨m, mid', rfl⟩
      simp only [Bool.not_false, if_true]
      rw [List.append_assoc out (m :: mid') (x :: rest), List.cons_append]
      rw [fO out m (mid' ++ x :: rest) _ rfl]
      simp only [Option.bind_some]
      rw [dL (x := (out.length : Int) + 1) (by omega) (by simp at hl; omega)]
      have := ih (out ++ [x]) (mid' ++ [x]) n (by simp at h; omega) (by simp at hl ⊢; omega) (by simp) (fun y hy => hf y (by simp [hy]))
      simp only [List.append_assoc, List.cons_append, List.nil_append, List.length_append, List.length_cons, List.length_nil] at this
      have hs : (out ++ m :: (mid' ++ x :: rest)).set (Int.toNat (out.length : Int)) x = out ++ x :: (mid' ++ x :: rest) := by
        rw [Int.toNat_natCast, List.set_append_right _ _ (Nat.le_refl _)]; simp
      rw [hs]
      simp only [List.length_cons] at hl ⊢
      rw [show (out.length : Int) + 1 = ((out.length + (0 + 1) : Nat) : Int) by omega, show ((out.length + (mid'.length + 1) : Nat) : Int) + 1 = ((out.length + (0 + 1) + (mid'.length + (0 + 1)) : Nat) : Int) by omega, this]
      simp [hp]
def uj {α : Type} (f1 : α → Option Bool) : List α → Nat → Option Int
  | [], _ => some (-1)
  | x :: xs, i => (f1 x).bind fun r => if r then some (i : Int) else uj f1 xs (i + 1)
theorem wy {α : Type} (f1 : α → Option Bool) (p : α → Bool) : ∀ (l : List α) (i : Nat), (∀ x ∈ l, f1 x = some (p x)) →
    (uj f1 l i = some (-1) ∧ ∀ x ∈ l, p x = false) ∨ ∃ A x B, l = A ++ x :: B ∧ (∀ y ∈ A, p y = false) ∧ p x = true ∧ uj f1 l i = some ((i + A.length : Nat) : Int)
  | [], i, _ => .inl ⟨rfl, by simp⟩
  | x :: l, i, h => by
    rw [uj, h x (by simp)]
    simp only [Option.bind_some]
    cases hp : p x with
    | true => exact .inr ⟨[], x, l, rfl, by simp, hp, by simp⟩
    | false =>
      simp only [Bool.false_eq_true, if_false]
      rcases wy f1 p l (i + 1) (fun y hy => h y (by simp [hy])) with ⟨h1, h2⟩ | ⟨A, y, B, rfl, h1, h2, h3⟩
      · exact .inl ⟨h1, by intro y hy; rcases List.mem_cons.1 hy with rfl | hy; exact hp; exact h2 y hy⟩
      · refine .inr ⟨x :: A, y, B, rfl, ?_, h2, ?_⟩
        · intro z hz; rcases List.mem_cons.1 hz with rfl | hz
          · exact hp
          · exact h1 z hz
        · rw [h3]; simp; omega
def B0 {α : Type} (f1 : α → Option Bool) (z : α) (l : List α) : Option (List α) :=
  (uj f1 l 0).bind fun r1 => if (r1 == ((-1))) then some l else yr f1 z cE l r1 (IntKind.i64.wrap (r1 + 1))
theorem DT {α : Type} (f1 : α → Option Bool) (p : α → Bool) (z : α) (l : List α) (hl : l.length < 4611686018427387904) (h : ∀ x ∈ l, f1 x = some (p x)) : B0 f1 z l = some (l.filter fun x => !p x) := by
  unfold B0
  rcases wy f1 p l 0 h with ⟨h1, h2⟩ | ⟨A, x, B, rfl, h1, h2, h3⟩
  · rw [h1]
    simp only [Option.bind_some, beq_self_eq_true, if_true]
    rw [List.filter_eq_self.2 (fun y hy => by simp [h2 y hy])]
  · rw [h3]
    simp only [Option.bind_some, Nat.zero_add]
    rw [if_neg (by simp), dL (by omega) (by simp at hl; omega)]
    have := En f1 p z B A [x] cE (by rw [sV]; simp at hl; omega) (by simpa using hl) (by simp) (fun y hy => h y (by simp [hy]))
    simp only [List.append_assoc, List.cons_append, List.nil_append, List.length_cons, List.length_nil] at this
    rw [show (A.length : Int) + 1 = ((A.length + (0 + 1) : Nat) : Int) by omega, this]
    have hA : A.filter (fun x => !p x) = A := List.filter_eq_self.2 (fun y hy => by simp [h1 y hy])
    rw [List.filter_append, hA]
    simp [h2]
def jR {α : Type} (eq : α → α → Bool) : α → List α → List α
  | _, [] => []
  | p, y :: ys => if eq y p then jR eq y ys else y :: jR eq y ys
def dd {α : Type} (eq : α → α → Bool) : List α → List α
  | [] => []
  | x :: xs => x :: jR eq x xs
def vQ {α : Type} (eq : α → α → Bool) (i : Int) : Nat → List α → Int → Int → Option (List α × Int)
  | 0, _, _, _ => none
  | n + 1, l, k, j => if decide (j < ((l.length - Int.toNat i : Nat) : Int)) then
      ((dK (l.drop (Int.toNat i)) j).bind fun x => (dK (l.drop (Int.toNat i)) (IntKind.i64.wrap (j - 1))).bind fun y => if !(eq x y) then (dK (l.drop (Int.toNat i)) j).bind fun z => (dK l k).bind fun _ => some (l.set (Int.toNat k) z, IntKind.i64.wrap (k + 1)) else some (l, k) : Option (List α × Int)).bind fun (l', k') => vQ eq i n l' k' (IntKind.i64.wrap (j + 1))
    else some (l, k)
def wZ {α : Type} (eq : α → α → Bool) (z : α) (l : List α) : Nat → Int → Option (List α)
  | 0, _ => none
  | n + 1, i => if decide (i < (l.length : Int)) then (dK l i).bind fun x => (dK l (IntKind.i64.wrap (i - 1))).bind fun y => if eq x y then
        (nQ (decide (0 ≤ i) && decide (i ≤ (l.length : Int)))).bind fun _ => (vQ eq i cE l i 1).bind fun (l', k) => (nQ (decide (0 ≤ k) && decide (k ≤ (l'.length : Int)))).bind fun _ => (nQ (decide (0 ≤ k) && decide (k ≤ ((iT l' (Int.toNat k) z).length : Int)))).bind fun _ => some ((iT l' (Int.toNat k) z).take (Int.toNat k))
      else wZ eq z l n (IntKind.i64.wrap (i + 1))
    else some l
def DG {α : Type} (eq : α → α → Bool) (z : α) (l : List α) : Option (List α) := if decide ((l.length : Int) < 2) then some l else wZ eq z l cE 1
theorem D3 {α : Type} (l : List α) (i : Nat) (j : Int) (hj : 0 ≤ j) : dK (l.drop i) j = dK l ((i : Int) + j) := by
  obtain ⟨m, rfl⟩ : ∃ m : Nat, j = m := ⟨j.toNat, by omega⟩
  rw [show (i : Int) + (m : Int) = ((i + m : Nat) : Int) by omega, zM, zM, List.getElem?_drop]
theorem AS {α : Type} (eq : α → α → Bool) (i : Nat) : ∀ (rest out mid : List α) (p : α) (n : Nat), rest.length < n → (out ++ (mid ++ [p]) ++ rest).length < 4611686018427387904 → 1 ≤ i → i ≤ out.length →
    ∃ l', vQ eq (i : Int) n (out ++ (mid ++ [p]) ++ rest) (out.length : Int) ((out.length + mid.length + 1 - i : Nat) : Int) = some (l', ((out ++ jR eq p rest).length : Int)) ∧ l'.take (out ++ jR eq p rest).length = out ++ jR eq p rest ∧ (out ++ jR eq p rest).length ≤ l'.length
  | [], out, mid, p, 0, h, _, _, _ => by simp at h
  | [], out, mid, p, n + 1, h, hl, h1, h2 => by
    rw [vQ, if_neg (by simp; omega)]
    exact ⟨out ++ (mid ++ [p]) ++ [], by simp [jR], by simp [jR], by simp [jR]⟩
  | x :: rest, out, mid, p, 0, h, _, _, _ => by simp at h
  | x :: rest, out, mid, p, n + 1, h, hl, h1, h2 => by
    have hlen : (out ++ (mid ++ [p]) ++ x :: rest).length = out.length + mid.length + rest.length + 2 := by simp; omega
    rw [hlen] at hl
    rw [vQ, if_pos (by rw [hlen]; simp; omega)]
    rw [Int.toNat_natCast, D3 _ _ _ (by omega), fO (out ++ (mid ++ [p])) x rest _ (by simp; omega)]
    simp only [Option.bind_some]
    rw [dL (x := ((out.length + mid.length + 1 - i : Nat) : Int) - 1) (by omega) (by omega), D3 _ _ _ (by omega)]
    rw [show out ++ (mid ++ [p]) ++ x :: rest = (out ++ mid) ++ p :: (x :: rest) by simp]
    rw [fO (out ++ mid) p (x :: rest) _ (by simp; omega)]
    simp only [Option.bind_some]
    rw [dL (x := ((out.length + mid.length + 1 - i : Nat) : Int) + 1) (by omega) (by omega)]
    cases hp : eq x p with
    | true =>
      simp only [Bool.not_true, Bool.false_eq_true, if_false, Option.bind_some]
      obtain ⟨l', e1, e2, e3⟩ := AS eq i rest out (mid ++ [p]) x n (by simp at h; omega) (by simp; omega) h1 h2
      refine ⟨l', ?_, by rw [jR, hp]; exact e2, by rw [jR, hp]; exact e3⟩
      rw [jR, hp, if_pos rfl, ← e1]
      congr 1
      · simp
      · simp; omega
    | false =>
      simp only [Bool.not_false, if_true]
      obtain ⟨m, mid', hm⟩ : ∃ m mid', mid ++ [p] = m :: mid' := by cases mid with
        | nil => exact ⟨p, [], rfl⟩
        | cons m mid' => exact ⟨m, mid' ++ [p], rfl⟩
      have hml : mid'.length = mid.length := by have := congrArg List.length hm; simp at this; omega
      rw [show (out ++ mid) ++ p :: (x :: rest) = out ++ m :: (mid' ++ x :: rest) by rw [← List.cons_append, ← hm]; simp]
      rw [fO out m (mid' ++ x :: rest) _ rfl]
      simp only [Option.bind_some]
      rw [dL (x := (out.length : Int) + 1) (by omega) (by omega)]
      have hs : (out ++ m :: (mid' ++ x :: rest)).set (Int.toNat (out.length : Int)) x = (out ++ [x]) ++ (mid' ++ [x]) ++ rest := by
        rw [Int.toNat_natCast, List.set_append_right _ _ (Nat.le_refl _)]; simp
      rw [hs]
      obtain ⟨l', e1, e2, e3⟩ := AS eq i rest (out ++ [x]) mid' x n (by simp at h; omega) (by simp; omega) h1 (by simp; omega)
      refine ⟨l', ?_, ?_, ?_⟩
      · rw [jR, hp, if_neg (by decide)]
        have e4 : ((out ++ x :: jR eq x rest).length : Int) = ((out ++ [x] ++ jR eq x rest).length : Int) := by simp
        rw [e4, ← e1]
        congr 1
        · simp
        · simp; omega
      · rw [jR, hp, if_neg (by decide)]; simpa using e2
      · rw [jR, hp, if_neg (by decide)]; simpa using e3
theorem DJ {α : Type} (eq : α → α → Bool) (z : α) : ∀ (rest pre : List α) (p : α) (n : Nat), rest.length < n → (pre ++ p :: rest).length < 4611686018427387904 →
    wZ eq z (pre ++ p :: rest) n ((pre.length + 1 : Nat) : Int) = some (pre ++ p :: jR eq p rest)
  | [], pre, p, 0, h, _ => by simp at h
  | [], pre, p, n + 1, h, hl => by rw [wZ, if_neg (by simp)]; simp [jR]
  | x :: rest, pre, p, 0, h, _ => by simp at h
  | x :: rest, pre, p, n + 1, h, hl => by
    have hlen : (pre ++ p :: x :: rest).length = pre.length + rest.length + 2 := by simp; omega
    rw [hlen] at hl
    rw [wZ, if_pos (by rw [hlen]; simp; omega)]
    rw [show pre ++ p :: x :: rest = (pre ++ [p]) ++ x :: rest by simp, fO (pre ++ [p]) x rest _ (by simp)]
    simp only [Option.bind_some]
    rw [dL (x := ((pre.length + 1 : Nat) : Int) - 1) (by omega) (by omega)]
    rw [show (pre ++ [p]) ++ x :: rest = pre ++ p :: (x :: rest) by simp, fO pre p (x :: rest) _ (by omega)]
    simp only [Option.bind_some]
    cases hp : eq x p with
    | true =>
      simp only [if_true]
      rw [zz (by omega) (by rw [hlen]; omega)]
      simp only [Option.bind_some]
      obtain ⟨l', e1, e2, e3⟩ := AS eq (pre.length + 1) rest (pre ++ [p]) [] x cE (by rw [sV]; omega) (by simp; omega) (by omega) (by simp)
      simp only [List.append_assoc, List.cons_append, List.nil_append, List.length_append, List.length_cons, List.length_nil] at e1 e2 e3
      rw [show (pre.length + (0 + 1) + 0 + 1 - (pre.length + 1) : Nat) = 1 by omega] at e1
      rw [show ((pre.length + 1 : Nat) : Int) = ((pre.length + (0 + 1) : Nat) : Int) by omega] at *
      have e1' : vQ eq ((pre.length + (0 + 1) : Nat) : Int) cE (pre ++ p :: x :: rest) ((pre.length + (0 + 1) : Nat) : Int) 1 = _ := e1
      rw [e1']
      simp only [Option.bind_some]
      rw [zz (by omega) (by omega)]
      simp only [Option.bind_some, Int.toNat_natCast]
      rw [zz (by omega) (by rw [rA _ _ _ e3]; omega)]
      simp only [Option.bind_some]
      rw [As _ _ _ e3, e2, jR, hp]
      simp
    | false =>
      simp only [Bool.false_eq_true, if_false]
      rw [dL (x := ((pre.length + 1 : Nat) : Int) + 1) (by omega) (by omega)]
      have := DJ eq z rest (pre ++ [p]) x n (by simp at h; omega) (by simp; omega)
      simp only [List.append_assoc, List.cons_append, List.nil_append, List.length_append, List.length_cons, List.length_nil] at this
      rw [show ((pre.length + 1 : Nat) : Int) + 1 = ((pre.length + (0 + 1) + 1 : Nat) : Int) by omega, this, jR, hp]
      simp
theorem DW {α : Type} (eq : α → α → Bool) (z : α) (l : List α) (hl : l.length < 4611686018427387904) : DG eq z l = some (dd eq l) := by
  unfold DG
  cases l with
  | nil => rfl
  | cons x xs =>
    cases xs with
    | nil => simp [dd, jR]
    | cons y ys =>
      rw [if_neg (by simp; omega)]
      have := DJ eq z (y :: ys) [] x cE (by rw [sV]; simp at hl ⊢; omega) (by simpa using hl)
      simpa [dd] using this
structure vq {α : Type} (lt : α → α → Prop) (P : α → Prop) : Prop where
  irrefl : ∀ x, P x → ¬ lt x x
  trans : ∀ x y z, P x → P y → P z → lt x y → lt y z → lt x z
  total : ∀ x y, P x → P y → lt x y ∨ x = y ∨ lt y x
def rU {α : Type} (lt : α → α → Prop) (P : α → Prop) (l out : List α) : Prop := out.Pairwise lt ∧ ∀ x, x ∈ out ↔ x ∈ l ∧ P x
theorem rU.unique {α : Type} {lt : α → α → Prop} {P : α → Prop} (H : vq lt P) : ∀ {l a b : List α}, rU lt P l a → rU lt P l b → a = b := by
  have key : ∀ a b : List α, (∀ x ∈ a, P x) → a.Pairwise lt → b.Pairwise lt → (∀ x, x ∈ a ↔ x ∈ b) → a = b := by
    intro a
    induction a with
    | nil => intro b _ _ _ hm; cases b with
      | nil => rfl
      | cons y ys => exact absurd ((hm y).2 (by simp)) (by simp)
    | cons x xs ih =>
      intro b hP ha hb hm
      cases b with
      | nil => exact absurd ((hm x).1 (by simp)) (by simp)
      | cons y ys =>
        have hPy : P y := hP y ((hm y).2 (by simp))
        have hPx : P x := hP x (by simp)
        have ha' := List.pairwise_cons.1 ha
        have hb' := List.pairwise_cons.1 hb
        have hxy : x = y := by
          rcases List.mem_cons.1 ((hm x).1 (by simp)) with h | h
          · exact h
          · rcases List.mem_cons.1 ((hm y).2 (by simp)) with h2 | h2
            · exact h2.symm
            · exact absurd (H.trans x y x hPx hPy hPx (ha'.1 y h2) (hb'.1 x h)) (H.irrefl x hPx)
        subst hxy
        congr 1
        refine ih ys (fun z hz => hP z (by simp [hz])) ha'.2 hb'.2 (fun z => ?_)
        constructor
        · intro hz
          rcases List.mem_cons.1 ((hm z).1 (by simp [hz])) with h | h
          · subst h; exact absurd (ha'.1 z hz) (H.irrefl z hPx)
          · exact h
        · intro hz
          rcases List.mem_cons.1 ((hm z).2 (by simp [hz])) with h | h
          · subst h; exact absurd (hb'.1 z hz) (H.irrefl z hPx)
          · exact h
  intro l a b ha hb
  exact key a b (fun x hx => ((ha.2 x).1 hx).2) ha.1 hb.1 (fun x => (ha.2 x).trans (hb.2 x).symm)
theorem xY {α : Type} {eq : α → α → Bool} (he : ∀ x y, eq x y = true ↔ x = y) : ∀ (l : List α) (p x : α), x ∈ p :: jR eq p l ↔ x ∈ p :: l
  | [], p, x => by simp [jR]
  | y :: l, p, x => by
    rw [jR]
    split
    · rename_i h
      have := (he y p).1 h
      subst this
      rw [xY he l y x]; simp
    · have := xY he l y x
      simp only [List.mem_cons] at this ⊢
      rw [this]
theorem Gk {α : Type} {eq : α → α → Bool} (he : ∀ x y, eq x y = true ↔ x = y) (l : List α) (x : α) : x ∈ dd eq l ↔ x ∈ l := by
  cases l with
  | nil => simp [dd]
  | cons y l => exact xY he l y x
theorem xp {α : Type} {eq : α → α → Bool} {lt : α → α → Prop} {P : α → Prop} (he : ∀ x y, eq x y = true ↔ x = y) (H : vq lt P) : ∀ (l : List α) (p : α), (∀ x ∈ p :: l, P x) → (p :: l).Pairwise (fun a b => ¬ lt b a) → (p :: jR eq p l).Pairwise lt
  | [], p, _, _ => by simp [jR]
  | y :: l, p, hP, hs => by
    have h1 := List.pairwise_cons.1 hs
    rw [jR]
    split
    · rename_i h
      have := (he y p).1 h
      subst this
      exact xp he H l y (fun x hx => hP x (List.mem_cons_of_mem _ hx)) h1.2
    · rename_i h
      have ih := xp he H l y (fun x hx => hP x (List.mem_cons_of_mem _ hx)) h1.2
      refine List.pairwise_cons.2 ⟨fun z hz => ?_, ih⟩
      have hpy : lt p y := by
        rcases H.total p y (hP p (by simp)) (hP y (by simp)) with h2 | h2 | h2
        · exact h2
        · exact absurd ((he y p).2 h2.symm) h
        · exact absurd h2 (h1.1 y (by simp))
      rcases List.mem_cons.1 hz with rfl | hz'
      · exact hpy
      · have hzl : z ∈ y :: l := (xY he l y z).1 hz
        exact H.trans p y z (hP p (by simp)) (hP y (by simp)) (hP z (List.mem_cons_of_mem _ hzl)) hpy ((List.pairwise_cons.1 ih).1 z hz')
theorem Gm {α : Type} {eq : α → α → Bool} {lt : α → α → Prop} {P : α → Prop} (he : ∀ x y, eq x y = true ↔ x = y) (H : vq lt P) (l : List α) (hP : ∀ x ∈ l, P x) (hs : l.Pairwise (fun a b => ¬ lt b a)) : (dd eq l).Pairwise lt := by
  cases l with
  | nil => simp [dd]
  | cons y l => exact xp he H l y hP hs
theorem CQ {α : Type} {le : α → α → Bool} {P : α → Prop} (ht : ∀ a b c, P a → P b → P c → le a b = true → le b c = true → le a c = true) (ho : ∀ a b, P a → P b → (le a b || le b a) = true) (l : List α) (hP : ∀ x ∈ l, P x) :
    (l.mergeSort le).Pairwise (fun a b => le a b = true) := by
  have e : l = (l.attachWith P hP).map Subtype.val := by simp
  have hm : ((l.attachWith P hP).mergeSort fun a b => le a.1 b.1).map Subtype.val = l.mergeSort le := by
    conv => rhs; rw [e]
    exact List.map_mergeSort (fun a _ b _ => rfl)
  rw [← hm, List.pairwise_map]
  exact List.pairwise_mergeSort (le := fun (a b : {x // P x}) => le a.1 b.1) (fun a b c h1 h2 => ht a.1 b.1 c.1 a.2 b.2 c.2 h1 h2) (fun a b => ho a.1 b.1 a.2 b.2) _
theorem Aw {α : Type} {eq : α → α → Bool} {lt : α → α → Prop} {P : α → Prop} {cf : α × α → Option Int} {l : List α} (he : ∀ x y, eq x y = true ↔ x = y) (H : vq lt P) (hP : ∀ x ∈ l, P x) (hl : l.length < 4611686018427387904)
    (hc : ∀ x y, P x → P y → ∃ c, cf (x, y) = some c ∧ (c < 0 ↔ lt x y)) : ∃ s, uR cf l = some s ∧ s.length = l.length ∧ rU lt P l (dd eq s) := by
  have hless : ∀ x y, P x → P y → (qB cf x y = true ↔ lt x y) := fun x y hx hy => by
    obtain ⟨c, h1, h2⟩ := hc x y hx hy
    unfold qB
    rw [h1]
    simpa using h2
  have hless' : ∀ x y, P x → P y → (qB cf x y = false ↔ ¬ lt x y) := fun x y hx hy => by
    rw [← hless x y hx hy]; simp
  have ok : zg cf l := by
    refine ⟨fun x hx y hy => ?_, fun x hx => ?_, fun x hx y hy z hz h1 h2 => ?_, fun x hx y hy h1 h2 => ?_, hl⟩
    · obtain ⟨c, h1, _⟩ := hc x y (hP x hx) (hP y hy); exact ⟨c, h1⟩
    · exact (hless' x x (hP x hx) (hP x hx)).2 (H.irrefl x (hP x hx))
    · rw [hless _ _ (hP x hx) (hP y hy)] at h1
      rw [hless _ _ (hP y hy) (hP z hz)] at h2
      rw [hless _ _ (hP x hx) (hP z hz)]
      exact H.trans x y z (hP x hx) (hP y hy) (hP z hz) h1 h2
    · rw [hless' _ _ (hP x hx) (hP y hy)] at h1
      rw [hless' _ _ (hP y hy) (hP x hx)] at h2
      rcases H.total x y (hP x hx) (hP y hy) with h | h | h
      · exact absurd h h1
      · exact h
      · exact absurd h h2
  refine ⟨_, HQ ok, by simp [oZ], ?_, ?_⟩
  · have hperm : ∀ x, x ∈ oZ cf l ↔ x ∈ l := fun x => by simp [oZ]
    refine Gm he H _ (fun x hx => hP x ((hperm x).1 hx)) ?_
    have := CQ (le := fun x y => !qB cf y x) (P := P) (fun a b c ha hb hcc h1 h2 => ?_) (fun a b ha hb => ?_) l hP
    · refine (this.imp_of_mem ?_ : _)
      intro a b ha hb h
      have ha' : a ∈ l := (hperm a).1 ha
      have hb' : b ∈ l := (hperm b).1 hb
      simp at h
      exact (hless' b a (hP b hb') (hP a ha')).1 h
    · simp at h1 h2 ⊢
      rw [hless' _ _ hb ha] at h1
      rw [hless' _ _ hcc hb] at h2
      rw [hless' _ _ hcc ha]
      intro h3
      rcases H.total a b ha hb with h | h | h
      · exact h2 (H.trans c a b hcc ha hb h3 h)
      · subst h; exact h2 h3
      · exact h1 h
    · simp only [Bool.or_eq_true, Bool.not_eq_true']
      rw [hless' _ _ hb ha, hless' _ _ ha hb]
      by_cases h : lt b a
      · right; intro h2; exact H.irrefl a ha (H.trans a b a ha hb ha h2 h)
      · exact .inl h
  · intro x
    rw [Gk he]
    constructor
    · intro hx
      have : x ∈ l := by simpa [oZ] using hx
      exact ⟨this, hP x this⟩
    · intro hx; simpa [oZ] using hx.1
end Go.Proofs.YtmlncblocfcmiaaGreat
namespace Go.Proofs.YtmlncblocfcmiaaGreat
open Go.RowKit
theorem wF : ∀ a : List UInt8, Op.bytesLess a a = false
  | [] => rfl
  | x :: a => by simp [Op.bytesLess, wF a]
theorem Dz (x y : UInt8) : x < y ∨ x = y ∨ y < x := by
  rcases Nat.lt_trichotomy x.toNat y.toNat with h | h | h
  · exact .inl h
  · exact .inr (.inl (UInt8.toNat_inj.1 h))
  · exact .inr (.inr h)
theorem vS : ∀ a b c : List UInt8, Op.bytesLess a b = true → Op.bytesLess b c = true → Op.bytesLess a c = true
  | [], [], c, h1, _ => by simp [Op.bytesLess] at h1
  | _ :: _, [], c, h1, _ => by simp [Op.bytesLess] at h1
  | a, _ :: _, [], _, h2 => by simp [Op.bytesLess] at h2
  | [], b :: bs, c :: cs, _, _ => rfl
  | a :: ax, b :: bs, c :: cs, h1, h2 => by
    simp only [Op.bytesLess, Bool.or_eq_true, decide_eq_true_eq, Bool.and_eq_true, beq_iff_eq] at h1 h2 ⊢
    rcases h1 with h1 | ⟨rfl, h1⟩
    · rcases h2 with h2 | ⟨rfl, h2⟩
      · exact .inl (UInt8.lt_trans h1 h2)
      · exact .inl h1
    · rcases h2 with h2 | ⟨rfl, h2⟩
      · exact .inl h2
      · exact .inr ⟨rfl, vS ax bs cs h1 h2⟩
theorem yz : ∀ a b : List UInt8, Op.bytesLess a b = true ∨ a = b ∨ Op.bytesLess b a = true
  | [], [] => .inr (.inl rfl)
  | [], _ :: _ => .inl rfl
  | _ :: _, [] => .inr (.inr rfl)
  | a :: ax, b :: bs => by
    simp only [Op.bytesLess, Bool.or_eq_true, decide_eq_true_eq, Bool.and_eq_true, beq_iff_eq, List.cons.injEq]
    rcases Dz a b with h | h | h
    · exact .inl (.inl h)
    · subst h
      rcases yz ax bs with h | h | h
      · exact .inl (.inr ⟨rfl, h⟩)
      · exact .inr (.inl ⟨rfl, h⟩)
      · exact .inr (.inr (.inr ⟨rfl, h⟩))
    · exact .inr (.inr (.inl h))
theorem xI : ∀ a b : List UInt8, (Lib.compareBytes a b < 0 ↔ Op.bytesLess a b = true)
  | [], [] => by simp [Lib.compareBytes, Op.bytesLess]
  | [], _ :: _ => by simp [Lib.compareBytes, Op.bytesLess]
  | _ :: _, [] => by simp [Lib.compareBytes, Op.bytesLess]
  | a :: ax, b :: bs => by
    simp only [Lib.compareBytes, Op.bytesLess, Bool.or_eq_true, decide_eq_true_eq, Bool.and_eq_true, beq_iff_eq]
    by_cases h : a < b
    · simp [h]
    · by_cases h2 : b < a
      · have : a ≠ b := by rintro rfl; exact h h2
        simp [h, h2, this]
      · have : a = b := by rcases Dz a b with h3 | h3 | h3; exact absurd h3 h; exact h3; exact absurd h3 h2
        subst this
        simp [h, xI ax bs]
theorem AQ : ∀ a b : List UInt8, (Lib.compareBytes a b = 0 ↔ a = b)
  | [], [] => by simp [Lib.compareBytes]
  | [], _ :: _ => by simp [Lib.compareBytes]
  | _ :: _, [] => by simp [Lib.compareBytes]
  | a :: ax, b :: bs => by
    simp only [Lib.compareBytes, List.cons.injEq]
    by_cases h : a < b
    · simp only [h, if_true]
      constructor
      · intro h; cases h
      · rintro ⟨rfl, _⟩; exact absurd h (by simp)
    · by_cases h2 : b < a
      · simp only [h, h2, if_true, if_false]
        constructor
        · intro h; cases h
        · rintro ⟨rfl, _⟩; exact absurd h2 (by simp)
      · have : a = b := by rcases Dz a b with h3 | h3 | h3; exact absurd h3 h; exact h3; exact absurd h3 h2
        subst this
        simp [h, AQ ax bs]
theorem uN (a b : ByteArray) : lS a b = Op.bytesLess a.data.toList b.data.toList := by unfold lS; rw [ByteArray.toList_eq, ByteArray.toList_eq]
theorem vV {a b : ByteArray} (h : a.data.toList = b.data.toList) : a = b := ByteArray.ext (Array.toList_inj.1 h)
theorem oE (a : ByteArray) : lS a a = false := by rw [uN, wF]
theorem uY {a b c : ByteArray} (h1 : lS a b = true) (h2 : lS b c = true) : lS a c = true := by rw [uN] at *; exact vS _ _ _ h1 h2
theorem vi (a b : ByteArray) : lS a b = true ∨ a = b ∨ lS b a = true := by
  rw [uN, uN]
  rcases yz a.data.toList b.data.toList with h | h | h
  · exact .inl h
  · exact .inr (.inl (vV h))
  · exact .inr (.inr h)
theorem Co {a b : ByteArray} (h : lS a b = true) : lS b a = false := by
  cases h2 : lS b a with
  | false => rfl
  | true => have := uY h h2; rw [oE] at this; cases this
theorem H4 (P : ByteArray → Prop) : vq (fun a b => lS a b = true) P :=
  ⟨fun x _ h => (by rw [oE] at h; cases h), fun x y z _ _ _ => uY, fun x y _ _ => vi x y⟩
def wj (b : UInt8) : Bool := decide (97 ≤ b.toNat) && decide (b.toNat ≤ 122)
def xv (b : UInt8) : Bool := wj b || (decide (48 ≤ b.toNat) && decide (b.toNat ≤ 57)) || decide (b.toNat = 45)
def fH (s : ByteArray) : Bool := decide (1 ≤ s.size) && decide (s.size ≤ 16) && (match s.data.toList with | [] => false | b :: _ => wj b) && s.data.toList.all xv
theorem iI {s : ByteArray} (h : fH s = true) : 1 ≤ s.size ∧ s.size ≤ 16 := by
  simp only [fH, Bool.and_eq_true, decide_eq_true_eq] at h
  exact h.1.1
theorem Ga : ∀ n : Nat, n < 256 → decide (sS (⟨#[97, 98, 99, 100, 101, 102, 103, 104, 105, 106, 107, 108, 109, 110, 111, 112, 113, 114, 115, 116, 117, 118, 119, 120, 121, 122]⟩ : ByteArray) (n : Int) ≥ 0) = wj (UInt8.ofNat n) := by decide +kernel
theorem He : ∀ n : Nat, n < 256 → decide (sS (⟨#[97, 98, 99, 100, 101, 102, 103, 104, 105, 106, 107, 108, 109, 110, 111, 112, 113, 114, 115, 116, 117, 118, 119, 120, 121, 122, 48, 49, 50, 51, 52, 53, 54, 55, 56, 57, 45]⟩ : ByteArray) (n : Int) < 0) = !xv (UInt8.ofNat n) := by decide +kernel
theorem so (s : ByteArray) : s.size = s.data.toList.length := by rw [Array.length_toList]; rfl
theorem Ar {s : ByteArray} (h : s.size ≤ 16) : xE s = some (nY s) := by
  unfold xE; rw [if_pos (by unfold maxLen; omega)]
theorem DI : ∀ l : List UInt8, nD (l.map fun b => (b.toNat : Int)) = some (l.all xv)
  | [] => rfl
  | b :: l => by
    rw [List.map_cons, nD]
    simp only [kP, gC, Option.bind_some]
    have hb := He b.toNat (UInt8.toNat_lt b)
    rw [hb]
    simp only [UInt8.ofNat_toNat, List.all_cons]
    cases xv b with
    | true => simp [DI l]
    | false => simp
theorem CK {s : ByteArray} {b : UInt8} {l : List UInt8} (h : s.data.toList = b :: l) : vt s 0 = some b := by
  unfold vt
  rw [if_pos (Int.le_refl 0)]
  have h0 : s.data[0]? = some b := by rw [← Array.getElem?_toList, h]; rfl
  show s[0]? = some b
  rw [← h0]
  rfl
theorem qA (s : ByteArray) : kS s = some (fH s) := by
  unfold kS
  simp only [yv, Option.bind_some, kL]
  by_cases h1 : 1 ≤ s.size
  · by_cases h2 : s.size ≤ 16
    · rw [if_pos (by simp; omega)]
      obtain ⟨b, l, hl⟩ : ∃ b l, s.data.toList = b :: l := by
        cases h : s.data.toList with
        | nil => rw [so, h] at h1; simp at h1
        | cons b l => exact ⟨b, l, rfl⟩
      rw [CK hl]
      simp only [Option.bind_some, kP, gC]
      rw [Ga b.toNat (UInt8.toNat_lt b)]
      simp only [UInt8.ofNat_toNat, fH, h1, h2, hl, decide_true, Bool.true_and]
      cases wj b with
      | false => simp
      | true =>
        simp only [if_true, uV, Ar h2, Option.bind_some, nY]
        rw [DI, hl]
        simp
    · rw [if_neg (by simp; omega)]
      simp [fH, h2]
  · rw [if_neg (by simp; omega)]
    simp [fH, h1]
theorem Iz {s : ByteArray} {A B : List UInt8} {b : UInt8} (h : s.data.toList = A ++ b :: B) (i : Int) (hi : i = (A.length : Int)) : vt s i = some b := by
  subst hi
  unfold vt
  rw [if_pos (by omega), Int.toNat_natCast]
  have h0 : s.data[A.length]? = some b := by rw [← Array.getElem?_toList, h]; simp
  show s[A.length]? = some b
  rw [← h0]
  rfl
theorem zt (s : ByteArray) (hs : s.size ≤ 16) : ∀ (B A : List UInt8) (n : Nat), s.data.toList = A ++ B → B.length < n → oX s n (A.length : Int) = some (B.all xv)
  | [], A, 0, _, h => by simp at h
  | [], A, n + 1, h, _ => by
    have : s.size = A.length := by rw [so, h]; simp
    rw [oX, if_neg (by rw [this]; simp)]
    rfl
  | b :: B, A, 0, _, h => by simp at h
  | b :: B, A, n + 1, h, hn => by
    have hsz : s.size = A.length + B.length + 1 := by rw [so, h]; simp; omega
    rw [oX, if_pos (by rw [hsz]; simp; omega)]
    rw [Iz h _ rfl]
    simp only [Option.bind_some]
    rw [dL (x := (A.length : Int) + 1) (by omega) (by omega)]
    have ih := zt s hs B (A ++ [b]) n (by rw [h]; simp) (by simp at hn; omega)
    rw [show ((A ++ [b]).length : Int) = (A.length : Int) + 1 by simp] at ih
    simp only [List.all_cons]
    have hsg : ∀ n : Nat, n < 256 → xv (UInt8.ofNat n) = !((decide (n < 97) || decide (n > 122)) && (decide (n < 48) || decide (n > 57)) && decide (n ≠ 45)) := by decide +kernel
    have hb := hsg b.toNat (UInt8.toNat_lt b)
    simp only [UInt8.ofNat_toNat] at hb
    rw [hb]
    by_cases h1 : b.toNat < 97 <;> by_cases h2 : b.toNat > 122 <;> by_cases h3 : b.toNat < 48 <;> by_cases h4 : b.toNat > 57 <;> by_cases h5 : b.toNat = 45 <;>
      first
      | omega
      | (have h1' : ((b.toNat : Int) < 97) = (b.toNat < 97) := by rw [eq_iff_iff]; omega
         have h2' : ((b.toNat : Int) > 122) = (b.toNat > 122) := by rw [eq_iff_iff]; omega
         have h3' : ((b.toNat : Int) < 48) = (b.toNat < 48) := by rw [eq_iff_iff]; omega
         have h4' : ((b.toNat : Int) > 57) = (b.toNat > 57) := by rw [eq_iff_iff]; omega
         have h5' : ((b.toNat : Int) != 45) = !decide (b.toNat = 45) := by rw [Bool.eq_iff_iff]; simp; omega
         simp [h1, h2, h3, h4, h5, h1', h2', h3', h4', h5', ih])
theorem ra (a : ByteArray) : cQ a a = true := eP.2 rfl
theorem IJ : zS.size = 0 := rfl
theorem H6 {s : ByteArray} : s = zS ↔ s.size = 0 := by
  constructor
  · rintro rfl; rfl
  · intro h; exact vV (by rw [so] at h; rw [List.length_eq_zero_iff.1 h]; rfl)
theorem tU (s : ByteArray) : nW s = some (fH s) := by
  unfold nW
  simp only [Jz, Option.bind_some, kL]
  by_cases h0 : s.size = 0
  · have : s = zS := H6.2 h0
    subst this
    rw [ra]
    rfl
  · have hb : cQ s zS = false := by
      cases h : cQ s zS with
      | false => rfl
      | true => exact absurd (H6.1 (eP.1 h)) h0
    rw [hb]
    simp only [Bool.false_or]
    by_cases h2 : s.size ≤ 16
    · rw [if_neg (by simp; omega)]
      obtain ⟨b, l, hl⟩ : ∃ b l, s.data.toList = b :: l := by
        cases h : s.data.toList with
        | nil => rw [so, h] at h0; simp at h0
        | cons b l => exact ⟨b, l, rfl⟩
      rw [CK hl]
      simp only [Option.bind_some, Jz]
      have hr := zt s h2 s.data.toList [] cE rfl (by rw [sV, ← so]; omega)
      simp only [List.length_nil] at hr
      rw [show (0 : Int) = ((0 : Nat) : Int) from rfl] at *
      rw [hr]
      have h97 : ((b.toNat : Int) < 97) = (b.toNat < 97) := by rw [eq_iff_iff]; omega
      have h122 : ((b.toNat : Int) > 122) = (b.toNat > 122) := by rw [eq_iff_iff]; omega
      have h1 : 1 ≤ s.size := by omega
      simp only [fH, h1, h2, hl, wj, decide_true, Bool.true_and, h97, h122]
      by_cases a : b.toNat < 97
      · simp [a, show ¬ 97 ≤ b.toNat by omega]
      · by_cases c : b.toNat > 122
        · simp [a, c, show ¬ b.toNat ≤ 122 by omega]
        · simp [a, c, show 97 ≤ b.toNat by omega, show b.toNat ≤ 122 by omega]
    · rw [if_pos (by simp; omega)]
      simp [fH, h2]
def dY (r : Role) : Bool := fH r.Owner && fH r.Word
theorem rO (r : Role) : iR r = some (dY r) := by
  unfold iR dY
  simp only [qA, Option.bind_some]
  cases fH r.Owner <;> simp
theorem AG (r : Role) : rq r = some (dY r) := by
  unfold rq dY
  simp only [tU, Option.bind_some]
  cases fH r.Owner <;> simp
def uz (a b : Role) : Bool := lS a.Owner b.Owner || (cQ a.Owner b.Owner && lS a.Word b.Word)
theorem wE (a b : Role) : ul a b = some (uz a b) := by
  unfold ul uz
  cases lS a.Owner b.Owner <;> cases cQ a.Owner b.Owner <;> simp
theorem EM {a b : ByteArray} (h : a ≠ b) : cQ a b = false := by
  cases h2 : cQ a b with
  | false => rfl
  | true => exact absurd (eP.1 h2) h
theorem vL {a b : Role} : uz a b = true ↔ lS a.Owner b.Owner = true ∨ (a.Owner = b.Owner ∧ lS a.Word b.Word = true) := by
  simp [uz, eP]
theorem F6 (P : Role → Prop) : vq (fun a b => uz a b = true) P := by
  refine ⟨fun x _ h => ?_, fun x y z _ _ _ h1 h2 => ?_, fun x y _ _ => ?_⟩
  · rw [vL] at h
    simp [oE] at h
  · rw [vL] at *
    rcases h1 with h1 | ⟨e1, h1⟩
    · rcases h2 with h2 | ⟨e2, h2⟩
      · exact .inl (uY h1 h2)
      · exact .inl (by rw [← e2]; exact h1)
    · rcases h2 with h2 | ⟨e2, h2⟩
      · exact .inl (by rw [e1]; exact h2)
      · exact .inr ⟨e1.trans e2, uY h1 h2⟩
  · simp only [vL]
    rcases vi x.Owner y.Owner with h | h | h
    · exact .inl (.inl h)
    · rcases vi x.Word y.Word with h2 | h2 | h2
      · exact .inl (.inr ⟨h, h2⟩)
      · refine .inr (.inl ?_)
        cases x; cases y; simp at h h2; simp [h, h2]
      · exact .inr (.inr (.inr ⟨h.symm, h2⟩))
    · exact .inr (.inr (.inl h))
theorem tb (a b : Role) : ∃ c, iY a b = some c ∧ (c < 0 ↔ uz a b = true) := by
  unfold iY
  simp only [jB, fA, Option.bind_some, pD, kJ]
  have h1 : ∀ a b : ByteArray, (jT a b < 0 ↔ lS a b = true) := fun a b => by rw [uN]; exact xI _ _
  have h0 : ∀ a b : ByteArray, (jT a b = 0 ↔ a = b) := fun a b => by
    unfold jT; rw [AQ]; exact ⟨vV, fun h => by rw [h]⟩
  by_cases e : jT a.Owner b.Owner = 0
  · rw [if_neg (by simp [e])]
    have e' := (h0 _ _).1 e
    by_cases e2 : jT a.Word b.Word = 0
    · rw [if_neg (by simp [e2])]
      refine ⟨0, rfl, ?_⟩
      rw [vL, e', (h0 _ _).1 e2]
      simp [oE]
    · rw [if_pos (by simp [e2])]
      refine ⟨_, rfl, ?_⟩
      rw [vL, e', h1]
      simp [oE]
  · rw [if_pos (by simp [e])]
    refine ⟨_, rfl, ?_⟩
    rw [vL, h1]
    have : a.Owner ≠ b.Owner := fun h => e ((h0 _ _).2 h)
    simp [this]
def zR : Role := ⟨zS, zS⟩
theorem CH (a b : ByteArray) : cQ a b = cQ b a := by rw [Bool.eq_iff_iff, eP, eP]; exact eq_comm
theorem yP (a b : Role) : bA a b = bA b a := by rw [Bool.eq_iff_iff, aZ, aZ]; exact eq_comm
theorem sc (a : Role) : bA a a = true := aZ.2 rfl
def dJ (c : Cred) : Bool := dY c.Head && (
  if c.Kind == 1 then fH c.Who && bA zR c.B && bA zR c.C && cQ zS c.Word2
  else if c.Kind == 2 then dY c.B && cQ zS c.Who && bA zR c.C && cQ zS c.Word2
  else if c.Kind == 3 then dY c.B && cQ c.B.Owner c.Head.Owner && fH c.Word2 && cQ zS c.Who && bA zR c.C
  else if c.Kind == 4 then dY c.B && dY c.C && uz c.B c.C && cQ zS c.Who && cQ zS c.Word2
  else false)
theorem rY (c : Cred) : mC c = some (dJ c) := by
  unfold mC dJ
  simp only [rO, qA, Option.bind_some]
  obtain ⟨k, hk, hk2⟩ := tb c.B c.C
  rw [hk]
  have hk3 : decide (k < 0) = uz c.B c.C := by rw [Bool.eq_iff_iff, ← hk2]; simp
  simp only [Option.bind_some, hk3]
  by_cases h1 : c.Kind = 1
  · cases dY c.Head <;> cases fH c.Who <;> simp [h1, fB, sc, ra, zR, Bool.and_assoc]
  · by_cases h2 : c.Kind = 2
    · cases dY c.Head <;> cases dY c.B <;> simp [h2, fB, sc, ra, zR, Bool.and_assoc]
    · by_cases h3 : c.Kind = 3
      · cases dY c.Head <;> cases dY c.B <;> cases cQ c.B.Owner c.Head.Owner <;> cases fH c.Word2 <;> simp [h3, fB, sc, ra, zR, Bool.and_assoc]
      · by_cases h4 : c.Kind = 4
        · cases dY c.Head <;> cases dY c.B <;> cases dY c.C <;> cases uz c.B c.C <;> simp [h4, fB, sc, ra, zR, Bool.and_assoc]
        · simp [h1, h2, h3, h4]
theorem vZ (c : Cred) : tD c = some (dJ c) := by
  unfold tD dJ
  simp only [AG, tU, wE, Option.bind_some]
  rw [show (⟨zS, zS⟩ : Role) = zR from rfl, yP c.B zR, yP c.C zR, CH c.Word2 zS, CH c.Who zS]
  by_cases h1 : c.Kind = 1
  · cases dY c.Head <;> cases fH c.Who <;> cases bA zR c.B <;> cases bA zR c.C <;> simp [h1]
  · by_cases h2 : c.Kind = 2
    · cases dY c.Head <;> cases dY c.B <;> cases cQ zS c.Who <;> cases bA zR c.C <;> simp [h2]
    · by_cases h3 : c.Kind = 3
      · cases dY c.Head <;> cases dY c.B <;> cases cQ zS c.Who <;> cases bA zR c.C <;> cases cQ c.B.Owner c.Head.Owner <;> simp [h3]
      · by_cases h4 : c.Kind = 4
        · cases dY c.Head <;> cases dY c.B <;> cases cQ zS c.Who <;> cases cQ zS c.Word2 <;> cases dY c.C <;> simp [h4]
        · cases dY c.Head <;> cases dY c.B <;> cases cQ zS c.Who <;> simp [h1, h2, h3, h4]
end Go.Proofs.YtmlncblocfcmiaaGreat
namespace Go.Proofs.YtmlncblocfcmiaaGreat
open Go.RowKit
theorem gM {α : Type} {b : Nat} {l m : List α} (h : (l.length + m.length) * b ≤ 140737488355328) (h2 : l.length + m.length ≤ 9223372036854775807) : fK b l m = some (l ++ m) := by
  unfold fK; rw [if_pos ⟨h, by unfold maxLen; omega⟩]
theorem AW {l m : List Int} (h : l.length + m.length ≤ 1000000) : fK 1 l m = some (l ++ m) := gM (by omega) (by omega)
def rW (s : ByteArray) : List Int := (s.size : Int) :: nY s
def nF (r : Role) : List Int := rW r.Owner ++ rW r.Word
def ug (c : Cred) : List Int := if c.Kind = 1 then rW c.Who else if c.Kind = 2 then nF c.B else if c.Kind = 3 then nF c.B ++ rW c.Word2 else nF c.B ++ nF c.C
def oK (c : Cred) : List Int := c.Kind :: (nF c.Head ++ ug c)
theorem pA (s : ByteArray) : (rW s).length = s.size + 1 := by simp [rW, j2]
theorem jP {r : Role} (h : dY r = true) : (nF r).length ≤ 34 := by
  simp only [dY, Bool.and_eq_true] at h
  have h1 := iI h.1
  have h2 := iI h.2
  simp [nF, pA]; omega
theorem tV {l : List Int} {n : Int} (h0 : 0 ≤ n) (h1 : n < 128) (hl : l.length ≤ 100000) : gD l n = some (true, l ++ [n]) := by
  have hw : IntKind.u8.wrap n = n := by
    obtain ⟨k, rfl⟩ : ∃ k : Nat, n = k := ⟨n.toNat, by omega⟩
    have : ∀ k : Nat, k < 128 → IntKind.u8.wrap (k : Int) = (k : Int) := by decide +kernel
    exact this k (by omega)
  unfold gD
  rw [if_neg (by simp; omega), gw, iZ, if_neg (by simp; omega), hw, AW (by simp; omega)]
  rfl
theorem zK {l : List Int} {s : ByteArray} (h : fH s = true) (hl : l.length ≤ 10000) : nL l s = some (true, l ++ rW s) := by
  have h1 := iI h
  unfold nL
  simp only [qA, Option.bind_some, h, if_true, Ar h1.2]
  unfold qI
  rw [if_neg (by rw [j2]; simp; omega)]
  rw [j2, tV (by omega) (by omega) (by omega)]
  simp only [Option.bind_some]
  rw [AW (by simp [j2]; omega)]
  simp [rW]
theorem Dv {l : List Int} {r : Role} (h : dY r = true) (hl : l.length ≤ 9000) : jQ l r = some (true, l ++ nF r) := by
  have h0 := h
  simp only [dY, Bool.and_eq_true] at h
  have h1 := iI h.1
  unfold jQ
  simp only [rO, Option.bind_some, h0, if_true]
  rw [zK h.1 (by omega)]
  simp only [Option.bind_some, if_true]
  rw [zK h.2 (by simp [pA]; omega)]
  simp [nF]
theorem xK {l : List Int} {r : Role} (h : dY r = true) (hl : l.length ≤ 1000) : jQ l r = some (true, l ++ nF r) := Dv h (by omega)
theorem xn {c : Cred} (h : dJ c = true) : dY c.Head = true := by
  simp only [dJ, Bool.and_eq_true] at h; exact h.1
theorem iS {c : Cred} (h : dJ c = true) :
    (c.Kind = 1 ∧ fH c.Who = true ∧ c.B = zR ∧ c.C = zR ∧ c.Word2 = zS) ∨
    (c.Kind = 2 ∧ dY c.B = true ∧ c.Who = zS ∧ c.C = zR ∧ c.Word2 = zS) ∨
    (c.Kind = 3 ∧ dY c.B = true ∧ fH c.Word2 = true ∧ c.B.Owner = c.Head.Owner ∧ c.Who = zS ∧ c.C = zR) ∨
    (c.Kind = 4 ∧ dY c.B = true ∧ dY c.C = true ∧ uz c.B c.C = true ∧ c.Who = zS ∧ c.Word2 = zS) := by
  simp only [dJ, Bool.and_eq_true] at h
  obtain ⟨_, h⟩ := h
  split at h
  · rename_i h1
    simp only [Bool.and_eq_true, aZ, eP] at h
    exact .inl ⟨by simpa using h1, h.1.1.1, h.1.1.2.symm, h.1.2.symm, h.2.symm⟩
  · split at h
    · rename_i h1
      simp only [Bool.and_eq_true, aZ, eP] at h
      exact .inr (.inl ⟨by simpa using h1, h.1.1.1, h.1.1.2.symm, h.1.2.symm, h.2.symm⟩)
    · split at h
      · rename_i h1
        simp only [Bool.and_eq_true, aZ, eP] at h
        exact .inr (.inr (.inl ⟨by simpa using h1, h.1.1.1.1, h.1.1.2, h.1.1.1.2, h.1.2.symm, h.2.symm⟩))
      · split at h
        · rename_i h1
          simp only [Bool.and_eq_true, aZ, eP] at h
          exact .inr (.inr (.inr ⟨by simpa using h1, h.1.1.1.1, h.1.1.1.2, h.1.1.2, h.1.2.symm, h.2.symm⟩))
        · cases h
theorem wO (c : Cred) : oV c = some (if dJ c then oK c else []) := by
  unfold oV
  rw [rY]
  simp only [Option.bind_some]
  cases h : dJ c with
  | false => simp
  | true =>
    have hh := xn h
    have hl := jP hh
    simp only [Bool.not_true, Bool.false_eq_true, if_false, if_true]
    have hk : 0 ≤ c.Kind ∧ c.Kind < 128 := by rcases iS h with h | h | h | h <;> omega
    rw [tV hk.1 hk.2 (by simp)]
    simp only [Option.bind_some]
    rw [xK hh (by simp)]
    simp only [Option.bind_some, mZ, pP]
    rcases iS h with ⟨k, h1, _⟩ | ⟨k, h1, _⟩ | ⟨k, h1, h2, _⟩ | ⟨k, h1, h2, _⟩
    · have hs := iI h1
      simp only [k, beq_self_eq_true, if_true, zK h1 (show (([] ++ [(1:Int)]) ++ nF c.Head).length ≤ 10000 by simp; omega), Option.bind_some]
      rw [AW (by simp [pA]; omega)]
      simp [oK, ug, k]
    · have hs := jP h1
      simp only [k, show ((2 : Int) == 1) = false from rfl, Bool.false_eq_true, beq_self_eq_true, if_true, if_false, xK h1 (show (([] ++ [(2:Int)]) ++ nF c.Head).length ≤ 1000 by simp; omega), Option.bind_some]
      rw [AW (by simp; omega)]
      simp [oK, ug, k]
    · have hs := jP h1
      have hs2 := iI h2
      simp only [k, show ((3 : Int) == 1) = false from rfl, show ((3 : Int) == 2) = false from rfl, Bool.false_eq_true, beq_self_eq_true, if_true, if_false, xK h1 (show (([] ++ [(3:Int)]) ++ nF c.Head).length ≤ 1000 by simp; omega), Option.bind_some]
      rw [zK h2 (by simp; omega)]
      simp only [Option.bind_some]
      rw [AW (by simp [pA]; omega)]
      simp [oK, ug, k]
    · have hs := jP h1
      have hs2 := jP h2
      simp only [k, show ((4 : Int) == 1) = false from rfl, show ((4 : Int) == 2) = false from rfl, show ((4 : Int) == 3) = false from rfl, Bool.false_eq_true, beq_self_eq_true, if_true, if_false, xK h1 (show (([] ++ [(4:Int)]) ++ nF c.Head).length ≤ 1000 by simp; omega), Option.bind_some]
      rw [xK h2 (by simp; omega)]
      simp only [Option.bind_some]
      rw [AW (by simp; omega)]
      simp [oK, ug, k]
def vy (l : List Int) : ByteArray := ⟨(qZ l).toArray⟩
theorem wm (l : List Int) : (vy l).data.toList = qZ l := rfl
theorem Bg : ∀ (l : List Int) (r : ByteArray), (l.foldl (fun r n => r.push (UInt8.ofNat n.toNat)) r).data.toList = r.data.toList ++ qZ l
  | [], r => by simp [qZ]
  | x :: l, r => by
    rw [List.foldl_cons, Bg l]
    show ((r.data.push _).toList) ++ _ = _
    simp [qZ]
theorem IM (l : List Int) : xl l = vy l := vV (by unfold xl; rw [Bg]; rfl)
theorem Ek (l : List Int) : (vy l).size = l.length := by rw [so, wm]; simp [qZ]
theorem FL (a b : List Int) : qZ (a ++ b) = qZ a ++ qZ b := by simp [qZ]
theorem rJ (a b : List Int) (h : a.length + b.length ≤ 1000000) : vW (vy a) (vy b) = some (vy (a ++ b)) := by
  unfold vW
  rw [if_neg]
  · congr 1
    refine vV ?_
    rw [wm, FL, ← wm a, ← wm b]
    exact ByteArray.toList_data_append ▸ rfl
  · rw [Ek, Ek]
    show ¬ (_ > (9223372036854775807 : Int))
    omega
theorem yj (s : ByteArray) : vy (nY s) = s := vV (by rw [wm]; simp [qZ, nY, Function.comp_def])
theorem Cp {n : Int} (h0 : 0 ≤ n) (h1 : n < 128) : sH n = some (vy [n]) := by
  have hw : IntKind.u8.wrap n = n := by
    obtain ⟨k, rfl⟩ : ∃ k : Nat, n = k := ⟨n.toNat, by omega⟩
    have : ∀ k : Nat, k < 128 → IntKind.u8.wrap (k : Int) = (k : Int) := by decide +kernel
    exact this k (by omega)
  unfold sH
  rw [gw, ta, if_neg (by simp; omega), hw, IM, show zS = vy [] from rfl, rJ _ _ (by simp)]
  rfl
theorem zU {s : ByteArray} (h : fH s = true) : qS s = some (vy (rW s)) := by
  have h1 := iI h
  unfold qS
  rw [Cp (by omega) (by omega)]
  simp only [Option.bind_some]
  have := rJ [(s.size : Int)] (nY s) (by rw [j2]; simp; omega)
  rw [yj] at this
  rw [this]
  simp [rW]
theorem xB {r : Role} (h : dY r = true) : rD r = some (vy (nF r)) := by
  simp only [dY, Bool.and_eq_true] at h
  have h1 := iI h.1
  have h2 := iI h.2
  unfold rD
  rw [zU h.1, zU h.2]
  simp only [Option.bind_some]
  rw [rJ _ _ (by simp [pA]; omega)]
  rfl
theorem vR (c : Cred) : tC c = some (vy (if dJ c then oK c else [])) := by
  unfold tC
  rw [vZ]
  simp only [Option.bind_some]
  cases h : dJ c with
  | false => rfl
  | true =>
    have hh := xn h
    have hl := jP hh
    simp only [Bool.not_true, Bool.false_eq_true, if_false, if_true]
    have hk : 0 ≤ c.Kind ∧ c.Kind < 128 := by rcases iS h with h | h | h | h <;> omega
    unfold yF
    rw [Cp hk.1 hk.2, xB hh]
    simp only [Option.bind_some]
    rw [rJ _ _ (by simp; omega)]
    simp only [Option.bind_some]
    rcases iS h with ⟨k, h1, _⟩ | ⟨k, h1, _⟩ | ⟨k, h1, h2, _⟩ | ⟨k, h1, h2, _⟩
    · have hs := iI h1
      simp only [k, beq_self_eq_true, if_true, zU h1, Option.bind_some]
      rw [rJ _ _ (by simp [pA]; omega)]
      simp [oK, ug, k]
    · have hs := jP h1
      simp only [k, show ((2 : Int) == 1) = false from rfl, show ((2 : Int) == 3) = false from rfl, show ((2 : Int) == 4) = false from rfl, Bool.false_eq_true, if_false, xB h1, Option.bind_some]
      rw [rJ _ _ (by simp; omega)]
      simp [oK, ug, k]
    · have hs := jP h1
      have hs2 := iI h2
      simp only [k, show ((3 : Int) == 1) = false from rfl, show ((3 : Int) == 4) = false from rfl, Bool.false_eq_true, beq_self_eq_true, if_true, if_false, xB h1, Option.bind_some]
      rw [rJ _ _ (by simp; omega)]
      simp only [Option.bind_some, zU h2]
      rw [rJ _ _ (by simp [pA]; omega)]
      simp [oK, ug, k]
    · have hs := jP h1
      have hs2 := jP h2
      simp only [k, show ((4 : Int) == 1) = false from rfl, show ((4 : Int) == 3) = false from rfl, Bool.false_eq_true, beq_self_eq_true, if_true, if_false, xB h1, Option.bind_some]
      rw [rJ _ _ (by simp; omega)]
      simp only [Option.bind_some, xB h2]
      rw [rJ _ _ (by simp; omega)]
      simp [oK, ug, k]
def Dy (c : Cred) : List UInt8 := qZ (if dJ c then oK c else [])
def wK (a b : Cred) : Bool := Op.bytesLess (Dy a) (Dy b)
theorem Ae (a b : Cred) : ∃ c, nC a b = some c ∧ (c < 0 ↔ wK a b = true) := by
  unfold nC
  rw [wO, wO]
  exact ⟨_, rfl, xI _ _⟩
theorem zb (a b : Cred) : ∃ c, pU a b = some c ∧ (c < 0 ↔ wK a b = true) := by
  unfold pU
  rw [vR, vR]
  simp only [Option.bind_some]
  have h : lS (vy (if dJ a then oK a else [])) (vy (if dJ b then oK b else [])) = wK a b := by rw [uN]; rfl
  rw [h]
  cases wK a b with
  | true => exact ⟨_, rfl, by decide⟩
  | false =>
    simp only [Bool.false_eq_true, if_false, Bool.false_or]
    cases hq : cQ (vy (if dJ a then oK a else [])) (vy (if dJ b then oK b else [])) with
    | true => exact ⟨0, by simp, by decide⟩
    | false => exact ⟨1, by simp, by decide⟩
theorem Jy {a b : Int} (ha : 0 ≤ a ∧ a < 256) (hb : 0 ≤ b ∧ b < 256) (h : a.toNat.toUInt8 = b.toNat.toUInt8) : a = b := by
  have := congrArg UInt8.toNat h
  simp only [UInt8.toNat_ofNat', Nat.toUInt8] at this
  simp at this
  omega
theorem Fd : ∀ {a b : List Int}, (∀ x ∈ a, 0 ≤ x ∧ x < 256) → (∀ x ∈ b, 0 ≤ x ∧ x < 256) → qZ a = qZ b → a = b
  | [], [], _, _, _ => rfl
  | [], _ :: _, _, _, h => by simp [qZ] at h
  | _ :: _, [], _, _, h => by simp [qZ] at h
  | x :: a, y :: b, ha, hb, h => by
    simp only [qZ, List.map_cons, List.cons.injEq] at h
    rw [Jy (ha x (by simp)) (hb y (by simp)) h.1, Fd (fun z hz => ha z (by simp [hz])) (fun z hz => hb z (by simp [hz])) h.2]
theorem uW {s : ByteArray} (h : fH s = true) : ∀ x ∈ rW s, 0 ≤ x ∧ x < 256 := by
  have h1 := iI h
  intro x hx
  rcases List.mem_cons.1 hx with rfl | hx
  · omega
  · simp only [nY, List.mem_map] at hx
    obtain ⟨b, _, rfl⟩ := hx
    have := UInt8.toNat_lt b
    omega
theorem tj {r : Role} (h : dY r = true) : ∀ x ∈ nF r, 0 ≤ x ∧ x < 256 := by
  simp only [dY, Bool.and_eq_true] at h
  intro x hx
  rcases List.mem_append.1 hx with hx | hx
  · exact uW h.1 x hx
  · exact uW h.2 x hx
theorem Ay {c : Cred} (h : dJ c = true) : ∀ x ∈ oK c, 0 ≤ x ∧ x < 256 := by
  intro x hx
  rcases List.mem_cons.1 hx with rfl | hx
  · rcases iS h with h | h | h | h <;> omega
  · rcases List.mem_append.1 hx with hx | hx
    · exact tj (xn h) x hx
    · unfold ug at hx
      rcases iS h with ⟨k, h1, _⟩ | ⟨k, h1, _⟩ | ⟨k, h1, h2, _⟩ | ⟨k, h1, h2, _⟩
      · rw [if_pos k] at hx; exact uW h1 x hx
      · rw [if_neg (by omega), if_pos k] at hx; exact tj h1 x hx
      · rw [if_neg (by omega), if_neg (by omega), if_pos k] at hx
        rcases List.mem_append.1 hx with hx | hx
        · exact tj h1 x hx
        · exact uW h2 x hx
      · rw [if_neg (by omega), if_neg (by omega), if_neg (by omega)] at hx
        rcases List.mem_append.1 hx with hx | hx
        · exact tj h1 x hx
        · exact tj h2 x hx
theorem FK {s t : ByteArray} (h : nY s = nY t) : s = t := by rw [← yj s, h, yj]
theorem wT {s t : ByteArray} {X Y : List Int} (h : rW s ++ X = rW t ++ Y) : s = t ∧ X = Y := by
  simp only [rW, List.cons_append, List.cons.injEq] at h
  obtain ⟨h1, h2⟩ := h
  have hl : (nY s).length = (nY t).length := by rw [j2, j2]; omega
  have := List.append_inj h2 hl
  exact ⟨FK this.1, this.2⟩
theorem vk {a b : Role} {X Y : List Int} (h : nF a ++ X = nF b ++ Y) : a = b ∧ X = Y := by
  simp only [nF, List.append_assoc] at h
  obtain ⟨h1, h2⟩ := wT h
  obtain ⟨h3, h4⟩ := wT h2
  exact ⟨by cases a; cases b; simp at h1 h3; simp [h1, h3], h4⟩
theorem GN {a b : Cred} (ha : dJ a = true) (hb : dJ b = true) (h : oK a = oK b) : a = b := by
  simp only [oK, List.cons.injEq] at h
  obtain ⟨hk, hq⟩ := h
  obtain ⟨hh, h⟩ := vk hq
  clear hq
  have e0 : ∀ {X Y : List Int}, X = Y → X ++ [] = Y ++ [] := fun h => by rw [h]
  unfold ug at h
  obtain ⟨ka, ha1, wa, ba, ca, wa2⟩ := a
  obtain ⟨kb, hb1, wb, bb, cb, wb2⟩ := b
  simp only at hk hh h
  subst hk hh
  rcases iS ha with ⟨k, h1, h2, h3, h4⟩ | ⟨k, h1, h2, h3, h4⟩ | ⟨k, h1, h2, h3, h4, h5⟩ | ⟨k, h1, h2, h3, h4, h5⟩ <;>
  rcases iS hb with ⟨k', g1, g2, g3, g4⟩ | ⟨k', g1, g2, g3, g4⟩ | ⟨k', g1, g2, g3, g4, g5⟩ | ⟨k', g1, g2, g3, g4, g5⟩ <;> simp only at k k' h2 h3 h4 g2 g3 g4 <;> (try omega)
  · rw [if_pos k, if_pos k] at h
    simp [wT (e0 h), h2, h3, h4, g2, g3, g4]
  · rw [if_neg (by omega), if_pos k, if_neg (by omega), if_pos k] at h
    simp [vk (e0 h), h2, h3, h4, g2, g3, g4]
  · rw [if_neg (by omega), if_neg (by omega), if_pos k, if_neg (by omega), if_neg (by omega), if_pos k] at h
    obtain ⟨q1, q2⟩ := vk h
    simp only at h5 g5
    simp [q1, wT (e0 q2), h4, h5, g4, g5]
  · rw [if_neg (by omega), if_neg (by omega), if_neg (by omega), if_neg (by omega), if_neg (by omega), if_neg (by omega)] at h
    obtain ⟨q1, q2⟩ := vk h
    simp only at h5 g5
    simp [q1, vk (e0 q2), h4, h5, g4, g5]
theorem Aa : vq (fun a b => wK a b = true) (fun c => dJ c = true) := by
  refine ⟨fun x _ h => ?_, fun x y z _ _ _ h1 h2 => vS _ _ _ h1 h2, fun x y hx hy => ?_⟩
  · unfold wK at h; rw [wF] at h; cases h
  · rcases yz (Dy x) (Dy y) with h | h | h
    · exact .inl h
    · refine .inr (.inl (GN hx hy ?_))
      unfold Dy at h
      rw [if_pos hx, if_pos hy] at h
      exact Fd (Ay hx) (Ay hy) h
    · exact .inr (.inr h)
end Go.Proofs.YtmlncblocfcmiaaGreat
namespace Go.Proofs.YtmlncblocfcmiaaGreat
open Go.RowKit
def mQ {α : Type} (R : α → Bool) (lt : α → α → Bool) (last : Option α) : List α → Bool → α → Bool × α
  | [], ok, b => (ok, b)
  | x :: xs, ok, b => if R x && last.all (fun y => lt y x) && (!ok || lt x b) then mQ R lt last xs true x else mQ R lt last xs ok b
def vn {α : Type} (w : Nat) (R : α → Bool) (lt : α → α → Bool) (d : α) (l : List α) : Nat → List α → Option (List α)
  | 0, _ => none
  | n + 1, out => if !(mQ R lt out.getLast? l false d).1 then some out else (fK w out [(mQ R lt out.getLast? l false d).2]).bind fun o => vn w R lt d l n o
section
variable {α : Type} {R : α → Bool} {lt : α → α → Bool}
theorem ze (H : vq (fun a b => lt a b = true) (fun x => R x = true)) (last : Option α) : ∀ (l : List α) (ok : Bool) (b : α), (ok = true → R b = true ∧ last.all (fun y => lt y b) = true) →
    ((mQ R lt last l ok b).1 = false → ok = false ∧ ∀ x ∈ l, R x = true → last.all (fun y => lt y x) = false) ∧
    ((mQ R lt last l ok b).1 = true → R (mQ R lt last l ok b).2 = true ∧ last.all (fun y => lt y (mQ R lt last l ok b).2) = true ∧ ((mQ R lt last l ok b).2 ∈ l ∨ (ok = true ∧ (mQ R lt last l ok b).2 = b)) ∧
      (∀ x ∈ l, R x = true → last.all (fun y => lt y x) = true → lt x (mQ R lt last l ok b).2 = false) ∧ (ok = true → lt b (mQ R lt last l ok b).2 = false))
  | [], ok, b, hb => by
    simp only [mQ]
    exact ⟨fun h => ⟨h, by simp⟩, fun h => ⟨(hb h).1, (hb h).2, .inr ⟨h, trivial⟩, by simp, fun _ => by
      cases hx : lt b b with
      | false => rfl
      | true => exact absurd hx (H.irrefl b (hb h).1)⟩⟩
  | x :: xs, ok, b, hb => by
    rw [mQ]
    by_cases hc : (R x && last.all (fun y => lt y x) && (!ok || lt x b)) = true
    · rw [if_pos hc]
      simp only [Bool.and_eq_true, Bool.or_eq_true, Bool.not_eq_true'] at hc
      obtain ⟨⟨hR, hL⟩, hok⟩ := hc
      obtain ⟨h1, h2⟩ := ze H last xs true x (fun _ => ⟨hR, hL⟩)
      refine ⟨fun h => ?_, fun h => ?_⟩
      · cases (h1 h).1
      · obtain ⟨a1, a2, a3, a4, a5⟩ := h2 h
        refine ⟨a1, a2, ?_, ?_, ?_⟩
        · rcases a3 with a3 | ⟨_, a3⟩
          · exact .inl (by simp [a3])
          · exact .inl (by rw [a3]; simp)
        · intro y hy hRy hLy
          rcases List.mem_cons.1 hy with rfl | hy
          · exact a5 rfl
          · exact a4 y hy hRy hLy
        · intro hko
          cases hx : lt b (mQ R lt last xs true x).2 with
          | false => rfl
          | true =>
            have hxb : lt x b = true := by rcases hok with h | h; rw [hko] at h; cases h; exact h
            have := H.trans x b _ hR (hb hko).1 a1 hxb hx
            simp only [a5 rfl] at this
            cases this
    · rw [if_neg hc]
      obtain ⟨h1, h2⟩ := ze H last xs ok b hb
      refine ⟨fun h => ⟨(h1 h).1, fun y hy hRy => ?_⟩, fun h => ?_⟩
      · rcases List.mem_cons.1 hy with rfl | hy
        · have hko := (h1 h).1
          cases hL : last.all (fun z => lt z y) with
          | false => rfl
          | true => exact absurd (by simp [hRy, hL, hko]) hc
        · exact (h1 h).2 y hy hRy
      · obtain ⟨a1, a2, a3, a4, a5⟩ := h2 h
        refine ⟨a1, a2, ?_, ?_, a5⟩
        · rcases a3 with a3 | a3
          · exact .inl (by simp [a3])
          · exact .inr a3
        · intro y hy hRy hLy
          rcases List.mem_cons.1 hy with rfl | hy
          · cases hx : lt y (mQ R lt last xs ok b).2 with
            | false => rfl
            | true =>
              cases ok with
              | false => exact absurd (by simp [hRy, hLy]) hc
              | true =>
                have hyb : lt y b = false := by
                  cases h3 : lt y b with
                  | false => rfl
                  | true => exact absurd (by simp [hRy, hLy, h3]) hc
                have hb' := hb rfl
                rcases H.total y b hRy hb'.1 with h4 | h4 | h4
                · rw [hyb] at h4; cases h4
                · subst h4; rw [a5 rfl] at hx; cases hx
                · have := H.trans b y _ hb'.1 hRy a1 h4 hx
                  simp only [a5 rfl] at this
                  cases this
          · exact a4 y hy hRy hLy
theorem rH (H : vq (fun a b => lt a b = true) (fun x => R x = true)) {l : List α} (hR : ∀ x ∈ l, R x = true) (h : l.Pairwise (fun a b => lt a b = true)) : l.Nodup := by
  refine h.imp_of_mem (fun {a b} ha hb hab e => ?_)
  subst e
  exact H.irrefl a (hR a ha) hab
theorem eU : ∀ {l m : List α}, l.Nodup → (∀ x ∈ l, x ∈ m) → l.length ≤ m.length
  | [], _, _, _ => by simp
  | x :: l, m, hn, hs => by
    obtain ⟨A, B, rfl⟩ := List.append_of_mem (hs x (by simp))
    have hn' := List.nodup_cons.1 hn
    have := eU (l := l) (m := A ++ B) hn'.2 (fun y hy => by
      have := hs y (List.mem_cons_of_mem _ hy)
      simp only [List.mem_append, List.mem_cons] at this ⊢
      rcases this with h | h | h
      · exact .inl h
      · subst h; exact absurd hy hn'.1
      · exact .inr h)
    simp at this ⊢; omega
theorem wS (H : vq (fun a b => lt a b = true) (fun x => R x = true)) {w : Nat} (hw : w ≤ 1000) (d : α) (l : List α) (hl : l.length ≤ 1000000000) : ∀ (n : Nat) (out : List α), l.length < n + out.length → out.Pairwise (fun a b => lt a b = true) → (∀ x ∈ out, x ∈ l ∧ R x = true) →
    (∀ x ∈ l, R x = true → x ∈ out ∨ out.getLast?.all (fun y => lt y x) = true) → ∃ s, vn w R lt d l n out = some s ∧ rU (fun a b => lt a b = true) (fun x => R x = true) l s
  | 0, out, hn, hp, hm, hc => by
    exfalso
    have := eU (rH H (fun x hx => (hm x hx).2) hp) (fun x hx => (hm x hx).1)
    omega
  | n + 1, out, hn, hp, hm, hc => by
    rw [vn]
    obtain ⟨h1, h2⟩ := ze H out.getLast? l false d (fun h => by cases h)
    have hlen := eU (rH H (fun x hx => (hm x hx).2) hp) (fun x hx => (hm x hx).1)
    cases hs : (mQ R lt out.getLast? l false d).1 with
    | false =>
      rw [if_pos (by simp)]
      refine ⟨out, rfl, hp, fun x => ⟨hm x, fun hx => ?_⟩⟩
      rcases hc x hx.1 hx.2 with h | h
      · exact h
      · rw [(h1 hs).2 x hx.1 hx.2] at h; cases h
    | true =>
      rw [if_neg (by simp)]
      obtain ⟨a1, a2, a3, a4, _⟩ := h2 hs
      generalize (mQ R lt out.getLast? l false d).2 = b at *
      have hbl : b ∈ l := by rcases a3 with h | ⟨h, _⟩; exact h; cases h
      have hout : ∀ y ∈ out, lt y b = true := by
        intro y hy
        obtain ⟨A, z, rfl⟩ : ∃ A z, out = A ++ [z] := by
          rcases List.eq_nil_or_concat out with h | ⟨A, z, h⟩
          · subst h; cases hy
          · exact ⟨A, z, by rw [h]; simp⟩
        simp at a2
        rcases List.mem_append.1 hy with hy | hy
        · have hyz : lt y z = true := (List.pairwise_append.1 hp).2.2 y hy z (by simp)
          exact H.trans y z b (hm y (by simp [hy])).2 (hm z (by simp)).2 a1 hyz a2
        · simp at hy; subst hy; exact a2
      have hp' : (out ++ [b]).Pairwise (fun a b => lt a b = true) := List.pairwise_append.2 ⟨hp, by simp, fun x hx y hy => by simp at hy; subst hy; exact hout x hx⟩
      have hm' : ∀ x ∈ out ++ [b], x ∈ l ∧ R x = true := fun x hx => by
        rcases List.mem_append.1 hx with hx | hx
        · exact hm x hx
        · simp at hx; subst hx; exact ⟨hbl, a1⟩
      have hlen' := eU (rH H (fun x hx => (hm' x hx).2) hp') (fun x hx => (hm' x hx).1)
      simp at hlen'
      rw [gM (by simp only [List.length_cons, List.length_nil]; have : (out.length + (0 + 1)) * w ≤ 1000000000 * 1000 := Nat.mul_le_mul (by omega) hw; omega) (by simp; omega)]
      simp only [Option.bind_some]
      refine wS H hw d l hl n (out ++ [b]) (by simp; omega) hp' hm' (fun x hx hRx => ?_)
      rcases hc x hx hRx with h | h
      · exact .inl (by simp [h])
      · have h3 := a4 x hx hRx h
        rcases H.total x b hRx a1 with h4 | h4 | h4
        · rw [h3] at h4; cases h4
        · subst h4; exact .inl (by simp)
        · exact .inr (by simp [h4])
end
theorem AU {α : Type} (A : List α) (x : α) (hl : A.length < 4611686018427387904) : dK (A ++ [x]) (IntKind.i64.wrap (((A ++ [x]).length : Int) - 1)) = some x := by
  rw [dL (by simp; try omega) (by simp; try omega)]
  rw [fO A x [] _ (by simp; try omega)]
theorem AY (out : List Cred) (hl : out.length < 4611686018427387904) : ∀ (l : List Cred) (ok : Bool) (b : Cred), oU out l ok b = some (mQ dJ wK out.getLast? l ok b)
  | [], ok, b => rfl
  | x :: xs, ok, b => by
    rw [oU, mQ]
    have cmp : ∀ a b, ∃ c, pU a b = some c ∧ decide (c < 0) = wK a b := fun a b => by
      obtain ⟨c, h1, h2⟩ := zb a b
      exact ⟨c, h1, by rw [Bool.eq_iff_iff, ← h2]; simp⟩
    rw [vZ, AY out hl xs true x, AY out hl xs ok b]
    obtain ⟨c, h1, h2⟩ := cmp x b
    rcases List.eq_nil_or_concat out with h | ⟨A, z, h⟩
    · subst h
      simp only [h1, Option.bind_some, h2, List.length_nil, Option.all, List.getLast?_nil]
      generalize wK x b = p
      cases dJ x <;> cases ok <;> cases p <;> simp
    · have h' : out = A ++ [z] := by rw [h]; simp
      obtain ⟨c3, h3, h4⟩ := cmp z x
      have hlast : out.getLast? = some z := by rw [h']; simp
      have hidx : dK out (IntKind.i64.wrap ((out.length : Int) - 1)) = some z := by rw [h']; exact AU A z (by rw [h'] at hl; simp at hl; omega)
      have hne : ((out.length : Int) == 0) = false := by rw [h']; simp; omega
      rw [hlast]
      simp only [hne, hidx, h3, h1, Option.bind_some, h2, h4, Option.all]
      rcases Bool.eq_false_or_eq_true (wK x b) with hp | hp <;> rcases Bool.eq_false_or_eq_true (wK z x) with hq | hq <;> rcases Bool.eq_false_or_eq_true (dJ x) with hr | hr <;> cases ok <;> simp [hp, hq, hr]
theorem KT (a b : ByteArray) : (!(lS a b || cQ a b)) = lS b a := by
  rcases vi a b with h | h | h
  · simp [h, Co h]
  · subst h; simp [ra, oE]
  · have h2 := Co h
    have h3 : cQ a b = false := EM (by rintro rfl; rw [oE] at h; cases h)
    simp [h, h2, h3]
theorem GI {s : ByteArray} (h : fH s = true) : cQ s zS = false := EM (fun e => by have := iI h; rw [e, IJ] at this; omega)
theorem AR (out : List ByteArray) (hl : out.length < 4611686018427387904) : ∀ (l : List ByteArray) (b : ByteArray),
    ∃ b', oP out l b = some b' ∧ (mQ fH lS out.getLast? l (!cQ b zS) b) = (!cQ b' zS, b')
  | [], b => ⟨b, rfl, rfl⟩
  | x :: xs, b => by
    rw [oP, mQ]
    obtain ⟨b1, e1, e2⟩ := AR out hl xs x
    obtain ⟨b2, e3, e4⟩ := AR out hl xs b
    rw [tU, e1, e3]
    by_cases hx : fH x = true
    · rw [GI hx] at e2
      simp only [Bool.not_false] at e2
      rcases List.eq_nil_or_concat out with h | ⟨A, z, h⟩
      · subst h
        simp only [Option.bind_some, List.length_nil, Option.all, List.getLast?_nil, hx] at *
        rw [e2, e4]
        generalize lS x b = p
        generalize cQ b zS = q
        cases p <;> cases q <;> simp
      · have h' : out = A ++ [z] := by rw [h]; simp
        have hlast : out.getLast? = some z := by rw [h']; simp
        have hidx : dK out (IntKind.i64.wrap ((out.length : Int) - 1)) = some z := by rw [h']; exact AU A z (by rw [h'] at hl; simp at hl; omega)
        have hne : ((out.length : Int) == 0) = false := by rw [h']; simp; omega
        rw [hlast] at e2 e4 ⊢
        simp only [hne, hidx, Option.bind_some, Option.all, KT, hx]
        rw [e2, e4]
        rcases Bool.eq_false_or_eq_true (lS x b) with hp | hp <;> rcases Bool.eq_false_or_eq_true (lS z x) with hq | hq <;> rcases Bool.eq_false_or_eq_true (cQ b zS) with hr | hr <;> simp [hp, hq, hr]
    · simp only [Bool.not_eq_true] at hx
      rw [hx, e4]
      simp
theorem Ih (a : List Cred) : ∀ (n : Nat) (out s : List Cred), vn 136 dJ wK (⟨0, ⟨zS, zS⟩, zS, ⟨zS, zS⟩, ⟨zS, zS⟩, zS⟩ : Cred) a n out = some s → s.length < 4611686018427387904 → sK a n out = some s ∧ out.length ≤ s.length
  | 0, out, s, h, _ => by cases h
  | n + 1, out, s, h, hs => by
    rw [vn] at h
    rw [sK]
    have key : out.length ≤ s.length → oU out a false (⟨0, ⟨zS, zS⟩, zS, ⟨zS, zS⟩, ⟨zS, zS⟩, zS⟩ : Cred) = _ := fun hl => AY out (by omega) a false _
    split at h
    · rename_i h1
      cases h
      rw [key (Nat.le_refl _)]
      simp only [Option.bind_some]
      rw [if_pos h1]
      exact ⟨rfl, Nat.le_refl _⟩
    · rename_i h1
      obtain ⟨o, h2, h3⟩ := bind_some h
      have h4 := Ih a n o s h3 hs
      have h5 : out.length + 1 = o.length := by
        unfold fK at h2; split at h2
        · cases h2; simp
        · cases h2
      rw [key (by omega)]
      simp only [Option.bind_some]
      rw [if_neg h1, h2]
      exact ⟨h4.1, by omega⟩
theorem H2 (a : List ByteArray) : ∀ (n : Nat) (out s : List ByteArray), vn 16 fH lS zS a n out = some s → s.length < 4611686018427387904 → sD a n out = some s ∧ out.length ≤ s.length
  | 0, out, s, h, _ => by cases h
  | n + 1, out, s, h, hs => by
    rw [vn] at h
    rw [sD]
    have key : out.length ≤ s.length → ∃ b', oP out a zS = some b' ∧ mQ fH lS out.getLast? a false zS = (!cQ b' zS, b') := fun hl => by
      have := AR out (by omega) a zS
      rw [ra] at this
      exact this
    split at h
    · rename_i h1
      cases h
      obtain ⟨b', k1, k2⟩ := key (Nat.le_refl _)
      rw [k1]
      rw [k2] at h1
      simp only [Option.bind_some]
      rw [if_pos (by simpa using h1)]
      exact ⟨rfl, Nat.le_refl _⟩
    · rename_i h1
      obtain ⟨o, h2, h3⟩ := bind_some h
      have h4 := H2 a n o s h3 hs
      have h5 : out.length + 1 = o.length := by
        unfold fK at h2; split at h2
        · cases h2; simp
        · cases h2
      obtain ⟨b', k1, k2⟩ := key (by omega)
      rw [k1]
      rw [k2] at h1 h2
      simp only [Option.bind_some]
      rw [if_neg (by simpa using h1), h2]
      exact ⟨h4.1, by omega⟩
abbrev JE (l s : List ByteArray) := rU (fun a b => lS a b = true) (fun x => fH x = true) l s
abbrev ro (l s : List Cred) := rU (fun a b => wK a b = true) (fun x => dJ x = true) l s
theorem wt {α : Type} {lt : α → α → Bool} {R : α → Bool} (H : vq (fun a b => lt a b = true) (fun x => R x = true)) {l s : List α} (h : rU (fun a b => lt a b = true) (fun x => R x = true) l s) : s.length ≤ l.length :=
  eU (rH H (fun x hx => ((h.2 x).1 hx).2) h.1) (fun x hx => ((h.2 x).1 hx).1)
theorem IY (l : List Cred) (hl : l.length ≤ 1000000000) : ∃ s, An l = some s ∧ ro l s := by
  obtain ⟨s, h1, h2⟩ := wS Aa (w := 136) (by omega) (⟨0, ⟨zS, zS⟩, zS, ⟨zS, zS⟩, ⟨zS, zS⟩, zS⟩ : Cred) l hl cE [] (by rw [sV]; omega) (by simp) (by simp) (fun x _ _ => .inr rfl)
  exact ⟨s, (Ih l cE [] s h1 (by have := wt Aa h2; omega)).1, h2⟩
theorem I9 (l : List ByteArray) (hl : l.length ≤ 1000000000) : ∃ s, xe l = some s ∧ JE l s := by
  obtain ⟨s, h1, h2⟩ := wS (H4 (fun x => fH x = true)) (w := 16) (by omega) zS l hl cE [] (by rw [sV]; omega) (by simp) (by simp) (fun x _ _ => .inr rfl)
  exact ⟨s, (H2 l cE [] s h1 (by have := wt (H4 _) h2; omega)).1, h2⟩
end Go.Proofs.YtmlncblocfcmiaaGreat
namespace Go.Proofs.YtmlncblocfcmiaaGreat
open Go.RowKit
def zC : Cred := ⟨0, ⟨zS, zS⟩, zS, ⟨zS, zS⟩, ⟨zS, zS⟩, zS⟩
theorem Fb (f : Cred → Option Bool) : ∀ (n : Nat) (l : List Cred) (i j : Int), fD f n l i j = yr f zC n l i j
  | 0, _, _, _ => rfl
  | n + 1, l, i, j => by
    rw [fD, yr]
    simp only [Fb f n]
    rfl
theorem Fh (f : Cred → Option Bool) : ∀ (l : List Cred) (i : Nat), fJ f l i = uj f l i
  | [], _ => rfl
  | x :: l, i => by rw [fJ, uj]; simp only [Fh f l]
theorem Hl (f : Cred → Option Bool) (l : List Cred) : jW l f = B0 f zC l := by
  unfold jW B0 mR
  simp only [Fh, Fb]
theorem D6 (i : Int) : ∀ (n : Nat) (l : List Cred) (k j : Int), fX i n l k j = vQ fB i n l k j
  | 0, _, _, _ => rfl
  | n + 1, l, k, j => by
    rw [fX, vQ]
    simp only [D6 i n]
theorem Ej (l : List Cred) : ∀ (n : Nat) (i : Int), fY l n i = wZ fB zC l n i
  | 0, _ => rfl
  | n + 1, i => by
    rw [fY, wZ]
    simp only [Ej l n, D6]
    rfl
theorem Hp (l : List Cred) : lI l = DG fB zC l := by
  unfold lI DG
  simp only [Ej]
theorem JL {l : List Cred} (hl : l.length ≤ 1000000000) : mW l = some l := by
  unfold mW
  rw [gM (by simp; omega) (by simp; omega)]
  simp
theorem JN (l : List Cred) (hl : l.length ≤ 1000000000) : ∃ s, re l = some s ∧ ro l s := by
  unfold re
  rw [JL hl]
  simp only [Option.bind_some]
  rw [Hl, DT _ (fun x => !dJ x) zC l (by omega) (fun x _ => by simp [rz, rY])]
  simp only [Option.bind_some, Bool.not_not]
  have hf : (l.filter fun x => dJ x).length ≤ l.length := List.length_filter_le _ _
  obtain ⟨s, h1, h2, h3⟩ := Aw (eq := fB) (lt := fun a b => wK a b = true) (P := fun x => dJ x = true) (cf := fun x => nC x.1 x.2) (l := l.filter fun x => dJ x) (fun x y => iW) Aa (fun x hx => (List.mem_filter.1 hx).2) (by omega) (fun x y _ _ => Ae x y)
  rw [h1]
  simp only [Option.bind_some]
  rw [Hp, DW _ _ _ (by omega)]
  refine ⟨_, rfl, h3.1, fun x => ?_⟩
  rw [h3.2]
  simp
end Go.Proofs.YtmlncblocfcmiaaGreat
namespace Go.Proofs.YtmlncblocfcmiaaGreat
open Go.RowKit
def tt {κ : Type} (ks : List κ) : List (κ × Bool) := ks.map fun k => (k, true)
def sy {κ : Type} (beq : κ → κ → Bool) (ks : List κ) (k : κ) : Bool := ks.any fun x => beq k x
def ins {κ : Type} (beq : κ → κ → Bool) (ks : List κ) (k : κ) : List κ := if sy beq ks k then ks else ks ++ [k]
section
variable {κ : Type} {beq : κ → κ → Bool}
theorem sh (hb : ∀ {x y}, beq x y = true ↔ x = y) (ks : List κ) (k : κ) : sy beq ks k = true ↔ k ∈ ks := by
  simp [sy, List.any_eq_true, hb]
theorem Gy (ks : List κ) : (tt ks).length = ks.length := by simp [tt]
theorem Hb (ks : List κ) (k : κ) : sN beq (tt ks) k false = sy beq ks k := by
  unfold sN cH sy tt
  induction ks with
  | nil => rfl
  | cons x xs ih =>
    simp only [List.map_cons, List.find?_cons, List.any_cons]
    cases h : beq k x with
    | true => simp
    | false => simpa using ih
theorem IA (hb : ∀ {x y}, beq x y = true ↔ x = y) (ks : List κ) (k : κ) : iG beq (tt ks) k true = tt (ins beq ks k) := by
  unfold iG ins
  have hf : (tt ks).findIdx? (fun p => beq k p.1) = ks.findIdx? (fun x => beq k x) := by
    unfold tt; rw [List.findIdx?_map]; rfl
  rw [hf]
  cases h : ks.findIdx? (fun x => beq k x) with
  | none =>
    rw [List.findIdx?_eq_none_iff] at h
    rw [if_neg]
    · simp [tt]
    · intro hh
      unfold sy at hh
      rw [List.any_eq_true] at hh
      obtain ⟨x, hx, hx2⟩ := hh
      rw [h x hx] at hx2
      cases hx2
  | some i =>
    rw [List.findIdx?_eq_some_iff_getElem] at h
    obtain ⟨hi, h1, _⟩ := h
    have e := hb.1 h1
    rw [if_pos]
    · simp only [tt]
      apply List.ext_getElem?
      intro j
      rw [List.getElem?_set]
      split
      · rename_i hij
        subst hij
        simp [hi, e]
      · rfl
    · unfold sy
      exact List.any_eq_true.2 ⟨ks[i], List.getElem_mem hi, h1⟩
end
section
variable {all : List Cred} {wants : List Role} {T : List Role} {W : List ByteArray} {R : List Cred}
def iN (c : Cred) : List Role := if c.Kind = 1 then [] else if c.Kind = 4 then [c.B, c.C] else [c.B]
end
theorem EQ (x : Cred) : ∀ l : List Cred, th l x = some (sy fB l x)
  | [] => rfl
  | y :: l => by
    have ih := EQ x l
    unfold th at ih ⊢
    rw [oT, ih]
    have : fB y x = fB x y := by rw [Bool.eq_iff_iff, iW, iW]; exact eq_comm
    rw [this]
    simp only [sy, List.any_cons]
    cases fB x y <;> simp
end Go.Proofs.YtmlncblocfcmiaaGreat
namespace Go.Proofs.YtmlncblocfcmiaaGreat
open Go.RowKit
theorem Jq {c : Cred} (h : dJ c = true) : sr c = some (c.Head :: iN c) := by
  unfold sr
  rw [rY, h]
  simp only [Option.bind_some, Bool.not_true, Bool.false_eq_true, if_false]
  have hkk : c.Kind = 1 ∨ c.Kind = 2 ∨ c.Kind = 3 ∨ c.Kind = 4 := by rcases iS h with h | h | h | h <;> simp [h.1]
  rcases hkk with k | k | k | k
  · simp [k, iN]
  · rw [if_pos (by simp [k]), gM (by simp) (by simp)]
    simp [k, iN]
  · rw [if_pos (by simp [k]), gM (by simp) (by simp)]
    simp [k, iN]
  · rw [if_pos (by simp [k]), gM (by simp) (by simp)]
    simp only [Option.bind_some]
    rw [if_pos (by simp [k]), gM (by simp) (by simp)]
    simp [k, iN]
theorem rU.congr {α : Type} {lt : α → α → Prop} {P : α → Prop} {l m s : List α} (h : rU lt P l s) (hm : ∀ x, x ∈ l ↔ x ∈ m) : rU lt P m s := ⟨h.1, fun x => by rw [h.2, hm]⟩
theorem IT {κ : Type} (ks : List κ) : (tt ks).map (·.1) = ks := by simp [tt, Function.comp_def]
end Go.Proofs.YtmlncblocfcmiaaGreat
namespace Go.Proofs.YtmlncblocfcmiaaGreat
open Go.RowKit
theorem AX : ∀ (l : List Cred) (n : Int), 0 ≤ n → n ≤ 4000000000000000000 → (∀ c ∈ l, c.Head.Owner.size + c.Head.Word.size + c.Who.size + c.B.Owner.size + c.B.Word.size + c.C.Owner.size + c.C.Word.size + c.Word2.size ≤ 1000000000) → n + l.length * 1000000020 ≤ 4000000000000000000 →
    ∃ r, iP l n = some r ∧ n + 20 * l.length ≤ r
  | [], n, _, _, _, _ => ⟨n, rfl, by simp⟩
  | c :: l, n, h0, h1, hc, hb => by
    have h := hc c (by simp)
    simp only [List.length_cons] at hb ⊢
    rw [iP]
    rw [dL (x := 20 + (c.Head.Owner.size : Int)) (by omega) (by omega), dL (x := 20 + (c.Head.Owner.size : Int) + (c.Head.Word.size : Int)) (by omega) (by omega), dL (x := 20 + (c.Head.Owner.size : Int) + (c.Head.Word.size : Int) + (c.Who.size : Int)) (by omega) (by omega), dL (x := 20 + (c.Head.Owner.size : Int) + (c.Head.Word.size : Int) + (c.Who.size : Int) + (c.B.Owner.size : Int)) (by omega) (by omega), dL (x := 20 + (c.Head.Owner.size : Int) + (c.Head.Word.size : Int) + (c.Who.size : Int) + (c.B.Owner.size : Int) + (c.B.Word.size : Int)) (by omega) (by omega), dL (x := 20 + (c.Head.Owner.size : Int) + (c.Head.Word.size : Int) + (c.Who.size : Int) + (c.B.Owner.size : Int) + (c.B.Word.size : Int) + (c.C.Owner.size : Int)) (by omega) (by omega), dL (x := 20 + (c.Head.Owner.size : Int) + (c.Head.Word.size : Int) + (c.Who.size : Int) + (c.B.Owner.size : Int) + (c.B.Word.size : Int) + (c.C.Owner.size : Int) + (c.C.Word.size : Int)) (by omega) (by omega), dL (x := 20 + (c.Head.Owner.size : Int) + (c.Head.Word.size : Int) + (c.Who.size : Int) + (c.B.Owner.size : Int) + (c.B.Word.size : Int) + (c.C.Owner.size : Int) + (c.C.Word.size : Int) + (c.Word2.size : Int)) (by omega) (by omega), dL (by omega) (by omega)]
    obtain ⟨r, e1, e2⟩ := AX l (n + (20 + (c.Head.Owner.size : Int) + (c.Head.Word.size : Int) + (c.Who.size : Int) + (c.B.Owner.size : Int) + (c.B.Word.size : Int) + (c.C.Owner.size : Int) + (c.C.Word.size : Int) + (c.Word2.size : Int))) (by omega) (by omega) (fun d hd => hc d (by simp [hd])) (by omega)
    exact ⟨r, e1, by omega⟩
def rf (c : Cred) : Nat := c.Head.Owner.size + c.Head.Word.size + c.Who.size + c.B.Owner.size + c.B.Word.size + c.C.Owner.size + c.C.Word.size + c.Word2.size
theorem D8 (l : List Cred) (hl : l.length ≤ 100000000) (hc : ∀ c ∈ l, rf c ≤ 1000000000) : ∃ r, mO l = some r := by
  obtain ⟨r, h, _⟩ := AX l 0 (by omega) (by omega) hc (by omega)
  exact ⟨r, h⟩
end Go.Proofs.YtmlncblocfcmiaaGreat
namespace Go.Proofs.YtmlncblocfcmiaaGreat
open Go.RowKit
section
variable {κ γ : Type} {beq : κ → κ → Bool}
theorem mA (hb : ∀ {x y}, beq x y = true ↔ x = y) {A B : List (κ × γ)} {k : κ} {x : γ} (hA : ∀ p ∈ A, p.1 ≠ k) : cH beq (A ++ (k, x) :: B) k = some x := by
  unfold cH
  rw [List.find?_append]
  have : A.find? (fun p => beq k p.1) = none := List.find?_eq_none.2 (fun p hp h => hA p hp (hb.1 h).symm)
  rw [this]
  simp [hb.2 (rfl : k = k)]
theorem rL (hb : ∀ {x y}, beq x y = true ↔ x = y) {l : List (κ × γ)} {k : κ} (h : ∀ p ∈ l, p.1 ≠ k) : cH beq l k = none := by
  unfold cH
  rw [List.find?_eq_none.2 (fun p hp hh => h p hp (hb.1 hh).symm)]
  rfl
theorem sP (hb : ∀ {x y}, beq x y = true ↔ x = y) {A B : List (κ × γ)} {k : κ} {x y : γ} (hA : ∀ p ∈ A, p.1 ≠ k) : iG beq (A ++ (k, x) :: B) k y = A ++ (k, y) :: B := by
  have h1 : (A ++ (k, x) :: B).findIdx? (fun p => beq k p.1) = some A.length := by
    rw [List.findIdx?_append, List.findIdx?_eq_none_iff.2 (fun p hp => by
      cases h : beq k p.1 with
      | false => rfl
      | true => exact absurd (hb.1 h).symm (hA p hp))]
    simp [List.findIdx?_cons, hb.2 (rfl : k = k)]
  rw [mF h1]
  simp
theorem xF (hb : ∀ {x y}, beq x y = true ↔ x = y) {l : List (κ × γ)} {k : κ} {y : γ} (h : ∀ p ∈ l, p.1 ≠ k) : iG beq l k y = l ++ [(k, y)] := by
  refine rb (List.findIdx?_eq_none_iff.2 (fun p hp => ?_)) y
  cases hh : beq k p.1 with
  | false => rfl
  | true => exact absurd (hb.1 hh).symm (h p hp)
theorem pX (k : κ) : ∀ (l : List (κ × γ)), (∀ p ∈ l, p.1 ≠ k) ∨ ∃ A x B, l = A ++ (k, x) :: B ∧ ∀ p ∈ A, p.1 ≠ k
  | [] => .inl (fun _ h => by cases h)
  | p :: l => by
    by_cases hp : p.1 = k
    · exact .inr ⟨[], p.2, l, by rw [← hp]; rfl, fun _ h => by cases h⟩
    · rcases pX k l with h | ⟨A, x, B, rfl, h⟩
      · exact .inl (fun q hq => by rcases List.mem_cons.1 hq with rfl | hq; exact hp; exact h q hq)
      · exact .inr ⟨p :: A, x, B, rfl, fun q hq => by rcases List.mem_cons.1 hq with rfl | hq; exact hp; exact h q hq⟩
theorem AB (hb : ∀ {x y}, beq x y = true ↔ x = y) (A B : List (κ × γ)) (k : κ) : cH beq (A ++ B) k = (cH beq A k).or (cH beq B k) := by
  unfold cH
  rw [List.find?_append]
  cases A.find? (fun p => beq k p.1) <;> rfl
theorem wN (p : κ × γ) (l : List (κ × γ)) (k : κ) : cH beq (p :: l) k = if beq k p.1 = true then some p.2 else cH beq l k := by
  unfold cH
  rw [List.find?_cons]
  cases beq k p.1 <;> simp
theorem zB (hb : ∀ {x y}, beq x y = true ↔ x = y) (l : List (κ × γ)) (k k2 : κ) (y : γ) : cH beq (iG beq l k y) k2 = if beq k2 k = true then some y else cH beq l k2 := by
  rcases pX k l with h | ⟨A, x, B, rfl, h⟩
  · rw [xF hb h, AB hb, wN]
    by_cases hk : beq k2 k = true
    · have := hb.1 hk
      subst this
      rw [if_pos hk, if_pos hk, rL hb h]; rfl
    · rw [if_neg hk, if_neg hk]
      show (cH beq l k2).or none = _
      cases cH beq l k2 <;> rfl
  · rw [sP hb h, AB hb, wN, AB hb, wN]
    by_cases hk : beq k2 k = true
    · have := hb.1 hk
      subst this
      rw [if_pos hk, if_pos hk, rL hb h]; rfl
    · rw [if_neg hk, if_neg hk, if_neg hk]
end
abbrev jI := List (Role × List ByteArray)
def mm (T : jI) : List (Role × List (ByteArray × Bool)) := T.map fun p => (p.1, tt p.2)
def nB (T : jI) (r : Role) : List ByteArray := (cH bA T r).getD []
def FS (T : jI) : List aT := T.flatMap fun p => p.2.map fun w => (⟨p.1, w⟩ : aT)
def yR (T : jI) (r : Role) (w : ByteArray) : jI := iG bA T r (nB T r ++ [w])
theorem yX (A B : jI) : mm (A ++ B) = mm A ++ mm B := by simp [mm]
theorem uO {A : jI} {r : Role} (h : ∀ p ∈ A, p.1 ≠ r) : ∀ p ∈ mm A, p.1 ≠ r := by
  intro p hp
  simp only [mm, List.mem_map] at hp
  obtain ⟨q, hq, rfl⟩ := hp
  exact h q hq
theorem IU (T : jI) (r : Role) : cH bA (mm T) r = (cH bA T r).map tt := by
  rcases pX r T with h | ⟨A, x, B, rfl, h⟩
  · rw [rL aZ h, rL aZ (uO h)]; rfl
  · rw [mA aZ h, yX]
    exact mA aZ (uO h)
theorem EO (T : jI) (r : Role) : (cH bA (mm T) r).getD [] = tt (nB T r) := by
  rw [IU, nB]; cases cH bA T r <;> rfl
theorem A7 (T : jI) (r : Role) (w : ByteArray) : (FS (yR T r w)).Perm (FS T ++ [(⟨r, w⟩ : aT)]) := by
  unfold yR nB
  rcases pX r T with h | ⟨A, x, B, rfl, h⟩
  · rw [xF aZ h, rL aZ h]
    simp [FS]
  · rw [sP aZ h, mA aZ h]
    simp only [FS, List.flatMap_append, List.flatMap_cons, Option.getD_some, List.map_append, List.map_cons, List.map_nil, List.append_assoc]
    refine List.Perm.append_left _ (List.Perm.append_left _ ?_)
    exact List.perm_append_comm
theorem HM {T : jI} (hk : (T.map (·.1)).Nodup) (r : Role) (w : ByteArray) : ((yR T r w).map (·.1)).Nodup := by
  unfold yR
  rcases pX r T with h | ⟨A, x, B, rfl, h⟩
  · rw [xF aZ h]
    simp only [List.map_append, List.map_cons, List.map_nil]
    refine List.nodup_append.2 ⟨hk, by simp, fun a ha b hb e => ?_⟩
    simp at hb; subst hb; subst e
    obtain ⟨p, hp, e⟩ := List.mem_map.1 ha
    exact h p hp e
  · rw [sP aZ h]
    simpa using hk
theorem wd {T : jI} (hk : (T.map (·.1)).Nodup) (f : aT) : f ∈ FS T ↔ f.Who ∈ nB T f.Role := by
  simp only [FS, List.mem_flatMap, List.mem_map]
  constructor
  · rintro ⟨p, hp, w, hw, rfl⟩
    obtain ⟨A, B, rfl⟩ := List.append_of_mem hp
    have hA : ∀ q ∈ A, q.1 ≠ p.1 := fun q hq e => by
      rw [List.map_append, List.map_cons] at hk
      exact (List.nodup_append.1 hk).2.2 q.1 (List.mem_map.2 ⟨q, hq, rfl⟩) p.1 (by simp) e
    rw [nB, show p = (p.1, p.2) from rfl, mA aZ hA]
    exact hw
  · intro h
    unfold nB at h
    rcases pX f.Role T with hn | ⟨A, x, B, rfl, hA⟩
    · rw [rL aZ hn] at h; cases h
    · rw [mA aZ hA] at h
      exact ⟨(f.Role, x), by simp, f.Who, h, rfl⟩
theorem EG {T : jI} (h : (FS T).Nodup) (r : Role) : (nB T r).Nodup := by
  unfold nB
  rcases pX r T with hn | ⟨A, x, B, rfl, hA⟩
  · rw [rL aZ hn]; simp
  · rw [mA aZ hA]
    simp only [FS, List.flatMap_append, List.flatMap_cons] at h
    have h1 := (List.nodup_append.1 (List.nodup_append.1 h).2.1).1
    simp only [List.Nodup, List.pairwise_map] at h1
    exact h1.imp (fun h e => h (by rw [e]))
inductive jO (C : List Cred) : aT → Prop
  | mem (c) : c ∈ C → c.Kind = 1 → jO C ⟨c.Head, c.Who⟩
  | inc (c w) : c ∈ C → c.Kind = 2 → jO C ⟨c.B, w⟩ → jO C ⟨c.Head, w⟩
  | lnk (c b w) : c ∈ C → c.Kind = 3 → jO C ⟨c.B, b⟩ → jO C ⟨⟨b, c.Word2⟩, w⟩ → jO C ⟨c.Head, w⟩
  | both (c w) : c ∈ C → c.Kind = 4 → jO C ⟨c.B, w⟩ → jO C ⟨c.C, w⟩ → jO C ⟨c.Head, w⟩
theorem jO.mono {C C' : List Cred} (h : ∀ c ∈ C, c ∈ C') {f : aT} (hf : jO C f) : jO C' f := by
  induction hf with
  | mem c hc hk => exact .mem c (h c hc) hk
  | inc c w hc hk _ ih => exact .inc c w (h c hc) hk ih
  | lnk c b w hc hk _ _ ih1 ih2 => exact .lnk c b w (h c hc) hk ih1 ih2
  | both c w hc hk _ _ ih1 ih2 => exact .both c w (h c hc) hk ih1 ih2
def uni (C : List Cred) : List aT := (C.map (·.Head)).flatMap fun r => (C.map (·.Who)).map fun w => (⟨r, w⟩ : aT)
theorem yd (C : List Cred) : (uni C).length = C.length * C.length := by
  unfold uni
  have : ∀ l : List Role, (l.flatMap fun r => (C.map (·.Who)).map fun w => (⟨r, w⟩ : aT)).length = l.length * C.length := fun l => by
    induction l with
    | nil => simp
    | cons x l ih => simp only [List.flatMap_cons, List.length_append, ih, List.length_map, List.length_cons, Nat.add_mul]; omega
  rw [this, List.length_map]
theorem I1 {C : List Cred} {r : Role} {w : ByteArray} : (⟨r, w⟩ : aT) ∈ uni C ↔ (∃ c ∈ C, c.Head = r) ∧ ∃ c ∈ C, c.Who = w := by
  unfold uni
  simp only [List.mem_flatMap, List.mem_map, aT.mk.injEq]
  constructor
  · rintro ⟨r', ⟨c, hc, rfl⟩, w', ⟨c', hc', rfl⟩, rfl, rfl⟩; exact ⟨⟨c, hc, rfl⟩, c', hc', rfl⟩
  · rintro ⟨⟨c, hc, rfl⟩, c', hc', rfl⟩; exact ⟨_, ⟨c, hc, rfl⟩, _, ⟨c', hc', rfl⟩, rfl, rfl⟩
theorem jO.who {C : List Cred} {f : aT} (h : jO C f) : ∃ c ∈ C, c.Kind = 1 ∧ c.Who = f.Who := by
  induction h with
  | mem c hc hk => exact ⟨c, hc, hk, rfl⟩
  | inc c w hc hk _ ih => exact ih
  | lnk c b w hc hk _ _ ih1 ih2 => exact ih2
  | both c w hc hk _ _ ih1 ih2 => exact ih1
theorem jO.head {C : List Cred} {f : aT} (h : jO C f) : ∃ c ∈ C, c.Head = f.Role := by
  cases h with
  | mem c hc hk => exact ⟨c, hc, rfl⟩
  | inc c w hc hk _ => exact ⟨c, hc, rfl⟩
  | lnk c b w hc hk _ _ => exact ⟨c, hc, rfl⟩
  | both c w hc hk _ _ => exact ⟨c, hc, rfl⟩
theorem jO.uni {C : List Cred} {f : aT} (h : jO C f) : f ∈ uni C := by
  obtain ⟨c, hc, _, hw⟩ := h.who
  exact I1.2 ⟨h.head, c, hc, hw⟩
structure lH (C : List Cred) (T : jI) (td : List aT) (n : Int) : Prop where
  keys : (T.map (·.1)).Nodup
  nd : (FS T).Nodup
  tnd : td.Nodup
  sub : ∀ f ∈ td, f ∈ FS T
  num : n = (FS T).length
  der : ∀ f ∈ FS T, jO C f
theorem lH.len {C : List Cred} {T : jI} {td : List aT} {n : Int} (h : lH C T td n) : (FS T).length ≤ C.length * C.length := by
  rw [← yd]; exact eU h.nd (fun f hf => (h.der f hf).uni)
theorem lH.tlen {C : List Cred} {T : jI} {td : List aT} {n : Int} (h : lH C T td n) : td.length ≤ (FS T).length := eU h.tnd h.sub
theorem lH.mono {C C' : List Cred} {T : jI} {td : List aT} {n : Int} (h : lH C T td n) (hc : ∀ c ∈ C, c ∈ C') : lH C' T td n := ⟨h.keys, h.nd, h.tnd, h.sub, h.num, fun f hf => (h.der f hf).mono hc⟩
structure vd (T : jI) (td : List aT) (T' : jI) (td' : List aT) : Prop where
  old : ∀ f ∈ FS T, f ∈ FS T'
  todo : ∀ f ∈ td, f ∈ td'
  new : ∀ f ∈ FS T', f ∈ FS T ∨ f ∈ td'
  fresh : ∀ f ∈ td', f ∈ td ∨ f ∉ FS T
theorem vd.refl (T : jI) (td : List aT) : vd T td T td := ⟨fun _ h => h, fun _ h => h, fun _ h => .inl h, fun _ h => .inl h⟩
theorem vd.trans {T T' T'' : jI} {td td' td'' : List aT} (h : vd T td T' td') (k : vd T' td' T'' td'') : vd T td T'' td'' :=
  ⟨fun f hf => k.old f (h.old f hf), fun f hf => k.todo f (h.todo f hf), fun f hf => by
    rcases k.new f hf with h1 | h1
    · rcases h.new f h1 with h2 | h2
      · exact .inl h2
      · exact .inr (k.todo f h2)
    · exact .inr h1, fun f hf => by
    rcases k.fresh f hf with h1 | h1
    · exact h.fresh f h1
    · exact .inr (fun h2 => h1 (h.old f h2))⟩
theorem Ba {α : Type} (p : α → Bool) : ∀ l : List α, (l.filter p).length + (l.filter fun x => !p x).length = l.length
  | [] => rfl
  | x :: l => by
    have := Ba p l
    cases h : p x <;> simp [h] <;> omega
theorem lH.cnt {C C' : List Cred} {T T' : jI} {td td' : List aT} {n n' : Int} (g' : lH C' T' td' n') (g : lH C T td n) (x : vd T td T' td') : td'.length + (FS T).length ≤ td.length + (FS T').length := by
  classical
  have h1 : (td'.filter fun f => decide (f ∈ FS T)).length ≤ td.length := eU (g'.tnd.filter _) (fun f hf => by
    have := List.mem_filter.1 hf
    rcases x.fresh f this.1 with h | h
    · exact h
    · exact absurd (by simpa using this.2) h)
  have h2 : (FS T ++ td'.filter fun f => !decide (f ∈ FS T)).length ≤ (FS T').length := eU (List.nodup_append.2 ⟨g.nd, g'.tnd.filter _, fun a ha b hb e => by
    subst e
    have := (List.mem_filter.1 hb).2
    simp [ha] at this⟩) (fun f hf => by
    rcases List.mem_append.1 hf with h | h
    · exact x.old f h
    · exact g'.sub f (List.mem_filter.1 h).1)
  have h3 : (td'.filter fun f => decide (f ∈ FS T)).length + (td'.filter fun f => !decide (f ∈ FS T)).length = td'.length := by
    exact Ba (fun f => decide (f ∈ FS T)) td'
  rw [List.length_append] at h2
  omega
def xh (C : List Cred) (T : jI) (td : List aT) (res : Option (List (Role × List (ByteArray × Bool)) × List aT × Int)) (Q : jI → Prop) : Prop :=
  ∃ T' td' n', res = some (mm T', td', n') ∧ lH C T' td' n' ∧ vd T td T' td' ∧ Q T'
theorem xh.mono {C : List Cred} {T : jI} {td : List aT} {res : Option (List (Role × List (ByteArray × Bool)) × List aT × Int)} {Q Q' : jI → Prop} (h : xh C T td res Q) (hq : ∀ T', (∀ f ∈ FS T, f ∈ FS T') → Q T' → Q' T') : xh C T td res Q' := by
  obtain ⟨T', td', n', h1, h2, h3, h4⟩ := h
  exact ⟨T', td', n', h1, h2, h3, hq T' h3.old h4⟩
def lX (C : List Cred) : Prop := C.length ≤ 1000000
theorem lX.sq {C : List Cred} (h : lX C) : C.length * C.length ≤ 1000000000000 := Nat.mul_le_mul h h
theorem oC {T : jI} (hk : (T.map (·.1)).Nodup) (r : Role) (w : ByteArray) : sN cQ ((cH bA (mm T) r).getD []) w false = true ↔ (⟨r, w⟩ : aT) ∈ FS T := by
  rw [EO, Hb, sh eP, wd hk]
theorem xM {C : List Cred} (hC : lX C) {T : jI} {td : List aT} {n : Int} (h : lH C T td n) (cs : List Cred) (us : List (Role × List Cred)) (ws : List (ByteArray × List Cred)) {r : Role} {w : ByteArray} (hd : jO C ⟨r, w⟩) :
    xh C T td (fQ (mm T) cs us ws td n r w) (fun T' => (⟨r, w⟩ : aT) ∈ FS T') := by
  unfold fQ
  have hsq := hC.sq
  have hl := h.len
  have htl := h.tlen
  by_cases hin : (⟨r, w⟩ : aT) ∈ FS T
  · rw [if_pos ((oC h.keys r w).2 hin)]
    exact ⟨T, td, n, rfl, h, vd.refl _ _, hin⟩
  · rw [if_neg (fun hh => hin ((oC h.keys r w).1 hh))]
    have hg : lH C (yR T r w) (td ++ [⟨r, w⟩]) (n + 1) := by
      have hp := A7 T r w
      refine ⟨HM h.keys r w, (hp.nodup_iff).2 (List.nodup_append.2 ⟨h.nd, by simp, fun a ha b hb e => ?_⟩), List.nodup_append.2 ⟨h.tnd, by simp, fun a ha b hb e => ?_⟩, fun f hf => hp.mem_iff.2 ?_, ?_, fun f hf => ?_⟩
      · simp at hb; subst hb; subst e; exact hin ha
      · simp at hb; subst hb; subst e; exact hin (h.sub _ ha)
      · rcases List.mem_append.1 hf with hf | hf
        · exact List.mem_append_left _ (h.sub f hf)
        · exact List.mem_append_right _ hf
      · rw [hp.length_eq, h.num]; simp
      · rcases List.mem_append.1 (hp.mem_iff.1 hf) with hf | hf
        · exact h.der f hf
        · simp at hf; subst hf; exact hd
    have hst : ((if (cH bA (mm T) r).isNone = true then ((AV bA (mm T) r []).bind fun l => some l) else some (mm T)) : Option _).bind (fun l => (AH bA cQ l r w true)) = some (mm (yR T r w)) := by
      unfold yR nB
      rcases pX r T with hn | ⟨A, x, B, rfl, hA⟩
      · have hn' := rL aZ (uO hn)
        rw [hn', rL aZ hn, xF aZ hn, yX]
        simp only [Option.isNone_none, if_true, AV, hn', Option.bind_some]
        rw [xF aZ (uO hn)]
        unfold AH
        rw [mA aZ (uO hn)]
        simp only [Option.map_some]
        rw [sP aZ (uO hn)]
        rfl
      · have hA' := uO hA
        have hs : cH bA (mm (A ++ (r, x) :: B)) r = some (tt x) := by rw [yX]; exact mA aZ hA'
        rw [hs, mA aZ hA, sP aZ hA]
        simp only [Option.isNone_some, Bool.false_eq_true, if_false, Option.bind_some, AH, hs, Option.map_some, Option.getD_some]
        have hx : w ∉ x := fun hw => hin (by
          rw [wd h.keys, nB, mA aZ hA]; exact hw)
        rw [IA eP]
        rw [show ins cQ x w = x ++ [w] from by unfold ins; rw [if_neg (fun hh => hx ((sh eP x w).1 hh))]]
        rw [yX, show mm ((r, x) :: B) = (r, tt x) :: mm B from rfl, sP aZ hA', yX]
        rfl
    refine ⟨yR T r w, td ++ [⟨r, w⟩], n + 1, ?_, hg, ⟨fun f hf => (A7 T r w).mem_iff.2 (List.mem_append_left _ hf), fun f hf => List.mem_append_left _ hf, fun f hf => ?_, fun f hf => ?_⟩, (A7 T r w).mem_iff.2 (by simp)⟩
    · have hst' := hst
      generalize ((if (cH bA (mm T) r).isNone = true then ((AV bA (mm T) r []).bind fun l => some l) else some (mm T)) : Option _) = o at hst'
      cases o with
      | none => cases hst'
      | some l =>
        simp only [Option.bind_some] at hst' ⊢
        rw [hst']
        simp only [Option.bind_some]
        rw [gM (by simp; omega) (by simp; omega)]
        simp only [Option.bind_some]
        rw [dL (by rw [h.num]; omega) (by rw [h.num]; omega)]
    · rcases List.mem_append.1 ((A7 T r w).mem_iff.1 hf) with h1 | h1
      · exact .inl h1
      · exact .inr (List.mem_append_right _ h1)
    · rcases List.mem_append.1 hf with h1 | h1
      · exact .inl h1
      · simp at h1; subst h1; exact .inr hin
end Go.Proofs.YtmlncblocfcmiaaGreat
namespace Go.Proofs.YtmlncblocfcmiaaGreat
open Go.RowKit
theorem uU (l : List ByteArray) (x : ByteArray) : x ∈ qL l ↔ x ∈ l := by unfold qL; simp
def nN (C : List Cred) : Prop := ∀ c ∈ C, dJ c = true
theorem Gg {c : Cred} (h : dJ c = true) (hk : c.Kind = 1) : c.Who.size ≤ 16 := by
  rcases iS h with h | h | h | h
  · exact (iI h.2.1).2
  · exact absurd (hk.symm.trans h.1) (by decide)
  · exact absurd (hk.symm.trans h.1) (by decide)
  · exact absurd (hk.symm.trans h.1) (by decide)
theorem HX {T : jI} (r : Role) (hk : (T.map (·.1)).Nodup) : (nB T r).length ≤ (FS T).length := by
  unfold nB
  rcases pX r T with hn | ⟨A, x, B, rfl, hA⟩
  · rw [rL aZ hn]; simp
  · rw [mA aZ hA]
    simp only [FS, List.flatMap_append, List.flatMap_cons, List.length_append, List.length_map, Option.getD_some]
    omega
theorem By {C : List Cred} (hC : lX C) (hR : nN C) {T : jI} {td : List aT} {n : Int} (h : lH C T td n) (cs : List Cred) (us : List (Role × List Cred)) (ws : List (ByteArray × List Cred)) (q : List aT) (z : Int) (r : Role) :
    jK (mm T) cs us ws q z r = some (qL (nB T r)) := by
  unfold jK fW
  rw [EO]
  simp only [Option.bind_some, kL]
  have hl := HX r h.keys
  have h2 := h.len
  have h3 := hC.sq
  unfold Be
  rw [IT, if_pos]
  refine ⟨EG h.nd r, fun p hp => ?_, by rw [Gy]; omega⟩
  simp only [tt, List.mem_map] at hp
  obtain ⟨w, hw, rfl⟩ := hp
  have hd := h.der ⟨r, w⟩ ((wd h.keys ⟨r, w⟩).2 hw)
  obtain ⟨c, hc, hk, e⟩ := hd.who
  have := Gg (hR c hc) hk
  simp only at e ⊢
  rw [← e]
  unfold maxLen
  omega
theorem GK {C : List Cred} (hC : lX C) (cs : List Cred) (us : List (Role × List Cred)) (ws : List (ByteArray × List Cred)) (head : Role) : ∀ (l : List ByteArray) {T : jI} {td : List aT} {n : Int}, lH C T td n → (∀ w ∈ l, jO C ⟨head, w⟩) →
    xh C T td (gU cs us ws head l (mm T) td n) (fun T' => ∀ w ∈ l, (⟨head, w⟩ : aT) ∈ FS T')
  | [], T, td, n, h, _ => ⟨T, td, n, rfl, h, vd.refl _ _, fun _ hw => by cases hw⟩
  | w :: l, T, td, n, h, hd => by
    rw [gU]
    obtain ⟨T1, td1, n1, e1, g1, x1, q1⟩ := xM hC h cs us ws (hd w (by simp))
    rw [e1]
    simp only [Option.bind_some]
    obtain ⟨T2, td2, n2, e2, g2, x2, q2⟩ := GK hC cs us ws head l g1 (fun w hw => hd w (by simp [hw]))
    refine ⟨T2, td2, n2, e2, g2, x1.trans x2, fun v hv => ?_⟩
    rcases List.mem_cons.1 hv with rfl | hv
    · exact x2.old _ q1
    · exact q2 v hv
theorem Jv {C : List Cred} (hC : lX C) (hR : nN C) {T : jI} {td : List aT} {n : Int} (h : lH C T td n) (cs : List Cred) (us : List (Role × List Cred)) (ws : List (ByteArray × List Cred)) (r head : Role) (hd : ∀ w, (⟨r, w⟩ : aT) ∈ FS T → jO C ⟨head, w⟩) :
    xh C T td (mU (mm T) cs us ws td n r head) (fun T' => ∀ w, (⟨r, w⟩ : aT) ∈ FS T → (⟨head, w⟩ : aT) ∈ FS T') := by
  unfold mU
  rw [By hC hR h]
  simp only [Option.bind_some]
  refine (GK hC cs us ws head _ h (fun w hw => hd w ((wd h.keys ⟨r, w⟩).2 ((uU _ _).1 hw)))).mono (fun T' _ hq w hw => hq w ((uU _ _).2 ((wd h.keys ⟨r, w⟩).1 hw)))
def yU (c : Cred) (f : aT) (T T' : jI) : Prop :=
  (c.Kind = 2 → f.Role = c.B → (⟨c.Head, f.Who⟩ : aT) ∈ FS T') ∧
  (c.Kind = 3 → f.Role = c.B → ∀ w, (⟨⟨f.Who, c.Word2⟩, w⟩ : aT) ∈ FS T → (⟨c.Head, w⟩ : aT) ∈ FS T') ∧
  (c.Kind = 4 → (⟨c.B, f.Who⟩ : aT) ∈ FS T → (⟨c.C, f.Who⟩ : aT) ∈ FS T → (⟨c.Head, f.Who⟩ : aT) ∈ FS T')
theorem yU.mono {c : Cred} {f : aT} {T T' T0 T1 : jI} (h : yU c f T T') (h0 : ∀ f ∈ FS T0, f ∈ FS T) (h1 : ∀ f ∈ FS T', f ∈ FS T1) : yU c f T0 T1 :=
  ⟨fun a b => h1 _ (h.1 a b), fun a b w hw => h1 _ (h.2.1 a b w (h0 _ hw)), fun a b d => h1 _ (h.2.2 a (h0 _ b) (h0 _ d))⟩
theorem Ie (x : Option (List (Role × List (ByteArray × Bool)) × List aT × Int)) : (x.bind fun r => some (r.1, r.2.1, r.2.2)) = x := by cases x <;> rfl
theorem GS {C : List Cred} (hC : lX C) (hR : nN C) {T : jI} {td : List aT} {n : Int} (h : lH C T td n) (cs : List Cred) (us : List (Role × List Cred)) (ws : List (ByteArray × List Cred)) {c : Cred} (hc : c ∈ C) {f : aT} (hf : f ∈ FS T) (hr : f.Role ∈ iN c) :
    xh C T td (kO (mm T) cs us ws td n c f) (yU c f T) := by
  unfold kO
  simp only [Ie, yv]
  by_cases h2 : c.Kind = 2
  · have hB : f.Role = c.B := by simpa [iN, h2] using hr
    rw [if_pos (by simp [h2])]
    have hd : jO C ⟨c.Head, f.Who⟩ := .inc c f.Who hc h2 (by rw [← hB]; exact h.der f hf)
    refine (xM hC h cs us ws hd).mono (fun T' _ hq => ⟨fun _ _ => hq, fun k => absurd (h2.symm.trans k) (by decide), fun k => absurd (h2.symm.trans k) (by decide)⟩)
  rw [if_neg (by simp [h2])]
  by_cases h3 : c.Kind = 3
  · have hB : f.Role = c.B := by simpa [iN, h3] using hr
    rw [if_pos (by simp [h3])]
    refine (Jv hC hR h cs us ws ⟨f.Who, c.Word2⟩ c.Head (fun w hw => .lnk c f.Who w hc h3 (by rw [← hB]; exact h.der f hf) (h.der _ hw))).mono (fun T' _ hq => ⟨fun k => absurd k h2, fun _ _ w hw => hq w hw, fun k => absurd (h3.symm.trans k) (by decide)⟩)
  rw [if_neg (by simp [h3])]
  by_cases h4 : c.Kind = 4
  · rw [if_pos (by simp [h4])]
    simp only [Option.bind_some]
    by_cases hb : (⟨c.B, f.Who⟩ : aT) ∈ FS T ∧ (⟨c.C, f.Who⟩ : aT) ∈ FS T
    · rw [if_pos (by rw [Bool.and_eq_true, oC h.keys, oC h.keys]; exact hb)]
      have hd : jO C ⟨c.Head, f.Who⟩ := .both c f.Who hc h4 (h.der _ hb.1) (h.der _ hb.2)
      exact (xM hC h cs us ws hd).mono (fun T' _ hq => ⟨fun k => absurd k h2, fun k => absurd k h3, fun _ _ _ => hq⟩)
    · rw [if_neg (by rw [Bool.and_eq_true, oC h.keys, oC h.keys]; exact hb)]
      exact ⟨T, td, n, rfl, h, vd.refl _ _, fun k => absurd k h2, fun k => absurd k h3, fun _ x y => absurd ⟨x, y⟩ hb⟩
  · rw [if_neg (by simp [h4])]
    exact ⟨T, td, n, rfl, h, vd.refl _ _, fun k => absurd k h2, fun k => absurd k h3, fun k => absurd k h4⟩
theorem DS {C : List Cred} (hC : lX C) (hR : nN C) (cs : List Cred) (us : List (Role × List Cred)) (ws : List (ByteArray × List Cred)) {c : Cred} (hc : c ∈ C) (hr : c.B ∈ iN c) : ∀ (l : List ByteArray) {T : jI} {td : List aT} {n : Int}, lH C T td n → (∀ w ∈ l, (⟨c.B, w⟩ : aT) ∈ FS T) →
    xh C T td (gu cs us ws c l (mm T) td n) (fun T' => ∀ w ∈ l, yU c ⟨c.B, w⟩ T T')
  | [], T, td, n, h, _ => ⟨T, td, n, rfl, h, vd.refl _ _, fun _ hw => by cases hw⟩
  | w :: l, T, td, n, h, hm => by
    rw [gu]
    obtain ⟨T1, td1, n1, e1, g1, x1, q1⟩ := GS hC hR h cs us ws hc (f := ⟨c.B, w⟩) (hm w (by simp)) hr
    rw [e1]
    simp only [Option.bind_some]
    obtain ⟨T2, td2, n2, e2, g2, x2, q2⟩ := DS hC hR cs us ws hc hr l g1 (fun w hw => x1.old _ (hm w (by simp [hw])))
    refine ⟨T2, td2, n2, e2, g2, x1.trans x2, fun v hv => ?_⟩
    rcases List.mem_cons.1 hv with rfl | hv
    · exact q1.mono (fun _ h => h) x2.old
    · exact (q2 v hv).mono x1.old (fun _ h => h)
def Ax (c : Cred) (T : jI) (td : List aT) : Prop :=
  (c.Kind = 1 → (⟨c.Head, c.Who⟩ : aT) ∈ FS T) ∧
  (c.Kind = 2 → ∀ w, (⟨c.B, w⟩ : aT) ∈ FS T → (⟨c.B, w⟩ : aT) ∉ td → (⟨c.Head, w⟩ : aT) ∈ FS T) ∧
  (c.Kind = 3 → ∀ b w, (⟨c.B, b⟩ : aT) ∈ FS T → (⟨c.B, b⟩ : aT) ∉ td → (⟨⟨b, c.Word2⟩, w⟩ : aT) ∈ FS T → (⟨⟨b, c.Word2⟩, w⟩ : aT) ∉ td → (⟨c.Head, w⟩ : aT) ∈ FS T) ∧
  (c.Kind = 4 → ∀ w, (⟨c.B, w⟩ : aT) ∈ FS T → (⟨c.B, w⟩ : aT) ∉ td → (⟨c.C, w⟩ : aT) ∈ FS T → (⟨c.C, w⟩ : aT) ∉ td → (⟨c.Head, w⟩ : aT) ∈ FS T)
theorem Ax.ext {c : Cred} {T T' : jI} {td td' : List aT} (h : Ax c T td) (x : vd T td T' td') : Ax c T' td' := by
  have old : ∀ f, f ∈ FS T' → f ∉ td' → f ∈ FS T ∧ f ∉ td := fun f hf hn => by
    rcases x.new f hf with h1 | h1
    · exact ⟨h1, fun h2 => hn (x.todo f h2)⟩
    · exact absurd h1 hn
  refine ⟨fun k => x.old _ (h.1 k), fun k w a b => ?_, fun k b w a1 a2 a3 a4 => ?_, fun k w a1 a2 a3 a4 => ?_⟩
  · exact x.old _ (h.2.1 k w (old _ a b).1 (old _ a b).2)
  · exact x.old _ (h.2.2.1 k b w (old _ a1 a2).1 (old _ a1 a2).2 (old _ a3 a4).1 (old _ a3 a4).2)
  · exact x.old _ (h.2.2.2 k w (old _ a1 a2).1 (old _ a1 a2).2 (old _ a3 a4).1 (old _ a3 a4).2)
theorem Ha {C : List Cred} (hC : lX C) (hR : nN C) {T : jI} {td : List aT} {n : Int} (h : lH C T td n) (cs : List Cred) (us : List (Role × List Cred)) (ws : List (ByteArray × List Cred)) {c : Cred} (hc : c ∈ C) :
    ∃ T' td' n', lL (mm T) cs us ws td n c = some (mm T', td', n') ∧ lH C T' td' n' ∧ vd T td T' td' ∧ Ax c T' td' := by
  unfold lL
  simp only [Ie]
  by_cases h1 : c.Kind = 1
  · rw [if_pos (by simp [h1])]
    obtain ⟨T', td', n', e, g, x, q⟩ := xM hC h cs us ws (jO.mem c hc h1)
    exact ⟨T', td', n', e, g, x, fun _ => q, fun k => absurd (h1.symm.trans k) (by decide), fun k => absurd (h1.symm.trans k) (by decide), fun k => absurd (h1.symm.trans k) (by decide)⟩
  · rw [if_neg (by simp [h1]), By hC hR h]
    simp only [Option.bind_some]
    have hr : c.B ∈ iN c := by unfold iN; rw [if_neg h1]; split <;> simp
    obtain ⟨T', td', n', e, g, x, q⟩ := DS hC hR cs us ws hc hr (qL (nB T c.B)) h (fun w hw => (wd h.keys ⟨c.B, w⟩).2 ((uU _ _).1 hw))
    have old : ∀ f, f ∈ FS T' → f ∉ td' → f ∈ FS T := fun f hf hn => by
      rcases x.new f hf with h1 | h1
      · exact h1
      · exact absurd h1 hn
    have qq : ∀ w, (⟨c.B, w⟩ : aT) ∈ FS T → yU c ⟨c.B, w⟩ T T' := fun w hw => q w ((uU _ _).2 ((wd h.keys ⟨c.B, w⟩).1 hw))
    refine ⟨T', td', n', e, g, x, fun k => absurd k h1, fun k w a b => ?_, fun k b w a1 a2 a3 a4 => ?_, fun k w a1 a2 a3 a4 => ?_⟩
    · exact (qq w (old _ a b)).1 k rfl
    · exact (qq b (old _ a1 a2)).2.1 k rfl w (old _ a3 a4)
    · exact (qq w (old _ a1 a2)).2.2 k (old _ a1 a2) (old _ a3 a4)
structure zf (C : List Cred) (us : List (Role × List Cred)) (ws : List (ByteArray × List Cred)) : Prop where
  role : ∀ r c, c ∈ (cH bA us r).getD [] ↔ c ∈ C ∧ r ∈ iN c
  word : ∀ w c, c ∈ (cH cQ ws w).getD [] ↔ c ∈ C ∧ c.Kind = 3 ∧ c.Word2 = w
  rlen : ∀ r, ((cH bA us r).getD []).length ≤ 2 * C.length
  wlen : ∀ w, ((cH cQ ws w).getD []).length ≤ C.length
theorem CG {C : List Cred} (hC : lX C) (hR : nN C) (cs : List Cred) (us : List (Role × List Cred)) (ws : List (ByteArray × List Cred)) {f : aT} : ∀ (l : List Cred) {T : jI} {td : List aT} {n : Int}, lH C T td n → f ∈ FS T → (∀ c ∈ l, c ∈ C ∧ f.Role ∈ iN c) →
    xh C T td (fP cs us ws f l (mm T) td n) (fun T' => ∀ c ∈ l, yU c f T T')
  | [], T, td, n, h, _, _ => ⟨T, td, n, rfl, h, vd.refl _ _, fun _ hw => by cases hw⟩
  | c :: l, T, td, n, h, hf, hm => by
    rw [fP]
    obtain ⟨T1, td1, n1, e1, g1, x1, q1⟩ := GS hC hR h cs us ws (hm c (by simp)).1 hf (hm c (by simp)).2
    rw [e1]
    simp only [Option.bind_some]
    obtain ⟨T2, td2, n2, e2, g2, x2, q2⟩ := CG hC hR cs us ws l g1 (x1.old _ hf) (fun c hc => hm c (by simp [hc]))
    refine ⟨T2, td2, n2, e2, g2, x1.trans x2, fun v hv => ?_⟩
    rcases List.mem_cons.1 hv with rfl | hv
    · exact q1.mono (fun _ h => h) x2.old
    · exact (q2 v hv).mono x1.old (fun _ h => h)
theorem yS {C : List Cred} (hC : lX C) (hR : nN C) (cs : List Cred) (us : List (Role × List Cred)) (ws : List (ByteArray × List Cred)) {f : aT} : ∀ (l : List Cred) {T : jI} {td : List aT} {n : Int}, lH C T td n → f ∈ FS T → (∀ c ∈ l, c ∈ C ∧ c.Kind = 3 ∧ c.Word2 = f.Role.Word) →
    xh C T td (eX f cs us ws l (mm T) td n) (fun T' => ∀ c ∈ l, (⟨c.B, f.Role.Owner⟩ : aT) ∈ FS T → (⟨c.Head, f.Who⟩ : aT) ∈ FS T')
  | [], T, td, n, h, _, _ => ⟨T, td, n, rfl, h, vd.refl _ _, fun _ hw => by cases hw⟩
  | c :: l, T, td, n, h, hf, hm => by
    rw [eX]
    have hk := hm c (by simp)
    by_cases hb : (⟨c.B, f.Role.Owner⟩ : aT) ∈ FS T
    · rw [if_pos ((oC h.keys _ _).2 hb)]
      have hfe : f = ⟨⟨f.Role.Owner, c.Word2⟩, f.Who⟩ := by rw [hk.2.2]
      have hd : jO C ⟨c.Head, f.Who⟩ := .lnk c f.Role.Owner f.Who hk.1 hk.2.1 (h.der _ hb) (by rw [← hfe]; exact h.der f hf)
      obtain ⟨T1, td1, n1, e1, g1, x1, q1⟩ := xM hC h cs us ws hd
      rw [e1]
      simp only [Option.bind_some]
      obtain ⟨T2, td2, n2, e2, g2, x2, q2⟩ := yS hC hR cs us ws l g1 (x1.old _ hf) (fun c hc => hm c (by simp [hc]))
      refine ⟨T2, td2, n2, e2, g2, x1.trans x2, fun v hv hv2 => ?_⟩
      rcases List.mem_cons.1 hv with rfl | hv
      · exact x2.old _ q1
      · exact q2 v hv (x1.old _ hv2)
    · rw [if_neg (fun hh => hb ((oC h.keys _ _).1 hh))]
      obtain ⟨T2, td2, n2, e2, g2, x2, q2⟩ := yS hC hR cs us ws l h hf (fun c hc => hm c (by simp [hc]))
      refine ⟨T2, td2, n2, e2, g2, x2, fun v hv hv2 => ?_⟩
      rcases List.mem_cons.1 hv with rfl | hv
      · exact absurd hv2 hb
      · exact q2 v hv hv2
theorem Cz {C : List Cred} (hC : lX C) (hR : nN C) {cs : List Cred} {us : List (Role × List Cred)} {ws : List (ByteArray × List Cred)} (hU : zf C us ws) : ∀ (m : Nat) {T : jI} {td : List aT} {n : Int}, lH C T td n → (∀ c ∈ C, Ax c T td) → C.length * C.length + td.length < m + (FS T).length →
    ∃ T' n', eZ cs us ws m (mm T) td n = some (mm T', [], n') ∧ lH C T' [] n' ∧ (∀ c ∈ C, Ax c T' []) ∧ (∀ f ∈ FS T, f ∈ FS T')
  | 0, T, td, n, h, _, hm => by have := h.len; omega
  | m + 1, T, [], n, h, hcl, hm => by
    rw [eZ]
    exact ⟨T, n, rfl, h, hcl, fun _ h => h⟩
  | m + 1, T, f :: td, n, h, hcl, hm => by
    rw [eZ]
    rw [if_pos (by simp)]
    have hf : f ∈ FS T := h.sub f (by simp)
    have hn := (List.nodup_cons.1 h.tnd)
    simp only [dK, Int.le_refl, if_true, Int.toNat_zero, List.getElem?_cons_zero, Option.bind_some]
    rw [show nQ (decide ((0 : Nat) ≤ 1) && decide ((1 : Int) ≤ ((f :: td).length : Int))) = some () by simp [nQ]; omega]
    simp only [Option.bind_some, show Int.toNat 1 = 1 from rfl, List.drop_one, List.tail_cons]
    have h0 : lH C T td n := ⟨h.keys, h.nd, hn.2, fun g hg => h.sub g (by simp [hg]), h.num, h.der⟩
    obtain ⟨T1, td1, n1, e1, g1, x1, q1⟩ := CG hC hR cs us ws ((cH bA us f.Role).getD []) h0 hf (fun c hc => (hU.role _ c).1 hc)
    rw [e1]
    simp only [Option.bind_some]
    obtain ⟨T2, td2, n2, e2, g2, x2, q2⟩ := yS hC hR cs us ws ((cH cQ ws f.Role.Word).getD []) g1 (x1.old _ hf) (fun c hc => (hU.word _ c).1 hc)
    rw [e2]
    simp only [Option.bind_some]
    have x := x1.trans x2
    have old : ∀ g, g ∈ FS T2 → g ∉ td2 → g ∈ FS T ∧ (g = f ∨ g ∉ f :: td) := fun g hg hg2 => by
      rcases x.new g hg with h1 | h1
      · refine ⟨h1, ?_⟩
        by_cases he : g = f
        · exact .inl he
        · exact .inr (fun h2 => by
            rcases List.mem_cons.1 h2 with h2 | h2
            · exact he h2
            · exact hg2 (x.todo g h2))
      · exact absurd h1 hg2
    have d1 : ∀ c ∈ C, f.Role ∈ iN c → yU c f T T2 := fun c hc hr => (q1 c ((hU.role _ c).2 ⟨hc, hr⟩)).mono (fun _ h => h) x2.old
    have hcl2 : ∀ c ∈ C, Ax c T2 td2 := fun c hc => by
      have k := hcl c hc
      refine ⟨fun hk => x.old _ (k.1 hk), fun hk w a b => ?_, fun hk b w a1 a2 a3 a4 => ?_, fun hk w a1 a2 a3 a4 => ?_⟩
      · obtain ⟨o1, o2⟩ := old _ a b
        rcases o2 with o2 | o2
        · subst o2; exact (d1 c hc (by simp [iN, hk])).1 hk rfl
        · exact x.old _ (k.2.1 hk w o1 o2)
      · obtain ⟨o1, o2⟩ := old _ a1 a2
        obtain ⟨p1, p2⟩ := old _ a3 a4
        rcases o2 with o2 | o2
        · subst o2; exact (d1 c hc (by simp [iN, hk])).2.1 hk rfl w p1
        · rcases p2 with p2 | p2
          · subst p2
            exact q2 c ((hU.word _ c).2 ⟨hc, hk, rfl⟩) (x1.old _ o1)
          · exact x.old _ (k.2.2.1 hk b w o1 o2 p1 p2)
      · obtain ⟨o1, o2⟩ := old _ a1 a2
        obtain ⟨p1, p2⟩ := old _ a3 a4
        rcases o2 with o2 | o2
        · subst o2; exact (d1 c hc (by simp [iN, hk])).2.2 hk o1 p1
        · rcases p2 with p2 | p2
          · subst p2; exact (d1 c hc (by simp [iN, hk])).2.2 hk o1 p1
          · exact x.old _ (k.2.2.2 hk w o1 o2 p1 p2)
    have hlen : td2.length + (FS T).length ≤ td.length + (FS T2).length := by
      exact g2.cnt h0 x
    obtain ⟨T3, n3, e3, g3, c3, o3⟩ := Cz hC hR hU m g2 hcl2 (by simp only [List.length_cons] at hm; omega)
    exact ⟨T3, n3, e3, g3, c3, fun g hg => o3 g (x.old g hg)⟩
end Go.Proofs.YtmlncblocfcmiaaGreat
namespace Go.Proofs.YtmlncblocfcmiaaGreat
open Go.RowKit
theorem ER (c : Cred) : ∀ (l : List Cred) (i : Nat), ∃ z, gS c l i = some z ∧ (z ≥ 0 ↔ c ∈ l)
  | [], i => ⟨-1, rfl, by simp⟩
  | x :: l, i => by
    rw [gS]
    by_cases h : fB c x = true
    · rw [if_pos h]
      exact ⟨_, rfl, by simp [iW.1 h]⟩
    · rw [if_neg h]
      obtain ⟨z, e, hz⟩ := ER c l (i + 1)
      refine ⟨z, e, ?_⟩
      rw [hz, List.mem_cons]
      exact ⟨.inr, fun h2 => h2.resolve_left (fun e => h (iW.2 e))⟩
theorem DA (c : Cred) (l : List Cred) : ∃ b, qz l c = some b ∧ (b = true ↔ c ∈ l) := by
  obtain ⟨z, e, hz⟩ := ER c l 0
  refine ⟨decide (z ≥ 0), ?_, by simpa using hz⟩
  unfold qz kU pI
  rw [e]
  rfl
theorem E9 (c : Cred) (ws : List (ByteArray × List Cred)) (C : List Cred) (hw : ∀ w, ((cH cQ ws w).getD []).length ≤ 2000000) : ∀ (rs : List Role) (us : List (Role × List Cred)), (∀ r, ((cH bA us r).getD []).length + rs.length ≤ 4000000) →
    ∃ us' ws', fM c ws C rs us = some (C, us', ws') ∧ (∀ r x, x ∈ (cH bA us' r).getD [] ↔ x ∈ (cH bA us r).getD [] ∨ (x = c ∧ r ∈ rs)) ∧
      (∀ w x, x ∈ (cH cQ ws' w).getD [] ↔ x ∈ (cH cQ ws w).getD [] ∨ (x = c ∧ c.Kind = 3 ∧ w = c.Word2)) ∧ (∀ r, ((cH bA us' r).getD []).length ≤ ((cH bA us r).getD []).length + rs.length) ∧
      (∀ w, ((cH cQ ws' w).getD []).length ≤ ((cH cQ ws w).getD []).length + 1)
  | [], us, _ => by
    rw [fM]
    by_cases h3 : c.Kind = 3
    · rw [if_pos (by simp [h3])]
      have h := hw c.Word2
      rw [gM (by simp; omega) (by simp; omega)]
      simp only [Option.bind_some]
      refine ⟨us, _, rfl, by simp, fun w x => ?_, by simp, fun w => ?_⟩
      · rw [zB eP]
        by_cases hk : cQ w c.Word2 = true
        · rw [if_pos hk, eP.1 hk]; simp [h3]
        · rw [if_neg hk]
          have : w ≠ c.Word2 := fun e => hk (eP.2 e)
          simp [this]
      · rw [zB eP]
        by_cases hk : cQ w c.Word2 = true
        · rw [if_pos hk, eP.1 hk]; simp
        · rw [if_neg hk]; exact Nat.le_succ _
    · rw [if_neg (by simp [h3])]
      exact ⟨us, ws, rfl, by simp, by simp [h3], by simp, by simp⟩
  | r0 :: rs, us, hl => by
    rw [fM]
    have h := hl r0
    simp only [List.length_cons] at h
    rw [gM (by simp; omega) (by simp; omega)]
    simp only [Option.bind_some]
    have hget : ∀ r, (cH bA (iG bA us r0 (((cH bA us r0).getD []) ++ [c])) r).getD [] = if bA r r0 = true then ((cH bA us r0).getD []) ++ [c] else (cH bA us r).getD [] := fun r => by
      rw [zB aZ]; by_cases hk : bA r r0 = true
      · rw [if_pos hk, if_pos hk]; rfl
      · rw [if_neg hk, if_neg hk]
    obtain ⟨us', ws', e, a1, a2, a3, a4⟩ := E9 c ws C hw rs (iG bA us r0 (((cH bA us r0).getD []) ++ [c])) (fun r => by
      rw [hget r]
      have h2 := hl r
      simp only [List.length_cons] at h2
      by_cases hk : bA r r0 = true
      · rw [if_pos hk]; simp; omega
      · rw [if_neg hk]; omega)
    refine ⟨us', ws', e, fun r x => ?_, a2, fun r => ?_, a4⟩
    · rw [a1, hget]
      by_cases hk : bA r r0 = true
      · rw [if_pos hk, aZ.1 hk]
        simp only [List.mem_append, List.mem_cons, List.not_mem_nil, or_false]
        constructor
        · rintro ((h | h) | h)
          · exact .inl h
          · exact .inr ⟨h, .inl trivial⟩
          · exact .inr ⟨h.1, .inr h.2⟩
        · rintro (h | h)
          · exact .inl (.inl h)
          · exact .inl (.inr h.1)
      · rw [if_neg hk]
        have : r ≠ r0 := fun e => hk (aZ.2 e)
        simp [this]
    · have := a3 r
      rw [hget r] at this
      by_cases hk : bA r r0 = true
      · rw [if_pos hk] at this; rw [aZ.1 hk] at this ⊢; simp at this ⊢; omega
      · rw [if_neg hk] at this; simp; omega
theorem Iy {C : List Cred} {us : List (Role × List Cred)} {ws : List (ByteArray × List Cred)} (hU : zf C us ws) (hC : C.length + 1 ≤ 1000000) {c : Cred} (hr : dJ c = true) (i : List (Role × List (ByteArray × Bool))) (td : List aT) (n : Int) :
    ∃ us' ws', lY i C us ws td n c = some (C ++ [c], us', ws') ∧ zf (C ++ [c]) us' ws' := by
  unfold lY
  rw [gM (by simp; omega) (by simp; omega)]
  simp only [Option.bind_some, Jq hr]
  rw [show nQ (decide ((0 : Nat) ≤ 1) && decide ((1 : Int) ≤ ((c.Head :: iN c).length : Int))) = some () by simp [nQ]; omega]
  simp only [Option.bind_some, show Int.toNat 1 = 1 from rfl, List.drop_one, List.tail_cons]
  have hro : (iN c).length ≤ 2 := by unfold iN; split; simp; split <;> simp
  obtain ⟨us', ws', e, a1, a2, a3, a4⟩ := E9 c ws (C ++ [c]) (fun w => by have := hU.wlen w; omega) (iN c) us (fun r => by have := hU.rlen r; omega)
  refine ⟨us', ws', e, fun r x => ?_, fun w x => ?_, fun r => ?_, fun w => ?_⟩
  · rw [a1, hU.role, List.mem_append, List.mem_singleton]
    constructor
    · rintro (h | h)
      · exact ⟨.inl h.1, h.2⟩
      · exact ⟨.inr h.1, by rw [h.1]; exact h.2⟩
    · rintro ⟨h | h, h2⟩
      · exact .inl ⟨h, h2⟩
      · exact .inr ⟨h, by rw [← h]; exact h2⟩
  · rw [a2, hU.word, List.mem_append, List.mem_singleton]
    constructor
    · rintro (h | h)
      · exact ⟨.inl h.1, h.2⟩
      · exact ⟨.inr h.1, by rw [h.1]; exact ⟨h.2.1, h.2.2.symm⟩⟩
    · rintro ⟨h | h, h2⟩
      · exact .inl ⟨h, h2⟩
      · subst h; exact .inr ⟨rfl, h2.1, h2.2.symm⟩
  · have := a3 r; have := hU.rlen r; simp; omega
  · have := a4 w; have := hU.wlen w; simp; omega
structure MS (C : List Cred) (T : jI) (us : List (Role × List Cred)) (ws : List (ByteArray × List Cred)) (n : Int) : Prop where
  good : lH C T [] n
  cl : ∀ c ∈ C, Ax c T []
  uses : zf C us ws
  right : nN C
theorem MS.all {C : List Cred} {T : jI} {us : List (Role × List Cred)} {ws : List (ByteArray × List Cred)} {n : Int} (h : MS C T us ws n) (f : aT) : f ∈ FS T ↔ jO C f := by
  refine ⟨h.good.der f, fun hd => ?_⟩
  induction hd with
  | mem c hc hk => exact (h.cl c hc).1 hk
  | inc c w hc hk _ ih => exact (h.cl c hc).2.1 hk w ih (by simp)
  | lnk c b w hc hk _ _ ih1 ih2 => exact (h.cl c hc).2.2.1 hk b w ih1 (by simp) ih2 (by simp)
  | both c w hc hk _ _ ih1 ih2 => exact (h.cl c hc).2.2.2 hk w ih1 (by simp) ih2 (by simp)
theorem DK (n0 : Int) (hn0 : 0 ≤ n0 ∧ n0 ≤ 1000000000000) : ∀ (l : List Cred) {C : List Cred} {T : jI} {td : List aT} {us : List (Role × List Cred)} {ws : List (ByteArray × List Cred)} {n : Int}, lH C T td n → (∀ c ∈ C, Ax c T td) → zf C us ws → nN C → C.length + l.length ≤ 1000000 →
    ∃ C' T' us' ws' n', fC n0 l (mm T) C us ws td n = some (n' - n0, mm T', C', us', ws', [], n') ∧ MS C' T' us' ws' n' ∧ (∀ c, c ∈ C' ↔ c ∈ C ∨ (c ∈ l ∧ dJ c = true)) ∧ C'.length ≤ C.length + l.length ∧ (∀ f ∈ FS T, f ∈ FS T')
  | [], C, T, td, us, ws, n, g, hcl, hU, hR, hl => by
    rw [fC]
    have hC : lX C := by unfold lX; simp at hl; omega
    have hsq := hC.sq
    have hlen := g.len
    have htl := g.tlen
    obtain ⟨T', n', e, g', c', o⟩ := Cz hC hR hU (cs := C) cE g hcl (by rw [sV]; omega)
    unfold nH
    rw [e]
    simp only [Option.bind_some]
    have hlen' := g'.len
    have hnum := g'.num
    rw [dL (by omega) (by omega)]
    exact ⟨C, T', us, ws, n', rfl, ⟨g', c', hU, hR⟩, by simp, by simp, o⟩
  | x :: l, C, T, td, us, ws, n, g, hcl, hU, hR, hl => by
    rw [fC, rY]
    simp only [List.length_cons] at hl
    obtain ⟨b, hb, hb2⟩ := DA x C
    simp only [Option.bind_some, hb, yv]
    by_cases hx : dJ x = true ∧ x ∉ C
    · have hbf : b = false := by cases b with | false => rfl | true => exact absurd (hb2.1 rfl) hx.2
      rw [hx.1, hbf]
      simp only [Bool.not_false, Bool.and_self, if_true]
      obtain ⟨us1, ws1, e1, U1⟩ := Iy hU (by omega) hx.1 (mm T) td n
      rw [e1]
      simp only [Option.bind_some]
      have hC1 : lX (C ++ [x]) := by unfold lX; simp; omega
      have hR1 : nN (C ++ [x]) := fun c hc => by
        rcases List.mem_append.1 hc with h | h
        · exact hR c h
        · simp at h; subst h; exact hx.1
      have g1 : lH (C ++ [x]) T td n := g.mono (fun c hc => List.mem_append_left _ hc)
      obtain ⟨T2, td2, n2, e2, g2, x2, c2⟩ := Ha hC1 hR1 g1 (C ++ [x]) us1 ws1 (c := x) (by simp)
      rw [e2]
      simp only [Option.bind_some]
      have hcl2 : ∀ c ∈ C ++ [x], Ax c T2 td2 := fun c hc => by
        rcases List.mem_append.1 hc with h | h
        · exact (hcl c h).ext x2
        · simp at h; subst h; exact c2
      obtain ⟨C', T', us', ws', n', e, m, a1, a2, a3⟩ := DK n0 hn0 l g2 hcl2 U1 hR1 (by simp; omega)
      refine ⟨C', T', us', ws', n', e, m, fun c => ?_, by simp at a2 ⊢; omega, fun f hf => a3 f (x2.old f hf)⟩
      rw [a1]
      simp only [List.mem_append, List.mem_cons, List.not_mem_nil, or_false]
      constructor
      · rintro ((h | h) | h)
        · exact .inl h
        · subst h; exact .inr ⟨.inl rfl, hx.1⟩
        · exact .inr ⟨.inr h.1, h.2⟩
      · rintro (h | ⟨h | h, h2⟩)
        · exact .inl (.inl h)
        · exact .inl (.inr h)
        · exact .inr ⟨h, h2⟩
    · have hf : (dJ x && !b) = false := by
        cases hr : dJ x with
        | false => rfl
        | true =>
          have : x ∈ C := Classical.byContradiction fun hn => hx ⟨hr, hn⟩
          rw [hb2.2 this]; rfl
      rw [hf]
      simp only [Bool.false_eq_true, if_false]
      obtain ⟨C', T', us', ws', n', e, m, a1, a2, a3⟩ := DK n0 hn0 l g hcl hU hR (by omega)
      refine ⟨C', T', us', ws', n', e, m, fun c => ?_, by simp; omega, a3⟩
      rw [a1, List.mem_cons]
      constructor
      · rintro (h | h)
        · exact .inl h
        · exact .inr ⟨.inr h.1, h.2⟩
      · rintro (h | ⟨h | h, h2⟩)
        · exact .inl h
        · subst h
          exact .inl (Classical.byContradiction fun hn => hx ⟨h2, hn⟩)
        · exact .inr ⟨h, h2⟩
theorem JW {C : List Cred} {T : jI} {us : List (Role × List Cred)} {ws : List (ByteArray × List Cred)} {n : Int} (h : MS C T us ws n) (l : List Cred) (hl : C.length + l.length ≤ 1000000) :
    ∃ C' T' us' ws' n', mV (mm T) C us ws [] n l = some (n' - n, mm T', C', us', ws', [], n') ∧ MS C' T' us' ws' n' ∧ (∀ c, c ∈ C' ↔ c ∈ C ∨ (c ∈ l ∧ dJ c = true)) ∧ C'.length ≤ C.length + l.length ∧ (∀ f ∈ FS T, f ∈ FS T') := by
  have hC : lX C := by unfold lX; omega
  have h1 := h.good.len
  have h2 := hC.sq
  have h3 := h.good.num
  exact DK n ⟨by omega, by omega⟩ l h.good h.cl h.uses h.right hl
theorem zf.zero : zf [] [] [] := ⟨fun r c => by simp [cH], fun w c => by simp [cH], fun r => by simp [cH], fun w => by simp [cH]⟩
theorem lH.zero : lH [] [] [] 0 := ⟨by simp, by simp [FS], by simp, by simp, by simp [FS], by simp [FS]⟩
theorem MS.zero : MS [] [] [] [] 0 := ⟨lH.zero, fun c hc => (by cases hc), zf.zero, fun c hc => (by cases hc)⟩
theorem H3 (l : List Cred) (hl : l.length ≤ 1000000) : ∃ C T us ws n, sF l = some (mm T, C, us, ws, [], n) ∧ MS C T us ws n ∧ (∀ c, c ∈ C ↔ c ∈ l ∧ dJ c = true) ∧ C.length ≤ l.length := by
  unfold sF
  obtain ⟨C', T', us', ws', n', e, m, a1, a2, a3⟩ := JW MS.zero l (by simpa using hl)
  rw [show mV [] [] [] [] [] 0 l = _ from e]
  exact ⟨C', T', us', ws', n', rfl, m, by simpa using a1, by simpa using a2⟩
theorem jO.congr {C C' : List Cred} (h : ∀ c, c ∈ C ↔ c ∈ C') (f : aT) : jO C f ↔ jO C' f := ⟨fun d => d.mono (fun c hc => (h c).1 hc), fun d => d.mono (fun c hc => (h c).2 hc)⟩
end Go.Proofs.YtmlncblocfcmiaaGreat
namespace Go.Proofs.YtmlncblocfcmiaaGreat
open Go.RowKit
def uA (a b : aT) : Bool := uz a.Role b.Role || (bA a.Role b.Role && lS a.Who b.Who)
theorem vM {a b : aT} : uA a b = true ↔ uz a.Role b.Role = true ∨ (a.Role = b.Role ∧ lS a.Who b.Who = true) := by simp [uA, aZ]
def yw (_ : aT) : Bool := true
theorem BE : vq (fun a b => uA a b = true) (fun x => yw x = true) := by
  have H := F6 (fun _ => True)
  refine ⟨fun x _ => ?_, fun x y z _ _ _ h1 h2 => ?_, fun x y _ _ => ?_⟩
  · rw [vM]
    rintro (h | ⟨_, h⟩)
    · exact H.irrefl _ trivial h
    · rw [oE] at h; cases h
  · rw [vM] at *
    rcases h1 with h1 | ⟨e1, h1⟩
    · rcases h2 with h2 | ⟨e2, h2⟩
      · exact .inl (H.trans _ _ _ trivial trivial trivial h1 h2)
      · exact .inl (by rw [← e2]; exact h1)
    · rcases h2 with h2 | ⟨e2, h2⟩
      · exact .inl (by rw [e1]; exact h2)
      · exact .inr ⟨e1.trans e2, uY h1 h2⟩
  · simp only [vM]
    rcases H.total x.Role y.Role trivial trivial with h | h | h
    · exact .inl (.inl h)
    · rcases vi x.Who y.Who with h2 | h2 | h2
      · exact .inl (.inr ⟨h, h2⟩)
      · refine .inr (.inl ?_)
        cases x; cases y; simp at h h2; simp [h, h2]
      · exact .inr (.inr (.inr ⟨h.symm, h2⟩))
    · exact .inr (.inr (.inl h))
theorem Bs (a b : ByteArray) : jT a b = 0 ↔ a = b := by unfold jT; rw [AQ]; exact ⟨vV, fun h => by rw [h]⟩
theorem Kp (a b : ByteArray) : jT a b < 0 ↔ lS a b = true := by rw [uN]; exact xI _ _
theorem G6 (a b : Role) : ∃ c, iY a b = some c ∧ (c < 0 ↔ uz a b = true) ∧ (c = 0 ↔ a = b) := by
  obtain ⟨c, e, h⟩ := tb a b
  refine ⟨c, e, h, ?_⟩
  unfold iY at e
  simp only [jB, fA, Option.bind_some, pD, kJ, kL] at e
  by_cases e1 : jT a.Owner b.Owner = 0
  · rw [if_neg (by simp [e1])] at e
    have h1 := (Bs _ _).1 e1
    by_cases e2 : jT a.Word b.Word = 0
    · rw [if_neg (by simp [e2])] at e
      have h2 := (Bs _ _).1 e2
      cases e
      refine ⟨fun _ => ?_, fun _ => rfl⟩
      cases a; cases b; simp at h1 h2; simp [h1, h2]
    · rw [if_pos (by simp [e2])] at e
      cases e
      exact ⟨fun k => absurd k e2, fun k => by rw [k] at e2; exact absurd ((Bs _ _).2 rfl) e2⟩
  · rw [if_pos (by simp [e1])] at e
    cases e
    exact ⟨fun k => absurd k e1, fun k => by rw [k] at e1; exact absurd ((Bs _ _).2 rfl) e1⟩
theorem Hy (a b : aT) : ∃ c, kW a b = some c ∧ (c < 0 ↔ uA a b = true) := by
  unfold kW
  obtain ⟨c, e, h1, h2⟩ := G6 a.Role b.Role
  rw [e]
  simp only [jB, fA, Option.bind_some, pD, kJ, kL]
  by_cases e1 : c = 0
  · rw [if_neg (by simp [e1])]
    have hr := h2.1 e1
    have hnl : ¬ uz a.Role b.Role = true := fun hh => by have := h1.2 hh; omega
    by_cases e2 : jT a.Who b.Who = 0
    · rw [if_neg (by simp [e2])]
      refine ⟨0, rfl, ?_⟩
      rw [vM]
      simp [hnl, (Bs _ _).1 e2, oE]
    · rw [if_pos (by simp [e2])]
      refine ⟨_, rfl, ?_⟩
      rw [vM, Kp]
      exact ⟨fun k => .inr ⟨hr, k⟩, fun k => k.elim (fun k => absurd k hnl) (·.2)⟩
  · rw [if_pos (by simp [e1])]
    refine ⟨c, rfl, ?_⟩
    rw [vM, h1]
    have : a.Role ≠ b.Role := fun k => e1 (h2.2 k)
    simp [this]
theorem E1 {α : Type} {eq : α → α → Bool} (he : ∀ x y, eq x y = true ↔ x = y) : ∀ (l : List α) (p : α), (p :: l).Nodup → jR eq p l = l
  | [], p, _ => rfl
  | y :: l, p, h => by
    have h1 := List.nodup_cons.1 h
    rw [jR, if_neg (fun e => h1.1 (by rw [← (he _ _).1 e]; simp)), E1 he l y h1.2]
theorem Ik {α : Type} {eq : α → α → Bool} (he : ∀ x y, eq x y = true ↔ x = y) : ∀ l : List α, l.Nodup → dd eq l = l
  | [], _ => rfl
  | x :: l, h => by rw [dd, E1 he l x h]
def wr (P : aT → Prop) (s : List aT) : Prop := s.Pairwise (fun a b => uA a b = true) ∧ ∀ f, f ∈ s ↔ P f
theorem wr.unique {P : aT → Prop} {s t : List aT} (h : wr P s) (k : wr P t) : s = t :=
  rU.unique (l := s) BE ⟨h.1, fun x => ⟨fun hx => ⟨hx, rfl⟩, fun hx => hx.1⟩⟩ ⟨k.1, fun x => by rw [k.2, h.2]; exact ⟨fun hx => ⟨hx, rfl⟩, fun hx => hx.1⟩⟩
theorem Bu {l : List aT} (hn : l.Nodup) (hl : l.length ≤ 1000000000000) : ∃ s, uR (fun (x : aT × aT) => kW x.1 x.2) l = some s ∧ wr (fun f => f ∈ l) s := by
  obtain ⟨s, h1, h2, h3⟩ := Aw (eq := vO) (lt := fun a b => uA a b = true) (P := fun x => yw x = true) (cf := fun (x : aT × aT) => kW x.1 x.2) (l := l) (fun x y => tp) BE (fun _ _ => rfl) (by omega) (fun x y _ _ => Hy x y)
  have hs : s.Nodup := by
    have := (BI h1).2
    rw [this]
    unfold oZ
    exact (List.mergeSort_perm l _).nodup_iff.2 hn
  rw [Ik (fun x y => tp) s hs] at h3
  exact ⟨s, h1, h3.1, fun f => by rw [h3.2]; exact ⟨fun h => h.1, fun h => ⟨h, rfl⟩⟩⟩
theorem I3 (T : jI) : (mm T).flatMap (fun p => p.2.map (fun q => (fun (a : Role) (b : ByteArray) => (⟨a, b⟩ : aT)) p.1 q.1)) = FS T := by
  unfold mm FS tt
  rw [List.flatMap_map]
  congr 1
  funext p
  simp [Function.comp_def]
theorem Hf {C : List Cred} (hC : lX C) {T : jI} {us : List (Role × List Cred)} {ws : List (ByteArray × List Cred)} {n : Int} (h : MS C T us ws n) (cs : List Cred) (u : List (Role × List Cred)) (w : List (ByteArray × List Cred)) (td : List aT) (z : Int) :
    ∃ s, rN (mm T) cs u w td z = some s ∧ wr (jO C) s := by
  have hsq := hC.sq
  have hlen := h.good.len
  obtain ⟨s, hs, hF⟩ := Bu h.good.nd (by omega)
  have hD : wr (jO C) s := ⟨hF.1, fun f => (hF.2 f).trans (h.all f)⟩
  refine ⟨s, ?_, hD⟩
  unfold rN Gu
  rw [I3]
  rw [if_pos ⟨by omega, by unfold maxLen; omega⟩]
  simp only [Option.bind_some, kL]
  refine Bp (fun o ho => ?_)
  obtain ⟨s', hs', hF'⟩ := Bu ((ho.nodup_iff).2 h.good.nd) (by rw [ho.length_eq]; omega)
  rw [hs']
  congr 1
  exact wr.unique ⟨hF'.1, fun f => (hF'.2 f).trans (ho.mem_iff.trans (h.all f))⟩ hD
theorem Ig (r : Role) (w : ByteArray) : ∀ l : List aT, ∃ b, tI r w l = some b ∧ (b = true ↔ (⟨r, w⟩ : aT) ∈ l)
  | [] => ⟨false, rfl, by simp⟩
  | x :: l => by
    rw [tI]
    simp only [yv, Option.bind_some]
    obtain ⟨b, e, hb⟩ := Ig r w l
    by_cases h : (bA x.Role r && cQ x.Who w) = true
    · rw [if_pos h]
      have h' : x = ⟨r, w⟩ := by
        rw [Bool.and_eq_true, aZ, eP] at h
        cases x; simp at h; simp [h]
      exact ⟨true, rfl, by simp [h']⟩
    · rw [if_neg h]
      refine ⟨b, e, ?_⟩
      rw [hb, List.mem_cons]
      refine ⟨.inr, fun h2 => h2.resolve_left (fun e => h ?_)⟩
      rw [← e]; simp [sc, ra]
theorem uK (l : List aT) (r : Role) (w : ByteArray) : ∃ b, ri l r w = some b ∧ (b = true ↔ (⟨r, w⟩ : aT) ∈ l) := Ig r w l
def sQ (l : List aT) (c : Cred) (names : List ByteArray) (w : ByteArray) : Prop :=
  (c.Kind = 1 ∧ c.Who = w) ∨ (c.Kind = 2 ∧ (⟨c.B, w⟩ : aT) ∈ l) ∨ (c.Kind = 4 ∧ (⟨c.B, w⟩ : aT) ∈ l ∧ (⟨c.C, w⟩ : aT) ∈ l) ∨
  (c.Kind ≠ 1 ∧ c.Kind ≠ 2 ∧ c.Kind ≠ 4 ∧ ∃ b ∈ names, (⟨c.B, b⟩ : aT) ∈ l ∧ (⟨⟨b, c.Word2⟩, w⟩ : aT) ∈ l)
theorem Bk (l : List aT) (c : Cred) (w : ByteArray) : ∀ names : List ByteArray, ∃ b, rV l c w names = some b ∧ (b = true ↔ ∃ b ∈ names, (⟨c.B, b⟩ : aT) ∈ l ∧ (⟨⟨b, c.Word2⟩, w⟩ : aT) ∈ l)
  | [] => ⟨false, rfl, by simp⟩
  | x :: names => by
    rw [rV]
    obtain ⟨b1, e1, h1⟩ := uK l c.B x
    obtain ⟨b2, e2, h2⟩ := uK l ⟨x, c.Word2⟩ w
    obtain ⟨b, e, hb⟩ := Bk l c w names
    rw [e1, e2, e]
    simp only [Option.bind_some, yv]
    by_cases h : (b1 && b2) = true
    · rw [if_pos h]
      rw [Bool.and_eq_true, h1, h2] at h
      exact ⟨true, rfl, by simp [h]⟩
    · rw [if_neg h]
      rw [Bool.and_eq_true, h1, h2] at h
      refine ⟨b, rfl, ?_⟩
      rw [hb]
      constructor
      · rintro ⟨y, hy, q⟩; exact ⟨y, by simp [hy], q⟩
      · rintro ⟨y, hy, q⟩
        rcases List.mem_cons.1 hy with rfl | hy
        · exact absurd q h
        · exact ⟨y, hy, q⟩
theorem Iv (l : List aT) (c : Cred) (names : List ByteArray) (w : ByteArray) : ∃ b, wo l c names w = some b ∧ (b = true ↔ sQ l c names w) := by
  unfold wo sQ
  simp only [kL]
  by_cases h1 : c.Kind = 1
  · rw [if_pos (by simp [h1])]; exact ⟨_, rfl, by simp [h1, eP]⟩
  rw [if_neg (by simp [h1])]
  by_cases h2 : c.Kind = 2
  · rw [if_pos (by simp [h2])]
    obtain ⟨b, e, hb⟩ := uK l c.B w
    exact ⟨b, e, by simp [h2, hb]⟩
  rw [if_neg (by simp [h2])]
  by_cases h4 : c.Kind = 4
  · rw [if_pos (by simp [h4])]
    obtain ⟨b1, e1, hb1⟩ := uK l c.B w
    obtain ⟨b2, e2, hb2⟩ := uK l c.C w
    rw [e1, e2]
    simp only [Option.bind_some, yv]
    exact ⟨_, rfl, by simp [h4, hb1, hb2]⟩
  rw [if_neg (by simp [h4])]
  obtain ⟨b, e, hb⟩ := Bk l c w names
  exact ⟨b, e, by rw [hb]; simp [h1, h2, h4]⟩
theorem sQ.der {C : List Cred} {l : List aT} (hl : ∀ f ∈ l, jO C f) {c : Cred} (hc : c ∈ C) (hk : c.Kind = 1 ∨ c.Kind = 2 ∨ c.Kind = 3 ∨ c.Kind = 4) {names : List ByteArray} {w : ByteArray} (h : sQ l c names w) : jO C ⟨c.Head, w⟩ := by
  rcases h with ⟨k, rfl⟩ | ⟨k, h⟩ | ⟨k, h1, h2⟩ | ⟨k1, k2, k4, b, _, h1, h2⟩
  · exact .mem c hc k
  · exact .inc c w hc k (hl _ h)
  · exact .both c w hc k (hl _ h1) (hl _ h2)
  · exact .lnk c b w hc (by omega) (hl _ h1) (hl _ h2)
theorem Fz {c : Cred} (h : dJ c = true) : c.Kind = 1 ∨ c.Kind = 2 ∨ c.Kind = 3 ∨ c.Kind = 4 := by rcases iS h with h | h | h | h <;> simp [h.1]
structure zi (C : List Cred) (out : List aT) : Prop where
  nd : out.Nodup
  der : ∀ f ∈ out, jO C f
theorem zi.len {C : List Cred} {out : List aT} (h : zi C out) : out.length ≤ C.length * C.length := by
  rw [← yd]; exact eU h.nd (fun f hf => (h.der f hf).uni)
theorem A0 {C : List Cred} (hC : lX C) (hR : nN C) {c : Cred} (hc : c ∈ C) (names : List ByteArray) : ∀ (l : List ByteArray) (out : List aT) (came : Bool), zi C out →
    ∃ out' came', rr c names l out came = some (out', came') ∧ zi C out' ∧ (came' = true → came = true ∨ out.length < out'.length) ∧ (came' = false → came = false ∧ out' = out ∧ ∀ w ∈ l, sQ out c names w → (⟨c.Head, w⟩ : aT) ∈ out) ∧ out.length ≤ out'.length
  | [], out, came, h => ⟨out, came, rfl, h, .inl, fun h => ⟨h, rfl, fun _ hw => by cases hw⟩, Nat.le_refl _⟩
  | w :: l, out, came, h => by
    rw [rr]
    obtain ⟨b1, e1, h1⟩ := uK out c.Head w
    obtain ⟨b2, e2, h2⟩ := Iv out c names w
    rw [e1, e2]
    simp only [Option.bind_some, yv]
    by_cases hb : (!b1 && b2) = true
    · rw [if_pos hb]
      rw [Bool.and_eq_true] at hb
      have hn : (⟨c.Head, w⟩ : aT) ∉ out := fun hh => by have := h1.2 hh; rw [this] at hb; exact absurd hb.1 (by decide)
      have hl := h.len
      have hsq := hC.sq
      rw [gM (by simp; omega) (by simp; omega)]
      simp only [Option.bind_some]
      have h' : zi C (out ++ [⟨c.Head, w⟩]) := ⟨List.nodup_append.2 ⟨h.nd, by simp, fun a ha b hb e => by simp at hb; subst hb; subst e; exact hn ha⟩, fun f hf => by
        rcases List.mem_append.1 hf with hf | hf
        · exact h.der f hf
        · simp at hf; subst hf; exact (h2.1 hb.2).der h.der hc (Fz (hR c hc))⟩
      obtain ⟨out', came', e, a1, a2, a3, a4⟩ := A0 hC hR hc names l _ true h'
      simp at a4
      exact ⟨out', came', e, a1, fun _ => .inr (by omega), fun hf => (by cases (a3 hf).1), by omega⟩
    · rw [if_neg hb]
      obtain ⟨out', came', e, a1, a2, a3, a4⟩ := A0 hC hR hc names l out came h
      refine ⟨out', came', e, a1, a2, fun hf => ?_, a4⟩
      obtain ⟨b1', b2', b3'⟩ := a3 hf
      refine ⟨b1', b2', fun v hv hs => ?_⟩
      rcases List.mem_cons.1 hv with rfl | hv
      · refine Classical.byContradiction fun hn => hb ?_
        rw [Bool.and_eq_true, h2.2 hs]
        cases b1 with
        | false => exact ⟨rfl, rfl⟩
        | true => exact absurd (h1.1 rfl) hn
      · exact b3' v hv hs
theorem Ee {C : List Cred} (hC : lX C) (hR : nN C) (names : List ByteArray) : ∀ (l : List Cred) (out : List aT) (came : Bool), (∀ c ∈ l, c ∈ C) → zi C out →
    ∃ out' came', tL names l out came = some (out', came') ∧ zi C out' ∧ (came' = true → came = true ∨ out.length < out'.length) ∧ (came' = false → came = false ∧ out' = out ∧ ∀ c ∈ l, ∀ w ∈ names, sQ out c names w → (⟨c.Head, w⟩ : aT) ∈ out) ∧ out.length ≤ out'.length
  | [], out, came, _, h => ⟨out, came, rfl, h, .inl, fun h => ⟨h, rfl, fun _ hw => by cases hw⟩, Nat.le_refl _⟩
  | c :: l, out, came, hs, h => by
    rw [tL]
    obtain ⟨o1, c1, e1, a1, a2, a3, a4⟩ := A0 hC hR (hs c (by simp)) names names out came h
    rw [e1]
    simp only [Option.bind_some]
    obtain ⟨o2, c2, e2, b1, b2, b3, b4⟩ := Ee hC hR names l o1 c1 (fun d hd => hs d (by simp [hd])) a1
    refine ⟨o2, c2, e2, b1, fun hf => ?_, fun hf => ?_, by omega⟩
    · rcases b2 hf with h1 | h1
      · rcases a2 h1 with h2 | h2
        · exact .inl h2
        · exact .inr (by omega)
      · exact .inr (by omega)
    · obtain ⟨p1, p2, p3⟩ := b3 hf
      obtain ⟨q1, q2, q3⟩ := a3 p1
      subst q2
      refine ⟨q1, p2, fun d hd => ?_⟩
      rcases List.mem_cons.1 hd with rfl | hd
      · exact q3
      · exact p3 d hd
end Go.Proofs.YtmlncblocfcmiaaGreat
namespace Go.Proofs.YtmlncblocfcmiaaGreat
open Go.RowKit
def zF : aT := ⟨⟨zS, zS⟩, zS⟩
theorem DO (a b : aT) : qR a b = some (uA a b) := by
  unfold qR uA
  simp only [wE, Option.bind_some, yv, Jz]
def JZ (a : List aT) (best : Int) (p : Bool × aT) : Prop := (p.1 = false ∧ best = -1) ∨ (p.1 = true ∧ 0 ≤ best ∧ dK a best = some p.2)
theorem wI (out a : List aT) (hl : out.length < 4611686018427387904) : ∀ (rest A : List aT) (best : Int) (p : Bool × aT), a = A ++ rest → JZ a best p →
    ∃ best', kE out a rest A.length best = some best' ∧ JZ a best' (mQ yw uA out.getLast? rest p.1 p.2)
  | [], A, best, p, ha, hr => ⟨best, rfl, hr⟩
  | x :: rest, A, best, p, ha, hr => by
    rw [kE, mQ]
    simp only [yw, Bool.true_and]
    have h1 : ((if ((out.length : Int) == 0) = true then some true else (dK out (IntKind.i64.wrap ((out.length : Int) - 1))).bind fun y => (qR y x).bind fun r => some r) : Option Bool) = some (out.getLast?.all fun y => uA y x) := by
      rcases List.eq_nil_or_concat out with h | ⟨B, z, h⟩
      · subst h; rfl
      · subst h
        rw [if_neg (by simp; omega)]
        rw [List.concat_eq_append] at hl ⊢
        rw [AU B z (by simp at hl; omega)]
        simp [DO]
    have h2 : ((if decide (best < 0) = true then some true else (dK a best).bind fun y => (qR x y).bind fun r => some r) : Option Bool) = some (!p.1 || uA x p.2) := by
      rcases hr with ⟨e1, e2⟩ | ⟨e1, e2, e3⟩
      · rw [if_pos (by simp [e2]), e1]; rfl
      · rw [if_neg (by simpa using e2), e3, e1]
        simp [DO]
    rw [h1]
    simp only [Option.bind_some]
    rw [h2]
    simp only [Option.bind_some, yv]
    have hx : dK a (A.length : Int) = some x := by rw [ha]; exact fO A x rest _ rfl
    by_cases hc : ((out.getLast?.all fun y => uA y x) && (!p.1 || uA x p.2)) = true
    · rw [if_pos hc, if_pos hc]
      have := wI out a hl rest (A ++ [x]) (A.length : Int) (true, x) (by rw [ha]; simp) (.inr ⟨rfl, by simp, hx⟩)
      simpa using this
    · rw [if_neg hc, if_neg hc]
      have := wI out a hl rest (A ++ [x]) best p (by rw [ha]; simp) hr
      simpa using this
theorem Az {out a : List aT} (hl : out.length < 4611686018427387904) (h : (mQ yw uA out.getLast? a false zF).1 = false) : ∀ cnt : List aT, kD a cnt out = some out
  | [] => rfl
  | x :: cnt => by
    rw [kD]
    obtain ⟨b, e, hr⟩ := wI out a hl a [] (-1) (false, zF) rfl (.inl ⟨rfl, rfl⟩)
    rw [show kE out a a 0 (-1) = some b from e]
    simp only [Option.bind_some]
    rcases hr with ⟨_, e2⟩ | ⟨e1, _⟩
    · rw [if_neg (by simp [e2])]; exact Az hl h cnt
    · rw [h] at e1; cases e1
theorem CC (a : List aT) : ∀ (cnt : List aT) (out s : List aT), vn 48 yw uA zF a (cnt.length + 1) out = some s → s.length < 4611686018427387904 → kD a cnt out = some s ∧ out.length ≤ s.length
  | [], out, s, h, hs => by
    rw [vn] at h
    cases hp : (mQ yw uA out.getLast? a false zF).1 with
    | false =>
      rw [hp] at h
      simp only [Bool.not_false, if_true] at h
      cases h
      exact ⟨rfl, Nat.le_refl _⟩
    | true =>
      rw [hp] at h
      simp only [Bool.not_true, Bool.false_eq_true, if_false] at h
      obtain ⟨o, ho, h⟩ := bind_some h
      replace h : vn 48 yw uA zF a 0 o = some s := h
      rw [vn] at h
      cases h
  | x :: cnt, out, s, h, hs => by
    rw [vn] at h
    cases hp : (mQ yw uA out.getLast? a false zF).1 with
    | false =>
      rw [hp] at h
      simp only [Bool.not_false, if_true] at h
      cases h
      exact ⟨Az hs hp _, Nat.le_refl _⟩
    | true =>
      rw [hp] at h
      simp only [Bool.not_true, Bool.false_eq_true, if_false] at h
      obtain ⟨o, ho, h⟩ := bind_some h
      have ho' := ho
      unfold fK at ho
      split at ho
      case isFalse => cases ho
      cases ho
      obtain ⟨k1, k2⟩ := CC a cnt _ s h hs
      simp at k2
      rw [kD]
      obtain ⟨b, e, hr⟩ := wI out a (by omega) a [] (-1) (false, zF) rfl (.inl ⟨rfl, rfl⟩)
      rw [show kE out a a 0 (-1) = some b from e]
      simp only [Option.bind_some]
      rcases hr with ⟨e1, _⟩ | ⟨e1, e2, e3⟩
      · rw [hp] at e1; cases e1
      · rw [if_pos (by simpa using e2), e3]
        simp only [Option.bind_some]
        rw [ho']
        exact ⟨k1, by omega⟩
theorem GW (l : List aT) (hl : l.length ≤ 1000000000) : ∃ s, xR l = some s ∧ wr (fun f => f ∈ l) s := by
  obtain ⟨s, h1, h2⟩ := wS BE (w := 48) (by omega) zF l hl (l.length + 1) [] (by simp) (by simp) (fun x hx => by cases hx) (fun x _ _ => .inr rfl)
  have hlen : s.length ≤ l.length := eU (rH BE (fun _ _ => rfl) h2.1) (fun x hx => ((h2.2 x).1 hx).1)
  exact ⟨s, (CC l l [] s h1 (by omega)).1, h2.1, fun f => by rw [h2.2]; exact ⟨fun h => h.1, fun h => ⟨h, rfl⟩⟩⟩
theorem D0 : ∀ (l : List Cred) (acc : List ByteArray), acc.length + 4 * l.length ≤ 1000000000 → pH l acc = xe (acc ++ l.flatMap fun c => [c.Who, c.Head.Owner, c.B.Owner, c.C.Owner])
  | [], acc, _ => by rw [pH]; simp [kL]
  | c :: l, acc, h => by
    rw [pH]
    simp only [List.length_cons] at h
    rw [gM (by simp; omega) (by simp; omega)]
    simp only [Option.bind_some]
    rw [D0 l _ (by simp; omega)]
    simp
def SM (C : List Cred) : Prop := C.length ≤ 30000
theorem SM.small {C : List Cred} (h : SM C) : lX C := by unfold SM at h; unfold lX; omega
theorem SM.sq {C : List Cred} (h : SM C) : C.length * C.length ≤ 900000000 := Nat.mul_le_mul h h
theorem Hc {C : List Cred} (hC : SM C) (hR : nN C) : ∃ names, vv C = some names ∧ ∀ c ∈ C, c.Kind = 1 → c.Who ∈ names := by
  have hC' : C.length ≤ 30000 := hC
  unfold vv
  rw [D0 C [] (by simp; omega)]
  obtain ⟨s, e, hs⟩ := I9 ([] ++ C.flatMap fun c => [c.Who, c.Head.Owner, c.B.Owner, c.C.Owner]) (by
    have : ∀ l : List Cred, (l.flatMap fun c => [c.Who, c.Head.Owner, c.B.Owner, c.C.Owner]).length = 4 * l.length := fun l => by
      induction l with
      | nil => rfl
      | cons x l ih => simp [ih]; omega
    rw [List.nil_append, this]; omega)
  refine ⟨s, e, fun c hc hk => (hs.2 _).2 ⟨?_, ?_⟩⟩
  · rw [List.nil_append]; exact List.mem_flatMap.2 ⟨c, hc, by simp⟩
  · rcases iS (hR c hc) with h | h | h | h
    · exact h.2.1
    · exact absurd (hk.symm.trans h.1) (by decide)
    · exact absurd (hk.symm.trans h.1) (by decide)
    · exact absurd (hk.symm.trans h.1) (by decide)
theorem Fo {C : List Cred} (hR : nN C) {names : List ByteArray} (hn : ∀ c ∈ C, c.Kind = 1 → c.Who ∈ names) {out : List aT} (h : ∀ c ∈ C, ∀ w ∈ names, sQ out c names w → (⟨c.Head, w⟩ : aT) ∈ out) {f : aT} (hf : jO C f) : f ∈ out := by
  have hw : ∀ f, jO C f → f.Who ∈ names := fun f hf => by
    obtain ⟨c, hc, hk, e⟩ := hf.who
    rw [← e]; exact hn c hc hk
  induction hf with
  | mem c hc hk => exact h c hc _ (hn c hc hk) (.inl ⟨hk, rfl⟩)
  | inc c w hc hk hd ih => exact h c hc w (hw _ hd) (.inr (.inl ⟨hk, ih⟩))
  | lnk c b w hc hk hd1 hd2 ih1 ih2 => exact h c hc w (hw _ hd2) (.inr (.inr (.inr ⟨by omega, by omega, by omega, b, hw _ hd1, ih1, ih2⟩)))
  | both c w hc hk hd1 hd2 ih1 ih2 => exact h c hc w (hw _ hd1) (.inr (.inr (.inl ⟨hk, ih1, ih2⟩)))
theorem DY {C : List Cred} (hC : SM C) (hR : nN C) {names : List ByteArray} (hn : ∀ c ∈ C, c.Kind = 1 → c.Who ∈ names) : ∀ (m : Nat) (out : List aT), zi C out → C.length * C.length < m + out.length →
    ∃ s, tK names C m out = some s ∧ wr (jO C) s
  | 0, out, h, hm => by have := h.len; omega
  | m + 1, out, h, hm => by
    rw [tK]
    obtain ⟨o, c, e, a1, a2, a3, a4⟩ := Ee hC.small hR names C out false (fun _ h => h) h
    rw [e]
    simp only [Option.bind_some, kL]
    cases c with
    | false =>
      simp only [Bool.not_false, if_true]
      obtain ⟨_, b2, b3⟩ := a3 rfl
      subst b2
      have hl := h.len
      have hsq := hC.sq
      obtain ⟨s, hs, hF⟩ := GW o (by omega)
      exact ⟨s, hs, hF.1, fun f => (hF.2 f).trans ⟨h.der f, Fo hR hn b3⟩⟩
    | true =>
      simp only [Bool.not_true, Bool.false_eq_true, if_false]
      rcases a2 rfl with h1 | h1
      · cases h1
      · exact DY hC hR hn m o a1 (by omega)
theorem IP (l : List Cred) (hl : l.length ≤ 30000) : ∃ C s, vC l = some s ∧ wr (jO C) s ∧ ∀ c, c ∈ C ↔ c ∈ l ∧ dJ c = true := by
  unfold vC
  obtain ⟨C, e, hC⟩ := IY l (by omega)
  have hlen := wt Aa hC
  have hSM : SM C := by unfold SM; omega
  have hR : nN C := fun c hc => ((hC.2 c).1 hc).2
  obtain ⟨names, e2, hn⟩ := Hc hSM hR
  rw [e]
  simp only [Option.bind_some]
  rw [e2]
  simp only [Option.bind_some]
  have hsq := hSM.sq
  obtain ⟨s, e3, hF⟩ := DY hSM hR hn cE [] ⟨by simp, fun f hf => by cases hf⟩ (by rw [sV]; simp; omega)
  exact ⟨C, s, e3, hF, hC.2⟩
end Go.Proofs.YtmlncblocfcmiaaGreat
namespace Go.Proofs.YtmlncblocfcmiaaGreat
open Go.RowKit
theorem IL {P : aT → Prop} {s t : List aT} (h : wr P s) (ht : ∀ f, P f → f ∈ t) : s.length ≤ t.length := eU (rH BE (fun _ _ => rfl) h.1) (fun f hf => ht f ((h.2 f).1 hf))
theorem IZ {C : List Cred} {s : List aT} (h : wr (jO C) s) (hC : SM C) : s.length ≤ 900000000 := by
  have := IL h (t := uni C) (fun f hf => hf.uni)
  rw [yd] at this
  have := hC.sq
  omega
theorem Jp {C : List Cred} {T : jI} {us : List (Role × List Cred)} {ws : List (ByteArray × List Cred)} {n : Int} (h : MS C T us ws n) (cs : List Cred) (u : List (Role × List Cred)) (w : List (ByteArray × List Cred)) (td : List aT) (z : Int) (r : Role) (who : ByteArray) :
    ∃ b, pE (mm T) cs u w td z r who = some b ∧ (b = true ↔ jO C ⟨r, who⟩) :=
  ⟨_, rfl, by rw [oC h.good.keys, h.all]⟩
end Go.Proofs.YtmlncblocfcmiaaGreat
namespace Go.Proofs.YtmlncblocfcmiaaGreat
open Go.RowKit
theorem D7 : ∀ (l : List Cred) (n r : Int), 0 ≤ n → (∀ c ∈ l, rf c ≤ 1000000000) → n + l.length * 1000000020 ≤ 4000000000000000000 → iP l n = some r → r ≤ n + l.length * 1000000020
  | [], n, r, h0, hc, hb, h => by cases h; simp
  | c :: l, n, r, h0, hc, hb, h => by
    have hh := hc c (by simp)
    unfold rf at hh
    simp only [List.length_cons] at hb ⊢
    rw [iP] at h
    rw [dL (x := 20 + (c.Head.Owner.size : Int)) (by omega) (by omega), dL (x := 20 + (c.Head.Owner.size : Int) + (c.Head.Word.size : Int)) (by omega) (by omega), dL (x := 20 + (c.Head.Owner.size : Int) + (c.Head.Word.size : Int) + (c.Who.size : Int)) (by omega) (by omega), dL (x := 20 + (c.Head.Owner.size : Int) + (c.Head.Word.size : Int) + (c.Who.size : Int) + (c.B.Owner.size : Int)) (by omega) (by omega), dL (x := 20 + (c.Head.Owner.size : Int) + (c.Head.Word.size : Int) + (c.Who.size : Int) + (c.B.Owner.size : Int) + (c.B.Word.size : Int)) (by omega) (by omega), dL (x := 20 + (c.Head.Owner.size : Int) + (c.Head.Word.size : Int) + (c.Who.size : Int) + (c.B.Owner.size : Int) + (c.B.Word.size : Int) + (c.C.Owner.size : Int)) (by omega) (by omega), dL (x := 20 + (c.Head.Owner.size : Int) + (c.Head.Word.size : Int) + (c.Who.size : Int) + (c.B.Owner.size : Int) + (c.B.Word.size : Int) + (c.C.Owner.size : Int) + (c.C.Word.size : Int)) (by omega) (by omega), dL (x := 20 + (c.Head.Owner.size : Int) + (c.Head.Word.size : Int) + (c.Who.size : Int) + (c.B.Owner.size : Int) + (c.B.Word.size : Int) + (c.C.Owner.size : Int) + (c.C.Word.size : Int) + (c.Word2.size : Int)) (by omega) (by omega), dL (by omega) (by omega)] at h
    have := D7 l _ r (by omega) (fun d hd => hc d (by simp [hd])) (by omega) h
    omega
theorem Bl (l : List Cred) (hl : l.length ≤ 10000000) (hc : ∀ c ∈ l, rf c ≤ 1000000000) : ∃ r, mO l = some r ∧ 20 * (l.length : Int) ≤ r ∧ r ≤ 100000000000000000 := by
  obtain ⟨r, h, h1⟩ := AX l 0 (by omega) (by omega) hc (by omega)
  exact ⟨r, h, by omega, by have := D7 l 0 r (by omega) hc (by omega) h; omega⟩
end Go.Proofs.YtmlncblocfcmiaaGreat
namespace Go.Proofs.YtmlncblocfcmiaaGreat
open Go.RowKit
theorem sQ.own {l : List aT} {c : Cred} {names : List ByteArray} {w : ByteArray} (h : sQ l c names w) : sQ l c (l.map (·.Who)) w := by
  rcases h with h | h | h | ⟨q1, q2, q3, b, _, q5, q6⟩
  · exact .inl h
  · exact .inr (.inl h)
  · exact .inr (.inr (.inl h))
  · exact .inr (.inr (.inr ⟨q1, q2, q3, b, List.mem_map.2 ⟨_, q5, rfl⟩, q5, q6⟩))
theorem sQ.subset {a b : List aT} {c : Cred} {names : List ByteArray} {w : ByteArray} (h : sQ a c names w) (hs : ∀ f ∈ a, f ∈ b) : sQ b c names w := by
  rcases h with h | h | h | ⟨q1, q2, q3, b', q4, q5, q6⟩
  · exact .inl h
  · exact .inr (.inl ⟨h.1, hs _ h.2⟩)
  · exact .inr (.inr (.inl ⟨h.1, hs _ h.2.1, hs _ h.2.2⟩))
  · exact .inr (.inr (.inr ⟨q1, q2, q3, b', q4, hs _ q5, hs _ q6⟩))
end Go.Proofs.YtmlncblocfcmiaaGreat
namespace Go.Proofs.YtmlncblocfcmiaaGreat
open Go.RowKit
def tot {α : Type} (ls : List (List α)) : Nat := (ls.map List.length).sum
theorem Js {c : Cred} (hc : dJ c = true) {C : List Cred} (h : ro [c] C) : C = [c] :=
  (rU.unique Aa h ⟨by simp, fun x => by
    constructor
    · intro hx; rw [List.mem_singleton] at hx; subst hx; exact ⟨by simp, hc⟩
    · intro hx; exact hx.1⟩)
end Go.Proofs.YtmlncblocfcmiaaGreat
namespace Go.Proofs.YtmlncblocfcmiaaGreat
open Go.RowKit
def up (w : ByteArray) (g : ByteArray → Nat) : ByteArray → Nat := fun x => if cQ w x = true then g x + 1 else g x
end Go.Proofs.YtmlncblocfcmiaaGreat
namespace Go.Proofs.YtmlncblocfcmiaaGreat
open Go.RowKit
instance decRole : DecidableEq Role := fun a b => decidable_of_iff (bA a b = true) aZ
structure J3 (l : List Cred) (F : List aT) : Prop where
  len : l.length ≤ 30000
  C : ∃ C : List Cred, wr (jO C) F ∧ (∀ c, c ∈ C ↔ c ∈ l ∧ dJ c = true) ∧ SM C
  ref : vC l = some F
theorem JG (l : List Cred) (hl : l.length ≤ 30000) : ∃ F, J3 l F := by
  obtain ⟨C, F, e, h1, h2⟩ := IP l hl
  obtain ⟨C1, T, us, ws, n, e1, m1, hC1, hlen1⟩ := H3 l (by omega)
  have hcc : ∀ c, c ∈ C ↔ c ∈ C1 := fun c => by rw [h2, hC1]
  exact ⟨F, hl, ⟨C1, ⟨h1.1, fun f => (h1.2 f).trans (jO.congr hcc f)⟩, hC1, by unfold SM; omega⟩, e⟩
theorem J3.flen {l : List Cred} {F : List aT} (h : J3 l F) : F.length ≤ 900000000 := by
  obtain ⟨C, h1, h2, h3⟩ := h.C
  exact IZ h1 h3
end Go.Proofs.YtmlncblocfcmiaaGreat
namespace Go.Proofs.YtmlncblocfcmiaaGreat
open Go.RowKit
def B8 (l : List Int) : Prop := ∀ x ∈ l, 0 ≤ x ∧ x < 256
end Go.Proofs.YtmlncblocfcmiaaGreat
namespace Go.Proofs.YtmlncblocfcmiaaGreat
open Go.RowKit
def FW : List ByteArray → List Key → Int
  | _, [] => 0
  | seen, k :: l => if fH k.Who = false then 30 else if k.Key.length < 1 ∨ 32 < k.Key.length then 21 else if sy cQ seen k.Who = true then 41 else FW (seen ++ [k.Who]) l
def G8 (l : List Key) : List (ByteArray × List Int) := l.map fun k => (k.Who, k.Key)
def HW (l : List Key) (o : ByteArray) : Option (List Int) := cH cQ (G8 l) o
theorem Jx {l : List Int} (h : l.length ≤ 1000000) : pP l = some l := by
  unfold pP
  rw [AW (by simpa using h)]; rfl
theorem E5 : ∀ (l : List Key) (seen : List ByteArray), FW seen l = 0 → ∀ k ∈ l, 1 ≤ k.Key.length ∧ k.Key.length ≤ 32
  | [], _, _, _, hk => by cases hk
  | x :: l, seen, h, k, hk => by
    unfold FW at h
    split at h
    · cases h
    split at h
    · cases h
    split at h
    · cases h
    rcases List.mem_cons.1 hk with rfl | hk
    · omega
    · exact E5 l _ h k hk
theorem AP : ∀ (l : List Key) (o : ByteArray) (b : List Int), HW l o = some b → ∃ k ∈ l, k.Key = b
  | [], o, b, h => by cases h
  | x :: l, o, b, h => by
    unfold HW at h
    rw [show G8 (x :: l) = (x.Who, x.Key) :: G8 l from rfl, wN] at h
    split at h
    · cases h; exact ⟨x, by simp, rfl⟩
    · obtain ⟨k, hk, e⟩ := AP l o b h
      exact ⟨k, by simp [hk], e⟩
def K8 (l : List Key) : Prop := ∀ k ∈ l, B8 k.Key
structure Mk (ks : List Key) (c : Cred) (k : List Int) : Prop where
  ok : FW [] ks = 0
  rt : dJ c = true
  lk : HW ks c.Head.Owner = some k
theorem Mk.len {ks : List Key} {c : Cred} {k : List Int} (h : Mk ks c k) : 1 ≤ k.length ∧ k.length ≤ 32 := by
  obtain ⟨q, hq, rfl⟩ := AP _ _ _ h.lk
  exact E5 ks [] h.ok q hq
theorem Mk.b8 {ks : List Key} {c : Cred} {k : List Int} (h : Mk ks c k) (hk : K8 ks) : B8 k := by
  obtain ⟨q, hq, rfl⟩ := AP _ _ _ h.lk
  exact hk q hq
theorem Mk.unique {ks : List Key} {c : Cred} {k k' : List Int} (h : Mk ks c k) (h' : Mk ks c k') : k = k' := by
  have := h.lk; rw [h'.lk] at this; cases this; rfl
end Go.Proofs.YtmlncblocfcmiaaGreat
namespace Go.Proofs.YtmlncblocfcmiaaGreat
open Go.RowKit
def S8 (l : List Signed) : Prop := ∀ s ∈ l, B8 s.Tag
theorem Bf : ∀ (l : List Signed) (x : Int), (∀ s ∈ l, rf s.Cred ≤ 1000000000) → ∃ r, lE l x = some r
  | [], x, _ => ⟨x, rfl⟩
  | s :: l, x, h => by
    rw [lE]
    obtain ⟨r, e⟩ := D8 [s.Cred] (by simp) (fun c hc => by rw [List.mem_singleton] at hc; rw [hc]; exact h s (by simp))
    rw [e, Option.bind_some]
    exact Bf l _ (fun s hs => h s (by simp [hs]))
theorem Bd (l : List Signed) (h : ∀ s ∈ l, rf s.Cred ≤ 1000000000) : ∀ (ks : List Key) (x : Int), ∃ r, jY l ks x = some r
  | [], x => by
    rw [jY]
    obtain ⟨r, e⟩ := Bf l x h
    rw [e]; exact ⟨r, rfl⟩
  | k :: ks, x => by rw [jY]; exact Bd l h ks _
theorem II (ks : List Key) (l : List Signed) (h : ∀ s ∈ l, rf s.Cred ≤ 1000000000) : ∃ r, tH ks l = some r := Bd l h ks 0
end Go.Proofs.YtmlncblocfcmiaaGreat
namespace Go.Proofs.YtmlncblocfcmiaaGreat
open Go.RowKit
theorem Hs (b : List Cred) (x : Cred) : kU b x = some (sy fB b x) := by
  obtain ⟨q, e, h⟩ := DA x b
  unfold qz at e
  rw [kL] at e
  rw [e, show q = sy fB b x from by rw [Bool.eq_iff_iff, h, sh iW]]
structure xk (l : List Cred) (F : List aT) : Prop where
  len : F.length ≤ 900000000
  ref : vC l = some F
  mdl : ∃ m, sF l = some m ∧ rN m.1 m.2.1 m.2.2.1 m.2.2.2.1 m.2.2.2.2.1 m.2.2.2.2.2 = some F ∧ ∀ r w, pE m.1 m.2.1 m.2.2.1 m.2.2.2.1 m.2.2.2.2.1 m.2.2.2.2.2 r w = some (sy vO F ⟨r, w⟩)
  der : ∀ C : List Cred, (∀ c, c ∈ C ↔ c ∈ l ∧ dJ c = true) → wr (jO C) F
theorem Ei (l : List Cred) (hl : l.length ≤ 30000) : ∃ F, xk l F := by
  obtain ⟨F, h⟩ := JG l hl
  refine ⟨F, h.flen, h.ref, ?_, fun C hC => ?_⟩
  · obtain ⟨C, h1, h2, h3⟩ := h.C
    obtain ⟨C1, T, us, ws, n, e1, m1, hC1, hlen1⟩ := H3 l (by omega)
    have hcc : ∀ c, c ∈ C1 ↔ c ∈ C := fun c => by rw [h2, hC1]
    have hF : wr (jO C1) F := ⟨h1.1, fun f => (h1.2 f).trans (jO.congr hcc f).symm⟩
    have hS : SM C1 := by unfold SM; omega
    refine ⟨_, e1, ?_, fun r w => ?_⟩
    · obtain ⟨F1, e3, hF3⟩ := Hf hS.small m1 C1 us ws [] n
      rw [← hF3.unique hF]; exact e3
    · obtain ⟨b, e, hb⟩ := Jp m1 C1 us ws [] n r w
      rw [e, show b = sy vO F ⟨r, w⟩ from by rw [Bool.eq_iff_iff, hb, sh tp, hF.2]]
  · obtain ⟨C', h1, h2, h3⟩ := h.C
    have hcc : ∀ c, c ∈ C' ↔ c ∈ C := fun c => by rw [h2, hC]
    exact ⟨h1.1, fun f => (h1.2 f).trans (jO.congr hcc f)⟩
end Go.Proofs.YtmlncblocfcmiaaGreat
namespace Go.Proofs.YtmlncblocfcmiaaGreat
open Go.RowKit
section
variable {α : Type}
structure SWO (lt : α → α → Bool) : Prop where
  irr : ∀ x, lt x x = false
  tr : ∀ x y z, lt x y = true → lt y z = true → lt x z = true
  ntr : ∀ x y z, lt x z = true → lt x y = true ∨ lt y z = true
variable {lt : α → α → Bool}
def tl (lt : α → α → Bool) (p q : α × Nat) : Prop := lt p.1 q.1 = true ∨ (lt q.1 p.1 = false ∧ p.2 < q.2)
theorem ym (h : SWO lt) {p q r : α × Nat} (a : tl lt p q) (b : tl lt q r) : tl lt p r := by
  unfold tl at *
  rcases a with a | ⟨a, a2⟩ <;> rcases b with b | ⟨b, b2⟩
  · exact .inl (h.tr _ _ _ a b)
  · rcases h.ntr _ r.1 _ a with c | c
    · exact .inl c
    · rw [b] at c; cases c
  · rcases h.ntr _ p.1 _ b with c | c
    · rw [a] at c; cases c
    · exact .inl c
  · refine .inr ⟨?_, by omega⟩
    cases e : lt r.1 p.1
    · rfl
    · rcases h.ntr _ q.1 _ e with c | c
      · rw [b] at c; cases c
      · rw [a] at c; cases c
theorem I0 (h : SWO lt) {p q : α × Nat} (a : tl lt p q) (b : tl lt q p) : False := by
  have c := ym h a b
  rcases c with c | ⟨_, c⟩
  · rw [h.irr] at c; cases c
  · omega
abbrev iJ (lt : α → α → Bool) (t : List (α × Nat)) : Prop := t.Pairwise (tl lt)
theorem Bo (h : SWO lt) : ∀ {t u : List (α × Nat)}, iJ lt t → iJ lt u → t.Perm u → t = u
  | [], u, _, _, hp => by rw [List.nil_perm] at hp; exact hp.symm
  | p :: t, [], _, _, hp => by simp at hp
  | p :: t, q :: u, h1, h2, hp => by
    have e : p = q := by
      rcases List.mem_cons.1 (hp.mem_iff.1 (.head _)) with e | hq
      · exact e
      · rcases List.mem_cons.1 (hp.mem_iff.2 (.head _)) with e | hq'
        · exact e.symm
        · exact (I0 h ((List.pairwise_cons.1 h1).1 _ hq') ((List.pairwise_cons.1 h2).1 _ hq)).elim
    subst e
    rw [Bo h (List.pairwise_cons.1 h1).2 (List.pairwise_cons.1 h2).2 (List.Perm.cons_inv hp)]
def AA (lt : α → α → Bool) (l : List α) (k : α) : List α := l.filter (fun x => !lt k x) ++ k :: l.filter (fun x => lt k x)
def DP (lt : α → α → Bool) (l : List α) : List α := l.foldl (AA lt) []
def AF (lt : α → α → Bool) (t : List (α × Nat)) (k : α × Nat) : List (α × Nat) := t.filter (fun x => !lt k.1 x.1) ++ k :: t.filter (fun x => lt k.1 x.1)
theorem HO (t : List (α × Nat)) (k : α × Nat) : (AF lt t k).map (·.1) = AA lt (t.map (·.1)) k.1 := by
  simp [AF, AA, List.filter_map, Function.comp_def]
theorem Gr (t : List (α × Nat)) (k : α × Nat) : (AF lt t k).Perm (t ++ [k]) := by
  unfold AF
  refine List.perm_middle.trans ?_
  refine (List.Perm.cons _ ?_).trans (List.perm_append_singleton k t).symm
  have := List.filter_append_perm (fun x : α × Nat => !lt k.1 x.1) t
  simpa using this
theorem Hr (h : SWO lt) {t : List (α × Nat)} {k : α × Nat} (ht : iJ lt t) (hk : ∀ x ∈ t, x.2 < k.2) : iJ lt (AF lt t k) := by
  unfold AF iJ
  rw [List.pairwise_append, List.pairwise_cons]
  refine ⟨ht.filter _, ⟨fun x hx => ?_, ht.filter _⟩, fun x hx y hy => ?_⟩
  · exact .inl (List.mem_filter.1 hx).2
  · obtain ⟨h1, h2⟩ := List.mem_filter.1 hx
    simp only [Bool.not_eq_true', ] at h2
    have hxk : tl lt x k := .inr ⟨h2, hk x h1⟩
    rcases List.mem_cons.1 hy with rfl | hy
    · exact hxk
    · exact ym h hxk (.inl (List.mem_filter.1 hy).2)
theorem Kf (h : SWO lt) (l : List α) : ∃ t, iJ lt t ∧ t.Perm l.zipIdx ∧ t.map (·.1) = DP lt l := by
  suffices H : ∀ (l r : List α) (t : List (α × Nat)), iJ lt t → t.Perm r.zipIdx → ∃ u, iJ lt u ∧ u.Perm (r ++ l).zipIdx ∧ u.map (·.1) = l.foldl (AA lt) (t.map (·.1)) by
    obtain ⟨u, h1, h2, h3⟩ := H l [] [] .nil (by simp)
    exact ⟨u, h1, by simpa using h2, h3⟩
  intro l
  induction l with
  | nil => intro r t h1 h2; exact ⟨t, h1, by simpa using h2, rfl⟩
  | cons k l ih =>
    intro r t h1 h2
    obtain ⟨u, a1, a2, a3⟩ := ih (r ++ [k]) (AF lt t (k, r.length)) (Hr h h1 (fun x hx => by
      obtain ⟨a, b⟩ := x
      have := List.snd_lt_of_mem_zipIdx (h2.mem_iff.1 hx)
      simpa using this)) ((Gr t _).trans (by rw [List.zipIdx_append]; simpa using h2.append_right _))
    refine ⟨u, a1, by simpa using a2, ?_⟩
    rw [a3, HO]
    rfl
theorem IF (h : SWO lt) {l : List α} {t : List (α × Nat)} (h1 : iJ lt t) (h2 : t.Perm l.zipIdx) : t.map (·.1) = DP lt l := by
  obtain ⟨u, a1, a2, a3⟩ := Kf h l
  rw [← a3, Bo h h1 a1 (h2.trans a2.symm)]
end
end Go.Proofs.YtmlncblocfcmiaaGreat
namespace Go.Proofs.YtmlncblocfcmiaaGreat
open Go.RowKit
section
variable {α : Type} {lt : α → α → Bool}
abbrev Lk (lt : α → α → Bool) (A B : List (α × Nat)) : Prop := ∀ A' a b B', A = A' ++ [a] → B = b :: B' → tl lt a b
theorem vl (h : SWO lt) {A B : List (α × Nat)} (hA : iJ lt A) (hB : iJ lt B) (l : Lk lt A B) : ∀ a ∈ A, ∀ b ∈ B, tl lt a b := by
  intro a ha b hb
  rcases List.eq_nil_or_concat A with rfl | ⟨A', z, rfl⟩
  · cases ha
  cases B with
  | nil => cases hb
  | cons y B' =>
    have h1 : tl lt z y := l A' z y B' (by simp) rfl
    have h2 : a = z ∨ tl lt a z := by
      simp only [List.concat_eq_append, List.mem_append, List.mem_singleton] at ha
      rcases ha with ha | ha
      · refine .inr ?_
        simp only [List.concat_eq_append, iJ, List.pairwise_append] at hA
        exact hA.2.2 a ha z (by simp)
      · exact .inl ha
    have h3 : b = y ∨ tl lt y b := by
      rcases List.mem_cons.1 hb with hb | hb
      · exact .inl hb
      · exact .inr ((List.pairwise_cons.1 hB).1 b hb)
    have h4 : tl lt a y := by
      rcases h2 with rfl | h2
      · exact h1
      · exact ym h h2 h1
    rcases h3 with rfl | h3
    · exact h4
    · exact ym h h4 h3
theorem DQ (h : SWO lt) {A B : List (α × Nat)} (hA : iJ lt A) (hB : iJ lt B) (l : Lk lt A B) : iJ lt (A ++ B) :=
  List.pairwise_append.2 ⟨hA, hB, vl h hA hB l⟩
theorem iJ.left {A B : List (α × Nat)} (h : iJ lt (A ++ B)) : iJ lt A := (List.pairwise_append.1 h).1
theorem iJ.right {A B : List (α × Nat)} (h : iJ lt (A ++ B)) : iJ lt B := (List.pairwise_append.1 h).2.1
theorem iJ.two {A B : List (α × Nat)} (h : iJ lt (A ++ B)) : ∀ a ∈ A, ∀ b ∈ B, tl lt a b := (List.pairwise_append.1 h).2.2
theorem BV (h : SWO lt) {A B : List (α × Nat)} {x : α × Nat} (hs : iJ lt (A ++ B)) (l1 : Lk lt A [x]) (l2 : Lk lt [x] B) : iJ lt (A ++ x :: B) := by
  have h1 := vl h hs.left (List.pairwise_singleton _ x) l1
  have h2 := vl h (List.pairwise_singleton _ x) hs.right l2
  refine List.pairwise_append.2 ⟨hs.left, List.pairwise_cons.2 ⟨fun b hb => h2 x (by simp) b hb, hs.right⟩, fun a ha b hb => ?_⟩
  rcases List.mem_cons.1 hb with rfl | hb
  · exact h1 a ha _ (by simp)
  · exact hs.two a ha b hb
theorem IS (h : SWO lt) {A1 A2 B1 B2 C1 C2 : List (α × Nat)} (hA : iJ lt (A1 ++ A2)) (hB : iJ lt (B1 ++ B2)) (l1 : Lk lt A1 B2) (l2 : Lk lt B1 A2)
    (p1 : C1.Perm (A1 ++ B1)) (p2 : C2.Perm (A2 ++ B2)) (h1 : iJ lt C1) (h2 : iJ lt C2) : iJ lt (C1 ++ C2) := by
  have x1 := vl h hA.left hB.right l1
  have x2 := vl h hB.left hA.right l2
  refine List.pairwise_append.2 ⟨h1, h2, fun a ha b hb => ?_⟩
  rcases List.mem_append.1 (p1.mem_iff.1 ha) with ha | ha <;> rcases List.mem_append.1 (p2.mem_iff.1 hb) with hb | hb
  · exact hA.two a ha b hb
  · exact x1 a ha b hb
  · exact x2 a ha b hb
  · exact hB.two a ha b hb
end
section
variable {α : Type}
theorem zT (p q : List α) (x y : α) : (p ++ x :: q).set p.length y = p ++ y :: q := by simp
theorem Do (p q : List α) (x y : α) (n : Nat) (h : n = p.length) : (p ++ x :: q).set n y = p ++ y :: q := by subst h; simp
theorem AZ (p m q : List α) (x y : α) : ((p ++ x :: (m ++ y :: q)).set p.length y).set (p.length + 1 + m.length) x = p ++ y :: (m ++ x :: q) := by
  rw [zT]
  have : p ++ y :: (m ++ y :: q) = (p ++ y :: m) ++ y :: q := by simp
  rw [this, show p.length + 1 + m.length = (p ++ y :: m).length by simp; omega, zT]
  simp
theorem GH (p m q : List α) (x y : α) : ((p ++ x :: (m ++ y :: q)).set (p.length + 1 + m.length) x).set p.length y = p ++ y :: (m ++ x :: q) := by
  rw [List.set_comm _ _ (by omega), AZ]
theorem sd {l : List α} {n : Nat} (h : n ≤ l.length) : ∃ a b, l = a ++ b ∧ a.length = n := ⟨l.take n, l.drop n, (List.take_append_drop n l).symm, by simp [h]⟩
end
end Go.Proofs.YtmlncblocfcmiaaGreat
namespace Go.Proofs.YtmlncblocfcmiaaGreat
open Go.RowKit
section
variable {c : aB → aB → Int} {G : aB → Prop} {f : aB × aB → Option Int}
theorem Fw (x : aB) : (⟨x.Op, x.K, x.Role, x.Kids⟩ : aB) = x := by cases x; rfl
abbrev iF (c : aB → aB → Int) (x y : aB) : Bool := decide (c x y < 0)
abbrev xS (f : aB × aB → Option Int) (c : aB → aB → Int) (G : aB → Prop) : Prop := ∀ x y, G x → G y → f (x, y) = some (c x y)
theorem KH (hf : xS f c G) (pre : List aB) (x : aB) (hx : G x) : ∀ (k : Nat) (P S : List aB) (n : Nat) (j a : Int), P.length = k → k < n → (∀ y ∈ P, G y) → (pre ++ (P ++ x :: S)).length ≤ 1000000 → j = ((pre.length + P.length : Nat) : Int) → a = (pre.length : Int) →
    ∃ P1 P2, P = P1 ++ P2 ∧ cY a f n (pre ++ (P ++ x :: S)) j = some (pre ++ (P1 ++ x :: (P2 ++ S))) ∧ (∀ P' z, P1 = P' ++ [z] → iF c x z = false) ∧ (∀ y P', P2 = y :: P' → iF c x y = true) := by
  intro k
  induction k with
  | zero =>
    intro P S n j a hk hn hG hl hj ha
    obtain rfl := List.eq_nil_of_length_eq_zero hk
    obtain ⟨n, rfl⟩ := Nat.exists_eq_succ_of_ne_zero (by omega : n ≠ 0)
    refine ⟨[], [], rfl, ?_, by simp, by simp⟩
    rw [cY]
    have : ¬ (j > a) := by rw [hj, ha]; simp
    simp [this]
  | succ k ih =>
    intro P S n j a hk hn hG hl hj ha
    rcases List.eq_nil_or_concat P with rfl | ⟨P', z, rfl⟩
    · simp at hk
    simp only [List.concat_eq_append, List.length_append, List.length_cons, List.length_nil] at hk hj hl hG ⊢
    obtain ⟨n, rfl⟩ := Nat.exists_eq_succ_of_ne_zero (by omega : n ≠ 0)
    have hja : j > a := by omega
    have e0 : pre ++ (P' ++ [z] ++ x :: S) = (pre ++ P') ++ z :: x :: S := by simp
    have hw : IntKind.i64.wrap (j - 1) = ((pre.length + P'.length : Nat) : Int) := by rw [dL (by omega) (by omega)]; omega
    have i1 : dK ((pre ++ P') ++ z :: x :: S) j = some x := by
      rw [show (pre ++ P') ++ z :: x :: S = (pre ++ P' ++ [z]) ++ x :: S by simp]
      exact fO _ _ _ _ (by simp; omega)
    have i2 : dK ((pre ++ P') ++ z :: x :: S) ((pre.length + P'.length : Nat) : Int) = some z := fO _ _ _ _ (by simp)
    have hz : G z := hG z (by simp)
    have hP : ∀ y ∈ P', G y := fun y hy => hG y (by simp [hy])
    have jn : j.toNat = pre.length + P'.length + 1 := by omega
    rw [cY, e0]
    simp only [hja, decide_true, if_true, i1, hw, i2, Option.bind_some, hf x z hx hz]
    by_cases hc : c x z < 0
    · simp only [hc, decide_true, if_true]
      have s1 : ((pre ++ P') ++ z :: x :: S).set j.toNat z = (pre ++ P') ++ z :: z :: S := by
        have := Do (pre ++ P' ++ [z]) S x z j.toNat (by simp; omega)
        simpa only [List.append_assoc, List.singleton_append, List.cons_append, List.nil_append] using this
      have s2 : ((pre ++ P') ++ z :: z :: S).set (pre.length + P'.length) x = (pre ++ P') ++ x :: z :: S := by
        exact Do (pre ++ P') (z :: S) z x _ (by simp)
      have i3 : dK ((pre ++ P') ++ z :: z :: S) ((pre.length + P'.length : Nat) : Int) = some z := fO _ _ _ _ (by simp)
      rw [s1, i3, Option.bind_some, Int.toNat_natCast, Fw, s2]
      have e1 : (pre ++ P') ++ x :: z :: S = pre ++ (P' ++ x :: (z :: S)) := by simp
      obtain ⟨P1, P2, h1, h2, h3, h4⟩ := ih P' (z :: S) n ((pre.length + P'.length : Nat) : Int) a (by omega) (by omega) hP (by simp; omega) rfl ha
      rw [e1, h2]
      refine ⟨P1, P2 ++ [z], by rw [h1]; simp, by simp, h3, ?_⟩
      intro y Q hQ
      cases P2 with
      | nil =>
        simp only [List.nil_append, List.cons.injEq] at hQ
        rw [← hQ.1]; simp [iF, hc]
      | cons y' P2 =>
        simp only [List.cons_append, List.cons.injEq] at hQ
        rw [← hQ.1]; exact h4 y' P2 rfl
    · simp only [hc, decide_false, Bool.false_eq_true, if_false]
      refine ⟨P' ++ [z], [], by simp, by simp, ?_, by simp⟩
      intro Q y hQ
      have := List.append_inj' hQ rfl
      simp only [List.cons.injEq, and_true] at this
      rw [← this.2]; simp [iF, hc]
theorem H5 (h : SWO (iF c)) (hf : xS f c G) (pre post : List aB) (a b : Int) (ha : a = (pre.length : Int)) : ∀ (S t : List (aB × Nat)) (n : Nat) (i : Int),
    S.length < n → iJ (iF c) t → (∀ x ∈ t, ∀ y ∈ S, x.2 < y.2) → S.Pairwise (fun x y => x.2 < y.2) → (∀ x ∈ t ++ S, G x.1) → (pre ++ (t.map (·.1) ++ (S.map (·.1) ++ post))).length ≤ 1000000 →
    i = ((pre.length + t.length : Nat) : Int) → b = ((pre.length + t.length + S.length : Nat) : Int) →
    ∃ u, cM b a f n (pre ++ (t.map (·.1) ++ (S.map (·.1) ++ post))) i = some (pre ++ (u.map (·.1) ++ post)) ∧ iJ (iF c) u ∧ u.Perm (t ++ S)
  | [], t, n, i, hn, ht, h1, h2, hG, hl, hi, hb => by
    obtain ⟨n, rfl⟩ := Nat.exists_eq_succ_of_ne_zero (by simp at hn; omega : n ≠ 0)
    rw [cM]
    simp only [List.length_nil] at hb
    have : ¬ (i < b) := by omega
    simp only [this, decide_false, Bool.false_eq_true, if_false]
    exact ⟨t, by simp, ht, by simp⟩
  | s :: S, t, n, i, hn, ht, h1, h2, hG, hl, hi, hb => by
    simp only [List.length_cons] at hn hb
    obtain ⟨n, rfl⟩ := Nat.exists_eq_succ_of_ne_zero (by omega : n ≠ 0)
    rw [cM]
    have hib : i < b := by omega
    simp only [hib, decide_true, if_true]
    have hl2 := hl
    simp only [List.length_append, List.length_map, List.length_cons] at hl2
    obtain ⟨P1, P2, e1, e2, e3, e4⟩ := KH hf pre s.1 (hG s (by simp)) (t.map (·.1)).length (t.map (·.1)) (S.map (·.1) ++ post) cE i a rfl (by rw [gw]; simp; omega)
      (fun y hy => by obtain ⟨p, hp, rfl⟩ := List.mem_map.1 hy; exact hG p (by simp [hp])) (by simpa using hl) (by simp; omega) ha
    simp only [List.map_cons, List.cons_append]
    rw [e2, Option.bind_some]
    obtain ⟨t1, t2, rfl, q1, q2⟩ := List.map_eq_append_iff.1 e1
    have hlen : t1.length + t2.length = (t1 ++ t2).length := by simp
    have hw : IntKind.i64.wrap (i + 1) = ((pre.length + (t1 ++ s :: t2).length : Nat) : Int) := by rw [dL (by omega) (by omega)]; simp at hi ⊢; omega
    rw [hw]
    have hsrt : iJ (iF c) (t1 ++ s :: t2) := BV h ht
      (fun A' z b B' hA hB => by
        simp only [List.cons.injEq] at hB
        rw [← hB.1]
        refine .inr ⟨e3 (A'.map (·.1)) z.1 (by rw [← q1, hA]; simp), h1 z (by rw [hA]; simp) s (by simp)⟩)
      (fun A' z b B' hA hB => by
        have hz : z = s := by
          cases A' with
          | nil => simpa using hA.symm
          | cons _ A' => simp at hA
        rw [hz]
        exact .inl (e4 b.1 (B'.map (·.1)) (by rw [← q2, hB]; simp)))
    have h2' := List.pairwise_cons.1 h2
    have e5 : pre ++ (P1 ++ s.1 :: (P2 ++ (S.map (·.1) ++ post))) = pre ++ ((t1 ++ s :: t2).map (·.1) ++ (S.map (·.1) ++ post)) := by rw [← q1, ← q2]; simp
    rw [e5]
    obtain ⟨u, u1, u2, u3⟩ := H5 h hf pre post a b ha S (t1 ++ s :: t2) n _ (by omega) hsrt
      (fun x hx y hy => by
        rcases List.mem_append.1 hx with hx | hx
        · exact h1 x (by simp [hx]) y (by simp [hy])
        · rcases List.mem_cons.1 hx with rfl | hx
          · exact h2'.1 y hy
          · exact h1 x (by simp [hx]) y (by simp [hy]))
      h2'.2 (fun x hx => hG x (by
        simp only [List.mem_append, List.mem_cons] at hx ⊢
        rcases hx with (hx | hx | hx) | hx
        · exact .inl (.inl hx)
        · exact .inr (.inl hx)
        · exact .inl (.inr hx)
        · exact .inr (.inr hx))) (by simp at hl2 ⊢; omega) rfl (by simp at hb ⊢; omega)
    refine ⟨u, u1, u2, u3.trans ?_⟩
    simp only [List.append_assoc, List.cons_append]
    exact List.Perm.append_left t1 (List.perm_middle.symm)
theorem E0 (h : SWO (iF c)) (hf : xS f c G) (pre post : List aB) (S : List (aB × Nat)) (a b : Int) (h2 : S.Pairwise (fun x y => x.2 < y.2)) (hG : ∀ x ∈ S, G x.1) (hl : (pre ++ (S.map (·.1) ++ post)).length ≤ 1000000)
    (ha : a = (pre.length : Int)) (hb : b = ((pre.length + S.length : Nat) : Int)) :
    ∃ u, eM (pre ++ (S.map (·.1) ++ post)) a b f = some (pre ++ (u.map (·.1) ++ post)) ∧ iJ (iF c) u ∧ u.Perm S := by
  unfold eM
  have hl2 := hl
  simp only [List.length_append, List.length_map] at hl2
  cases S with
  | nil =>
    refine ⟨[], ?_, .nil, .nil⟩
    obtain ⟨n, hn⟩ := Nat.exists_eq_succ_of_ne_zero (by rw [gw]; omega : cE ≠ 0)
    rw [hn, cM]
    have : ¬ (IntKind.i64.wrap (a + 1) < b) := by rw [dL (by omega) (by omega)]; simp at hb; omega
    simp [this]
  | cons s S =>
    simp only [List.length_cons] at hb hl2
    have h2' := List.pairwise_cons.1 h2
    obtain ⟨u, u1, u2, u3⟩ := H5 h hf pre post a b ha S [s] cE (IntKind.i64.wrap (a + 1)) (by rw [gw]; omega) (List.pairwise_singleton _ _) (fun x hx y hy => by simp at hx; rw [hx]; exact h2'.1 y hy) h2'.2
      (fun x hx => hG x (by simpa using hx)) (by simp at hl ⊢; omega) (by rw [dL (by omega) (by omega)]; simp; omega) (by simp; omega)
    exact ⟨u, by simpa using u1, u2, by simpa using u3⟩
end
end Go.Proofs.YtmlncblocfcmiaaGreat
namespace Go.Proofs.YtmlncblocfcmiaaGreat
open Go.RowKit
section
variable {c : aB → aB → Int} {G : aB → Prop} {f : aB × aB → Option Int}
theorem fU {x : Int} (n : Nat) (h : x = (n : Int)) (hn : n ≤ 4000000) : IntKind.i64.wrap x = (n : Int) := by rw [h, dL (by omega) (by omega)]
theorem JM (p m q : List aB) (a b N : Int) : ∀ (k : Nat) (X1 X2 Y1 Y2 : List aB) (n : Nat) (i : Int), X2.length = k → Y2.length = k → X1.length = Y1.length → k < n → (p ++ (Y1 ++ (X2 ++ (m ++ (X1 ++ (Y2 ++ q)))))).length ≤ 1000000 →
    i = (X1.length : Int) → N = ((X1.length + k : Nat) : Int) → a = (p.length : Int) → b = ((p.length + X1.length + k + m.length : Nat) : Int) →
    dI N b a n (p ++ (Y1 ++ (X2 ++ (m ++ (X1 ++ (Y2 ++ q)))))) i = some (p ++ ((Y1 ++ Y2) ++ (m ++ ((X1 ++ X2) ++ q)))) := by
  intro k
  induction k with
  | zero =>
    intro X1 X2 Y1 Y2 n i h1 h2 h3 hn hl hi hN ha hb
    obtain rfl := List.eq_nil_of_length_eq_zero h1
    obtain rfl := List.eq_nil_of_length_eq_zero h2
    obtain ⟨n, rfl⟩ := Nat.exists_eq_succ_of_ne_zero (by omega : n ≠ 0)
    rw [dI]
    have : ¬ (i < N) := by omega
    simp [this]
  | succ k ih =>
    intro X1 X2 Y1 Y2 n i h1 h2 h3 hn hl hi hN ha hb
    cases X2 with
    | nil => simp at h1
    | cons x X2 =>
    cases Y2 with
    | nil => simp at h2
    | cons y Y2 =>
    simp only [List.length_cons, Nat.add_right_cancel_iff] at h1 h2
    obtain ⟨n, rfl⟩ := Nat.exists_eq_succ_of_ne_zero (by omega : n ≠ 0)
    have hl2 := hl
    simp only [List.length_append, List.length_cons] at hl2
    have hiN : i < N := by omega
    have w1 : IntKind.i64.wrap (b + i) = (((p ++ Y1).length + 1 + (X2 ++ (m ++ X1)).length : Nat) : Int) := fU _ (by simp; omega) (by simp; omega)
    have w2 : IntKind.i64.wrap (a + i) = ((p ++ Y1).length : Int) := fU _ (by simp; omega) (by simp; omega)
    have w3 : IntKind.i64.wrap (i + 1) = ((X1 ++ [x]).length : Int) := fU _ (by simp; omega) (by simp; omega)
    have e0 : p ++ (Y1 ++ (x :: X2 ++ (m ++ (X1 ++ (y :: Y2 ++ q))))) = (p ++ Y1) ++ x :: ((X2 ++ (m ++ X1)) ++ y :: (Y2 ++ q)) := by simp
    have i1 : dK ((p ++ Y1) ++ x :: ((X2 ++ (m ++ X1)) ++ y :: (Y2 ++ q))) (((p ++ Y1).length + 1 + (X2 ++ (m ++ X1)).length : Nat) : Int) = some y := by
      have := fO ((p ++ Y1) ++ x :: (X2 ++ (m ++ X1))) y (Y2 ++ q) (((p ++ Y1).length + 1 + (X2 ++ (m ++ X1)).length : Nat) : Int) (by simp; omega)
      simpa using this
    have i2 : dK ((p ++ Y1) ++ x :: ((X2 ++ (m ++ X1)) ++ y :: (Y2 ++ q))) ((p ++ Y1).length : Int) = some x := fO _ _ _ _ rfl
    rw [dI, e0]
    simp only [hiN, decide_true, if_true, w1, w2, i1, i2, Option.bind_some, Int.toNat_natCast, w3]
    have i3 : dK (((p ++ Y1) ++ x :: ((X2 ++ (m ++ X1)) ++ y :: (Y2 ++ q))).set (p ++ Y1).length y) (((p ++ Y1).length + 1 + (X2 ++ (m ++ X1)).length : Nat) : Int) = some y := by
      rw [zT]
      have := fO ((p ++ Y1) ++ y :: (X2 ++ (m ++ X1))) y (Y2 ++ q) (((p ++ Y1).length + 1 + (X2 ++ (m ++ X1)).length : Nat) : Int) (by simp; omega)
      simpa using this
    rw [i3, Option.bind_some, Fw, AZ]
    have e1 : (p ++ Y1) ++ y :: ((X2 ++ (m ++ X1)) ++ x :: (Y2 ++ q)) = p ++ ((Y1 ++ [y]) ++ (X2 ++ (m ++ ((X1 ++ [x]) ++ (Y2 ++ q))))) := by simp
    rw [e1, ih (X1 ++ [x]) X2 (Y1 ++ [y]) Y2 n _ h1 h2 (by simp; omega) (by omega) (by simp; omega) rfl (by rw [hN]; simp; omega) ha (by rw [hb]; simp; omega)]
    simp
theorem Ft (p m q X Y : List aB) (a b N : Int) (h : X.length = Y.length) (hl : (p ++ (X ++ (m ++ (Y ++ q)))).length ≤ 1000000) (hN : N = (X.length : Int)) (ha : a = (p.length : Int)) (hb : b = ((p.length + X.length + m.length : Nat) : Int)) :
    eJ (p ++ (X ++ (m ++ (Y ++ q)))) a b N f = some (p ++ (Y ++ (m ++ (X ++ q)))) := by
  unfold eJ
  have hl2 := hl
  simp only [List.length_append] at hl2
  have := JM p m q a b N X.length [] X [] Y cE 0 rfl h.symm rfl (by rw [gw]; omega) (by simpa using hl) rfl (by simpa using hN) ha (by rw [hb]; simp)
  simpa using this
theorem Ki (M : Int) : ∀ (k : Nat) (A B p q : List aB) (n : Nat) (i j : Int), A.length + B.length ≤ k → 0 < A.length → 0 < B.length → k < n → (p ++ (A ++ (B ++ q))).length ≤ 1000000 → i = (A.length : Int) → j = (B.length : Int) → M = ((p.length + A.length : Nat) : Int) →
    dV M f n (p ++ (A ++ (B ++ q))) i j = some (p ++ (B ++ (A ++ q))) := by
  intro k
  induction k with
  | zero => intro A B p q n i j h h1 h2; omega
  | succ k ih =>
    intro A B p q n i j h h1 h2 hn hl hi hj hM
    obtain ⟨n, rfl⟩ := Nat.exists_eq_succ_of_ne_zero (by omega : n ≠ 0)
    have hl2 := hl
    simp only [List.length_append] at hl2
    rw [dV]
    by_cases he : A.length = B.length
    · have : (i != j) = false := by rw [hi, hj, he]; simp
      simp only [this, Bool.false_eq_true, if_false]
      have w1 : IntKind.i64.wrap (M - i) = (p.length : Int) := fU _ (by omega) (by omega)
      have := Ft (f := f) p [] q A B (p.length : Int) M i he (by simpa using hl) hi rfl (by rw [hM]; simp)
      simp only [List.nil_append] at this
      rw [w1, this]; rfl
    · have hne : (i != j) = true := by rw [hi, hj]; simp; omega
      simp only [hne, if_true]
      by_cases hg : i > j
      · simp only [hg, decide_true, if_true]
        obtain ⟨X, Y, rfl, hX⟩ := sd (l := A) (n := B.length) (by omega)
        simp only [List.length_append] at hi h hM hl2
        have w1 : IntKind.i64.wrap (M - i) = (p.length : Int) := fU _ (by omega) (by omega)
        have s := Ft (f := f) p Y q X B (p.length : Int) M j (by omega) (by simp; omega) (by omega) rfl (by omega)
        have e0 : p ++ (X ++ Y ++ (B ++ q)) = p ++ (X ++ (Y ++ (B ++ q))) := by simp
        have w2 : IntKind.i64.wrap (i - j) = (Y.length : Int) := fU _ (by omega) (by omega)
        rw [e0, w1, s, Option.bind_some, w2]
        have e1 : p ++ (B ++ (Y ++ (X ++ q))) = (p ++ B) ++ (Y ++ (X ++ q)) := by simp
        rw [e1, ih Y X (p ++ B) q n _ j (by omega) (by omega) (by omega) (by omega) (by simp; omega) rfl (by omega) (by simp; omega)]
        simp
      · simp only [hg, decide_false, Bool.false_eq_true, if_false]
        obtain ⟨Z, V, rfl, hZ⟩ := sd (l := B) (n := B.length - A.length) (by omega)
        simp only [List.length_append] at hj h hl2 hZ h2 he
        have w1 : IntKind.i64.wrap (M - i) = (p.length : Int) := fU _ (by omega) (by omega)
        have w3 : IntKind.i64.wrap (M + j) = ((p.length + A.length + (Z.length + V.length) : Nat) : Int) := fU _ (by omega) (by omega)
        have w4 : IntKind.i64.wrap (((p.length + A.length + (Z.length + V.length) : Nat) : Int) - i) = ((p.length + A.length + Z.length : Nat) : Int) := fU _ (by omega) (by omega)
        have s := Ft (f := f) p Z q A V (p.length : Int) ((p.length + A.length + Z.length : Nat) : Int) i (by omega) (by simp; omega) hi rfl rfl
        have e0 : p ++ (A ++ (Z ++ V ++ q)) = p ++ (A ++ (Z ++ (V ++ q))) := by simp
        have w2 : IntKind.i64.wrap (j - i) = (Z.length : Int) := fU _ (by omega) (by omega)
        rw [e0, w1, w3, w4, s, Option.bind_some, w2]
        rw [show p ++ (V ++ (Z ++ (A ++ q))) = p ++ (V ++ (Z ++ ((A ++ q)))) from rfl, ih V Z p (A ++ q) n i _ (by omega) (by omega) (by omega) (by omega) (by simp; omega) (by omega) rfl (by omega)]
        simp
theorem Lg (A B p q : List aB) (a m b : Int) (h1 : 0 < A.length) (h2 : 0 < B.length) (hl : (p ++ (A ++ (B ++ q))).length ≤ 1000000) (ha : a = (p.length : Int)) (hm : m = ((p.length + A.length : Nat) : Int)) (hb : b = ((p.length + A.length + B.length : Nat) : Int)) :
    eF (p ++ (A ++ (B ++ q))) a m b f = some (p ++ (B ++ (A ++ q))) := by
  unfold eF
  have hl2 := hl
  simp only [List.length_append] at hl2
  rw [fU A.length (by omega) (by omega), fU B.length (by omega) (by omega)]
  exact Ki m (A.length + B.length) A B p q cE _ _ (Nat.le_refl _) h1 h2 (by rw [gw]; omega) hl rfl rfl hm
end
end Go.Proofs.YtmlncblocfcmiaaGreat
namespace Go.Proofs.YtmlncblocfcmiaaGreat
open Go.RowKit
section
variable {c : aB → aB → Int} {G : aB → Prop} {f : aB × aB → Option Int}
theorem yc {x : Int} (n : Nat) (h : x = (n : Int)) (hn : n ≤ 4000000) : IntKind.i64.wrap (Int.fdiv (IntKind.u64.wrap (IntKind.i64.wrap x)) (2 ^ min (Int.toNat 1) (IntKind.bits .u64))) = ((n / 2 : Nat) : Int) := by
  rw [fU n h hn]
  have e1 : IntKind.u64.wrap (n : Int) = (n : Int) := by
    simp only [IntKind.wrap, IntKind.signed, IntKind.bits]
    simp
    omega
  rw [e1, show (2 ^ min (Int.toNat 1) (IntKind.bits .u64) : Int) = 2 from by decide, Int.fdiv_eq_ediv_of_nonneg _ (by decide), dL (by omega) (by omega)]
  omega
abbrev Ask (a0 : List aB) (f : aB × aB → Option Int) (p q : Int) (b : Bool) : Prop := ∃ x y r, dK a0 p = some x ∧ dK a0 q = some y ∧ f (x, y) = some r ∧ decide (r < 0) = b
theorem KY (a0 : List aB) (a1 : Int) (pr : Nat → Bool) (lo hi : Nat) (hhi : hi ≤ 1000000) (hpr : ∀ h, lo ≤ h → h < hi → Ask a0 f (h : Int) a1 (pr h)) : ∀ (d n i j : Nat), j - i ≤ d → d < n → lo ≤ i → i ≤ j → j ≤ hi → (i = lo ∨ pr (i - 1) = true) → (j = hi ∨ pr j = false) →
    ∃ t n', lo ≤ t ∧ t ≤ hi ∧ (t = lo ∨ pr (t - 1) = true) ∧ (t = hi ∨ pr t = false) ∧ cJ a0 a1 f n (i : Int) (j : Int) = cJ a0 a1 f (n' + 1) (t : Int) (t : Int) := by
  intro d
  induction d with
  | zero =>
    intro n i j h1 hn h2 h3 h4 h5 h6
    obtain ⟨n, rfl⟩ := Nat.exists_eq_succ_of_ne_zero (by omega : n ≠ 0)
    obtain rfl : i = j := by omega
    exact ⟨i, n, h2, h4, h5, h6, rfl⟩
  | succ d ih =>
    intro n i j h1 hn h2 h3 h4 h5 h6
    obtain ⟨n, rfl⟩ := Nat.exists_eq_succ_of_ne_zero (by omega : n ≠ 0)
    by_cases hij : i = j
    · subst hij; exact ⟨i, n, h2, h4, h5, h6, rfl⟩
    have hh := yc (i + j) (x := (i : Int) + (j : Int)) (by omega) (by omega)
    obtain ⟨x, y, r, e1, e2, e3, e4⟩ := hpr ((i + j) / 2) (by omega) (by omega)
    rw [cJ]
    have hlt : ((i : Int) < (j : Int)) := by omega
    simp only [hlt, decide_true, if_true, hh, e1, e2, e3, e4, Option.bind_some]
    cases hp : pr ((i + j) / 2)
    · simp only [Bool.false_eq_true, if_false]
      exact ih n i ((i + j) / 2) (by omega) (by omega) h2 (by omega) (by omega) h5 (.inr hp)
    · simp only [if_true]
      rw [fU ((i + j) / 2 + 1) (by omega) (by omega)]
      exact ih n ((i + j) / 2 + 1) j (by omega) (by omega) (by omega) (by omega) h4 (.inr (by simpa using hp)) h6
theorem KV (a0 : List aB) (a2 : Int) (pr : Nat → Bool) (lo hi : Nat) (hhi : hi ≤ 1000000) (hpr : ∀ h, lo ≤ h → h < hi → Ask a0 f a2 (h : Int) (!pr h)) : ∀ (d n i j : Nat), j - i ≤ d → d < n → lo ≤ i → i ≤ j → j ≤ hi → (i = lo ∨ pr (i - 1) = true) → (j = hi ∨ pr j = false) →
    ∃ t n', lo ≤ t ∧ t ≤ hi ∧ (t = lo ∨ pr (t - 1) = true) ∧ (t = hi ∨ pr t = false) ∧ cK a0 a2 f n (i : Int) (j : Int) = cK a0 a2 f (n' + 1) (t : Int) (t : Int) := by
  intro d
  induction d with
  | zero =>
    intro n i j h1 hn h2 h3 h4 h5 h6
    obtain ⟨n, rfl⟩ := Nat.exists_eq_succ_of_ne_zero (by omega : n ≠ 0)
    obtain rfl : i = j := by omega
    exact ⟨i, n, h2, h4, h5, h6, rfl⟩
  | succ d ih =>
    intro n i j h1 hn h2 h3 h4 h5 h6
    obtain ⟨n, rfl⟩ := Nat.exists_eq_succ_of_ne_zero (by omega : n ≠ 0)
    by_cases hij : i = j
    · subst hij; exact ⟨i, n, h2, h4, h5, h6, rfl⟩
    have hh := yc (i + j) (x := (i : Int) + (j : Int)) (by omega) (by omega)
    obtain ⟨x, y, r, e1, e2, e3, e4⟩ := hpr ((i + j) / 2) (by omega) (by omega)
    rw [cK]
    have hlt : ((i : Int) < (j : Int)) := by omega
    simp only [hlt, decide_true, if_true, hh, e1, e2, e3, e4, Option.bind_some, Bool.not_not]
    cases hp : pr ((i + j) / 2)
    · simp only [Bool.false_eq_true, if_false]
      exact ih n i ((i + j) / 2) (by omega) (by omega) h2 (by omega) (by omega) h5 (.inr hp)
    · simp only [if_true]
      rw [fU ((i + j) / 2 + 1) (by omega) (by omega)]
      exact ih n ((i + j) / 2 + 1) j (by omega) (by omega) (by omega) (by omega) h4 (.inr (by simpa using hp)) h6
theorem Kw (x : aB) : ∀ (P Q R : List aB) (n : Nat) (k i : Int), P.length < n → (Q ++ x :: (P ++ R)).length ≤ 1000000 → k = (Q.length : Int) → i = ((Q.length + P.length + 1 : Nat) : Int) → dM i n (Q ++ x :: (P ++ R)) k = some (Q ++ (P ++ x :: R))
  | [], Q, R, n, k, i, hn, hl, hk, hi => by
    obtain ⟨n, rfl⟩ := Nat.exists_eq_succ_of_ne_zero (by simp at hn; omega : n ≠ 0)
    simp only [List.length_append, List.length_cons, List.length_nil] at hl hi
    rw [dM, fU Q.length (by omega) (by omega)]
    have : ¬ (k < (Q.length : Int)) := by omega
    simp [this]
  | y :: P, Q, R, n, k, i, hn, hl, hk, hi => by
    obtain ⟨n, rfl⟩ := Nat.exists_eq_succ_of_ne_zero (by simp at hn; omega : n ≠ 0)
    simp only [List.length_append, List.length_cons] at hl hi hn
    have e0 : Q ++ x :: (y :: P ++ R) = Q ++ x :: ([] ++ y :: (P ++ R)) := rfl
    have w1 : IntKind.i64.wrap (k + 1) = ((Q.length + 1 + ([] : List aB).length : Nat) : Int) := fU _ (by simp; omega) (by simp; omega)
    have i1 : dK (Q ++ x :: ([] ++ y :: (P ++ R))) ((Q.length + 1 + ([] : List aB).length : Nat) : Int) = some y := by
      have := fO (Q ++ [x]) y (P ++ R) ((Q.length + 1 + ([] : List aB).length : Nat) : Int) (by simp)
      simpa using this
    have i2 : dK (Q ++ x :: ([] ++ y :: (P ++ R))) k = some x := fO _ _ _ _ hk
    rw [dM, fU (Q.length + P.length + 1) (by omega) (by omega), e0]
    have hlt : k < ((Q.length + P.length + 1 : Nat) : Int) := by omega
    have kn : k.toNat = Q.length := by omega
    simp only [hlt, decide_true, if_true, w1, i1, i2, Option.bind_some, kn]
    have i3 : dK ((Q ++ x :: ([] ++ y :: (P ++ R))).set Q.length y) ((Q.length + 1 + ([] : List aB).length : Nat) : Int) = some y := by
      rw [zT]
      have := fO (Q ++ [y]) y (P ++ R) ((Q.length + 1 + ([] : List aB).length : Nat) : Int) (by simp)
      simpa using this
    rw [i3, Option.bind_some, Int.toNat_natCast, Fw, AZ]
    have := Kw x P (Q ++ [y]) R n ((Q.length + 1 + ([] : List aB).length : Nat) : Int) i (by omega) (by simp; omega) (by simp) (by rw [hi]; simp; omega)
    simpa using this
theorem KZ (x : aB) : ∀ (k : Nat) (S Q R : List aB) (n : Nat) (j i : Int), S.length = k → k < n → (Q ++ (S ++ x :: R)).length ≤ 1000000 → j = ((Q.length + S.length : Nat) : Int) → i = (Q.length : Int) → dN i n (Q ++ (S ++ x :: R)) j = some (Q ++ x :: (S ++ R)) := by
  intro k
  induction k with
  | zero =>
    intro S Q R n j i hk hn hl hj hi
    obtain ⟨n, rfl⟩ := Nat.exists_eq_succ_of_ne_zero (by omega : n ≠ 0)
    obtain rfl := List.eq_nil_of_length_eq_zero hk
    rw [dN]
    simp only [List.length_nil, Nat.add_zero] at hj
    have : ¬ (j > i) := by omega
    simp [this]
  | succ k ih =>
    intro S Q R n j i hk hn hl hj hi
    obtain ⟨n, rfl⟩ := Nat.exists_eq_succ_of_ne_zero (by omega : n ≠ 0)
    rcases List.eq_nil_or_concat S with rfl | ⟨S, z, rfl⟩
    · simp at hk
    simp only [List.concat_eq_append, List.length_append, List.length_cons, List.length_nil] at hk hj hl ⊢
    have e0 : Q ++ (S ++ [z] ++ x :: R) = (Q ++ S) ++ z :: ([] ++ x :: R) := by simp
    have w1 : IntKind.i64.wrap (j - 1) = ((Q ++ S).length : Int) := fU _ (by simp; omega) (by simp; omega)
    have hj' : j = (((Q ++ S).length + 1 + ([] : List aB).length : Nat) : Int) := by rw [hj]; simp; omega
    have i1 : dK ((Q ++ S) ++ z :: ([] ++ x :: R)) j = some x := by
      have := fO (Q ++ S ++ [z]) x R j (by rw [hj']; simp; omega)
      simpa using this
    have i2 : dK ((Q ++ S) ++ z :: ([] ++ x :: R)) ((Q ++ S).length : Int) = some z := fO _ _ _ _ rfl
    rw [dN, e0]
    have hlt : j > i := by omega
    have jn : j.toNat = (Q ++ S).length + 1 + ([] : List aB).length := by omega
    simp only [hlt, decide_true, if_true, w1, i1, i2, Option.bind_some, jn]
    have i3 : dK (((Q ++ S) ++ z :: ([] ++ x :: R)).set ((Q ++ S).length + 1 + ([] : List aB).length) z) ((Q ++ S).length : Int) = some z := by
      have : ((Q ++ S) ++ z :: ([] ++ x :: R)).set ((Q ++ S).length + 1 + ([] : List aB).length) z = (Q ++ S) ++ z :: (z :: R) := by
        have := Do (Q ++ S ++ [z]) R x z ((Q ++ S).length + 1 + ([] : List aB).length) (by simp; omega)
        simpa using this
      rw [this]; exact fO _ _ _ _ rfl
    rw [i3, Option.bind_some, Int.toNat_natCast, Fw, GH]
    have := ih S Q (z :: R) n ((Q ++ S).length : Int) i (by omega) (by omega) (by simp; omega) (by simp) hi
    simpa using this
end
end Go.Proofs.YtmlncblocfcmiaaGreat
namespace Go.Proofs.YtmlncblocfcmiaaGreat
open Go.RowKit
section
variable {c : aB → aB → Int} {G : aB → Prop} {f : aB × aB → Option Int}
theorem Kv (a0 : List aB) (a1 a3 a2 : Int) (rec : List aB → Int → Int → Int → ((aB × aB) → Option Int) → Option (List aB)) (mid m p : Nat) (hmid : a1 + a3 = ((2 * mid : Nat) : Int) ∨ a1 + a3 = ((2 * mid + 1 : Nat) : Int)) (hm : a2 = (m : Int)) (hp : p + 1 = mid + m)
    (pr : Nat → Bool) (lo hi : Nat) (hhi : hi ≤ 1000000) (hmd : mid ≤ 1000000) (hmb : mid + m ≤ 2000000) (hle : hi ≤ p + 1) (hpr : ∀ h, lo ≤ h → h < hi → Ask a0 f ((p - h : Nat) : Int) (h : Int) (!pr h)) : ∀ (d n i j : Nat), j - i ≤ d → d < n → lo ≤ i → i ≤ j → j ≤ hi → (i = lo ∨ pr (i - 1) = true) → (j = hi ∨ pr j = false) →
    ∃ t n', lo ≤ t ∧ t ≤ hi ∧ (t = lo ∨ pr (t - 1) = true) ∧ (t = hi ∨ pr t = false) ∧ bZ a0 a1 a3 a2 f rec n (i : Int) (j : Int) = bZ a0 a1 a3 a2 f rec (n' + 1) (t : Int) (t : Int) := by
  have hmid' : IntKind.i64.wrap (Int.fdiv (IntKind.u64.wrap (IntKind.i64.wrap (a1 + a3))) (2 ^ min (Int.toNat 1) (IntKind.bits .u64))) = (mid : Int) := by
    rcases hmid with h | h
    · rw [yc _ h (by omega), show 2 * mid / 2 = mid by omega]
    · rw [yc _ h (by omega), show (2 * mid + 1) / 2 = mid by omega]
  intro d
  induction d with
  | zero =>
    intro n i j h1 hn h2 h3 h4 h5 h6
    obtain ⟨n, rfl⟩ := Nat.exists_eq_succ_of_ne_zero (by omega : n ≠ 0)
    obtain rfl : i = j := by omega
    exact ⟨i, n, h2, h4, h5, h6, rfl⟩
  | succ d ih =>
    intro n i j h1 hn h2 h3 h4 h5 h6
    obtain ⟨n, rfl⟩ := Nat.exists_eq_succ_of_ne_zero (by omega : n ≠ 0)
    by_cases hij : i = j
    · subst hij; exact ⟨i, n, h2, h4, h5, h6, rfl⟩
    have hh := yc (i + j) (x := (i : Int) + (j : Int)) (by omega) (by omega)
    obtain ⟨x, y, r, e1, e2, e3, e4⟩ := hpr ((i + j) / 2) (by omega) (by omega)
    have w1 : IntKind.i64.wrap ((mid : Int) + a2) = ((mid + m : Nat) : Int) := fU _ (by omega) (by omega)
    have w2 : IntKind.i64.wrap (((mid + m : Nat) : Int) - 1) = (p : Int) := fU _ (by omega) (by omega)
    have w3 : IntKind.i64.wrap ((p : Int) - (((i + j) / 2 : Nat) : Int)) = ((p - (i + j) / 2 : Nat) : Int) := fU _ (by omega) (by omega)
    rw [bZ]
    have hlt : ((i : Int) < (j : Int)) := by omega
    simp only [hlt, decide_true, if_true, hh, hmid', w1, w2, w3, e1, e2, e3, e4, Option.bind_some, Bool.not_not]
    cases hpp : pr ((i + j) / 2)
    · simp only [Bool.false_eq_true, if_false]
      exact ih n i ((i + j) / 2) (by omega) (by omega) h2 (by omega) (by omega) h5 (.inr hpp)
    · simp only [if_true]
      rw [fU ((i + j) / 2 + 1) (by omega) (by omega)]
      exact ih n ((i + j) / 2 + 1) j (by omega) (by omega) (by omega) (by omega) h4 (.inr (by simpa using hpp)) h6
theorem JY (a0 : List aB) (a1 a3 a2 : Int) (rec : List aB → Int → Int → Int → ((aB × aB) → Option Int) → Option (List aB)) (mid m t : Nat) (n : Nat) (hmid : a1 + a3 = ((2 * mid : Nat) : Int) ∨ a1 + a3 = ((2 * mid + 1 : Nat) : Int)) (hm : a2 = (m : Int)) (hmd : mid ≤ 1000000) (hmb : mid + m ≤ 2000000) (ht : t ≤ mid + m) :
    bZ a0 a1 a3 a2 f rec (n + 1) (t : Int) (t : Int) =
      ((if t < m ∧ m < mid + m - t then eF a0 (t : Int) a2 ((mid + m - t : Nat) : Int) f else some a0).bind fun l => ((if a1 < (t : Int) ∧ t < mid then rec l a1 (t : Int) (mid : Int) f else some l).bind fun l => if mid < mid + m - t ∧ ((mid + m - t : Nat) : Int) < a3 then rec l (mid : Int) ((mid + m - t : Nat) : Int) a3 f else some l)) := by
  have hmid' : IntKind.i64.wrap (Int.fdiv (IntKind.u64.wrap (IntKind.i64.wrap (a1 + a3))) (2 ^ min (Int.toNat 1) (IntKind.bits .u64))) = (mid : Int) := by
    rcases hmid with h | h
    · rw [yc _ h (by omega), show 2 * mid / 2 = mid by omega]
    · rw [yc _ h (by omega), show (2 * mid + 1) / 2 = mid by omega]
  have w1 : IntKind.i64.wrap ((mid : Int) + a2) = ((mid + m : Nat) : Int) := fU _ (by omega) (by omega)
  have w2 : IntKind.i64.wrap (((mid + m : Nat) : Int) - (t : Int)) = ((mid + m - t : Nat) : Int) := fU _ (by omega) (by omega)
  rw [bZ]
  simp only [Int.lt_irrefl, decide_false, Bool.false_eq_true, if_false, hmid', w1, w2, kL]
  subst hm
  have e1 : ((t : Int) < (m : Int)) = (t < m) := by simp
  have e2 : ((m : Int) < ((mid + m - t : Nat) : Int)) = (m < mid + m - t) := by rw [eq_iff_iff]; omega
  have e3 : ((t : Int) < (mid : Int)) = (t < mid) := by simp
  have e4 : ((mid : Int) < ((mid + m - t : Nat) : Int)) = (mid < mid + m - t) := by rw [eq_iff_iff]; omega
  simp only [e1, e2, e3, e4]
  have key : ∀ (p q : Prop) [Decidable p] [Decidable q] (A B : Option (List aB)), ((if decide p = true then some (decide q) else some false : Option Bool).bind fun x => if x = true then A else B) = if p ∧ q then A else B := by
    intro p q _ _ A B
    by_cases hp : p <;> by_cases hq : q <;> simp [hp, hq]
  simp only [key]
theorem FA (p A q : List aB) (h : Nat) (h0 : p.length ≤ h) (h1 : h < p.length + A.length) : ∃ x, A[h - p.length]? = some x ∧ dK (p ++ (A ++ q)) (h : Int) = some x := by
  obtain ⟨x, hx⟩ : ∃ x, A[h - p.length]? = some x := ⟨_, List.getElem?_eq_getElem (by omega)⟩
  refine ⟨x, hx, ?_⟩
  rw [zM, List.getElem?_append_right h0, List.getElem?_append_left (by omega), hx]
end
end Go.Proofs.YtmlncblocfcmiaaGreat
namespace Go.Proofs.YtmlncblocfcmiaaGreat
open Go.RowKit
section
variable {c : aB → aB → Int} {G : aB → Prop} {f : aB × aB → Option Int}
theorem yg {α : Type} {P A' : List α} {z : α} (S : List α) (h : P = A' ++ [z]) : (P ++ S)[P.length - 1]? = some z := by subst h; simp
theorem yu {α : Type} {S B' : List α} {z : α} (P : List α) (h : S = z :: B') : (P ++ S)[P.length]? = some z := by subst h; simp
theorem ua {A : List (aB × Nat)} {i : Nat} {z : aB × Nat} (h : A[i]? = some z) : (A.map (·.1))[i]? = some z.1 := by simp [h]
theorem Ks (h : SWO (iF c)) (hf : xS f c G) (x : aB × Nat) (B : List (aB × Nat)) (pre post : List aB) (a m b : Int) (hB : iJ (iF c) B) (ht : ∀ y ∈ B, x.2 < y.2) (hG : ∀ y ∈ x :: B, G y.1)
    (hl : (pre ++ x.1 :: (B.map (·.1) ++ post)).length ≤ 400000) (ha : a = (pre.length : Int)) (hm : m = ((pre.length + 1 : Nat) : Int)) (hb : b = ((pre.length + 1 + B.length : Nat) : Int)) :
    ∃ u, cJ (pre ++ x.1 :: (B.map (·.1) ++ post)) a f cE m b = some (pre ++ (u.map (·.1) ++ post)) ∧ iJ (iF c) u ∧ u.Perm (x :: B) := by
  have hl2 := hl
  simp only [List.length_append, List.length_cons, List.length_map] at hl2
  let pr : Nat → Bool := fun k => match (B.map (·.1))[k - (pre.length + 1)]? with | some y => iF c y x.1 | none => false
  have hask : ∀ k, pre.length + 1 ≤ k → k < pre.length + 1 + B.length → Ask (pre ++ x.1 :: (B.map (·.1) ++ post)) f (k : Int) a (pr k) := by
    intro k h1 h2
    obtain ⟨y, e1, e2⟩ := FA (pre ++ [x.1]) (B.map (·.1)) post k (by simp; omega) (by simp; omega)
    have e3 : dK (pre ++ x.1 :: (B.map (·.1) ++ post)) (k : Int) = some y := by simpa using e2
    have e4 : dK (pre ++ x.1 :: (B.map (·.1) ++ post)) a = some x.1 := fO _ _ _ _ ha
    have hy : G y := by
      obtain ⟨q, hq, rfl⟩ := List.mem_map.1 (List.mem_of_getElem? e1)
      exact hG q (by simp [hq])
    refine ⟨y, x.1, _, e3, e4, hf y x.1 hy (hG x (by simp)), ?_⟩
    simp only [List.length_append, List.length_cons, List.length_nil] at e1
    simp only [pr, e1]
  obtain ⟨t, n', t1, t2, t3, t4, e⟩ := KY (f := f) _ a pr (pre.length + 1) (pre.length + 1 + B.length) (by omega) hask B.length cE (pre.length + 1) (pre.length + 1 + B.length) (by omega) (by rw [gw]; omega) (Nat.le_refl _) (by omega) (Nat.le_refl _) (.inl rfl) (.inl rfl)
  rw [hm, hb, e, cJ]
  simp only [Int.lt_irrefl, decide_false, Bool.false_eq_true, if_false, kL]
  obtain ⟨P, S, rfl, hP⟩ := sd (l := B) (n := t - (pre.length + 1)) (by omega)
  simp only [List.length_append] at hl2 t2 t4
  have e5 : pre ++ x.1 :: ((P ++ S).map (·.1) ++ post) = pre ++ x.1 :: (P.map (·.1) ++ (S.map (·.1) ++ post)) := by simp
  rw [e5, Kw x.1 (P.map (·.1)) pre (S.map (·.1) ++ post) cE a (t : Int) (by rw [gw]; simp; omega) (by simp; omega) ha (by simp; omega)]
  refine ⟨P ++ x :: S, by simp, BV h hB ?_ ?_, List.perm_middle⟩
  · intro A' z b' B' hA hB'
    simp only [List.cons.injEq] at hB'
    rw [← hB'.1]
    have hPl : 0 < P.length := by rw [hA]; simp
    have hp : pr (t - 1) = true := by
      rcases t3 with t3 | t3
      · omega
      · exact t3
    have hg := ua (yg S hA)
    rw [show P.length - 1 = t - 1 - (pre.length + 1) by omega] at hg
    simp only [pr, hg] at hp
    exact .inl hp
  · intro A' z b' B' hA hB'
    have hz : z = x := by
      cases A' with
      | nil => simpa using hA.symm
      | cons _ A' => simp at hA
    rw [hz]
    have hSl : 0 < S.length := by rw [hB']; simp
    have hp : pr t = false := by
      rcases t4 with t4 | t4
      · omega
      · exact t4
    have hg := ua (yu P hB')
    rw [hP] at hg
    simp only [pr, hg] at hp
    exact .inr ⟨hp, ht b' (by rw [hB']; simp)⟩
theorem Ka (h : SWO (iF c)) (hf : xS f c G) (y : aB × Nat) (A : List (aB × Nat)) (pre post : List aB) (a m : Int) (hA : iJ (iF c) A) (ht : ∀ x ∈ A, x.2 < y.2) (hG : ∀ x ∈ y :: A, G x.1)
    (hl : (pre ++ (A.map (·.1) ++ y.1 :: post)).length ≤ 400000) (ha : a = (pre.length : Int)) (hm : m = ((pre.length + A.length : Nat) : Int)) :
    ∃ u, cK (pre ++ (A.map (·.1) ++ y.1 :: post)) m f cE a m = some (pre ++ (u.map (·.1) ++ post)) ∧ iJ (iF c) u ∧ u.Perm (A ++ [y]) := by
  have hl2 := hl
  simp only [List.length_append, List.length_cons, List.length_map] at hl2
  let pr : Nat → Bool := fun k => match (A.map (·.1))[k - pre.length]? with | some x => !iF c y.1 x | none => false
  have hask : ∀ k, pre.length ≤ k → k < pre.length + A.length → Ask (pre ++ (A.map (·.1) ++ y.1 :: post)) f m (k : Int) (!pr k) := by
    intro k h1 h2
    obtain ⟨x, e1, e2⟩ := FA pre (A.map (·.1)) (y.1 :: post) k h1 (by simp; omega)
    have e4 : dK (pre ++ (A.map (·.1) ++ y.1 :: post)) m = some y.1 := by
      have := fO (pre ++ A.map (·.1)) y.1 post m (by rw [hm]; simp)
      simpa using this
    have hx : G x := by
      obtain ⟨q, hq, rfl⟩ := List.mem_map.1 (List.mem_of_getElem? e1)
      exact hG q (by simp [hq])
    refine ⟨y.1, x, _, e4, e2, hf y.1 x (hG y (by simp)) hx, ?_⟩
    simp only [pr, e1, Bool.not_not]
  obtain ⟨t, n', t1, t2, t3, t4, e⟩ := KV (f := f) _ m pr pre.length (pre.length + A.length) (by omega) hask A.length cE pre.length (pre.length + A.length) (by omega) (by rw [gw]; omega) (Nat.le_refl _) (by omega) (Nat.le_refl _) (.inl rfl) (.inl rfl)
  rw [← hm, ← ha] at e
  rw [e, cK]
  simp only [Int.lt_irrefl, decide_false, Bool.false_eq_true, if_false, kL]
  obtain ⟨P, S, rfl, hP⟩ := sd (l := A) (n := t - pre.length) (by omega)
  simp only [List.length_append] at hl2 t2 t4 hm
  have e5 : pre ++ ((P ++ S).map (·.1) ++ y.1 :: post) = (pre ++ P.map (·.1)) ++ (S.map (·.1) ++ y.1 :: post) := by simp
  rw [e5, KZ y.1 S.length (S.map (·.1)) (pre ++ P.map (·.1)) post cE m (t : Int) (by simp) (by rw [gw]; omega) (by simp; omega) (by rw [hm]; simp; omega) (by simp; omega)]
  refine ⟨P ++ y :: S, by simp, BV h hA ?_ ?_, List.perm_middle.trans (List.perm_append_singleton y (P ++ S)).symm⟩
  · intro A' z b' B' hA' hB'
    simp only [List.cons.injEq] at hB'
    rw [← hB'.1]
    have hPl : 0 < P.length := by rw [hA']; simp
    have hp : pr (t - 1) = true := by
      rcases t3 with t3 | t3
      · omega
      · exact t3
    have hg := ua (yg S hA')
    rw [show P.length - 1 = t - 1 - pre.length by omega] at hg
    simp only [pr, hg, Bool.not_eq_true'] at hp
    exact .inr ⟨hp, ht z (by rw [hA']; simp)⟩
  · intro A' z b' B' hA' hB'
    have hz : z = y := by
      cases A' with
      | nil => simpa using hA'.symm
      | cons _ A' => simp at hA'
    rw [hz]
    have hSl : 0 < S.length := by rw [hB']; simp
    have hp : pr t = false := by
      rcases t4 with t4 | t4
      · omega
      · exact t4
    have hg := ua (yu P hB')
    rw [hP] at hg
    simp only [pr, hg, Bool.not_eq_false'] at hp
    exact .inl hp
theorem HB {α : Type} {A1 A2 B1 B2 C1 C2 : List α} (p1 : C1.Perm (A1 ++ B1)) (p2 : C2.Perm (A2 ++ B2)) : (C1 ++ C2).Perm ((A1 ++ A2) ++ (B1 ++ B2)) := by
  refine (p1.append p2).trans ?_
  simp only [List.append_assoc]
  refine List.Perm.append_left A1 ?_
  exact List.perm_append_comm_assoc B1 A2 B2
def H1 (c : aB → aB → Int) (A B : List aB) (ia im p q : Nat) : Bool := match A[q - ia]?, B[p - q - im]? with | some x, some y => !iF c y x | _, _ => false
theorem DR {A B : List aB} {ia im p q : Nat} {x y : aB} (h1 : A[q - ia]? = some x) (h2 : B[p - q - im]? = some y) : H1 c A B ia im p q = !iF c y x := by simp only [H1, h1, h2]
theorem KE (hf : xS f c G) (A B : List (aB × Nat)) (pre post : List aB) (im p : Nat) (him : im = pre.length + A.length) (hG : ∀ x ∈ A ++ B, G x.1) (q : Nat) (q1 : pre.length ≤ q) (q2 : q < im) (q3 : im ≤ p - q) (q4 : p - q < im + B.length) :
    Ask (pre ++ (A.map (·.1) ++ (B.map (·.1) ++ post))) f ((p - q : Nat) : Int) (q : Int) (!H1 c (A.map (·.1)) (B.map (·.1)) pre.length im p q) := by
  obtain ⟨x, e1, e2⟩ := FA pre (A.map (·.1)) (B.map (·.1) ++ post) q q1 (by simp; omega)
  obtain ⟨y, e3, e4⟩ := FA (pre ++ A.map (·.1)) (B.map (·.1)) post (p - q) (by simp; omega) (by simp; omega)
  have hx : G x := by
    obtain ⟨z, hz, rfl⟩ := List.mem_map.1 (List.mem_of_getElem? e1)
    exact hG z (by simp [hz])
  have hy : G y := by
    obtain ⟨z, hz, rfl⟩ := List.mem_map.1 (List.mem_of_getElem? e3)
    exact hG z (by simp [hz])
  have e5 : dK (pre ++ (A.map (·.1) ++ (B.map (·.1) ++ post))) ((p - q : Nat) : Int) = some y := by simpa using e4
  refine ⟨y, x, _, e5, e2, hf y x hy hx, ?_⟩
  rw [show p - q - (pre ++ A.map (·.1)).length = p - q - im by simp; omega] at e3
  rw [DR e1 e3, Bool.not_not]
abbrev Lb (c : aB → aB → Int) (G : aB → Prop) (f : aB × aB → Option Int) (rec : List aB → Int → Int → Int → ((aB × aB) → Option Int) → Option (List aB)) (k : Nat) : Prop :=
  ∀ (A B : List (aB × Nat)) (pre post : List aB) (a m b : Int), A.length + B.length ≤ k → 0 < A.length → 0 < B.length → iJ (iF c) A → iJ (iF c) B →
    (∀ x ∈ A, ∀ y ∈ B, x.2 < y.2) → (∀ x ∈ A ++ B, G x.1) → (pre ++ (A.map (·.1) ++ (B.map (·.1) ++ post))).length ≤ 400000 → a = (pre.length : Int) → m = ((pre.length + A.length : Nat) : Int) → b = ((pre.length + A.length + B.length : Nat) : Int) →
    ∃ u, rec (pre ++ (A.map (·.1) ++ (B.map (·.1) ++ post))) a m b f = some (pre ++ (u.map (·.1) ++ post)) ∧ iJ (iF c) u ∧ u.Perm (A ++ B)
theorem Jf (h : SWO (iF c)) {rec : List aB → Int → Int → Int → ((aB × aB) → Option Int) → Option (List aB)} {k : Nat} (ih : Lb c G f rec k) (A1 A2 B1 B2 : List (aB × Nat)) (pre post : List aB) (a m b : Int) (mid im t : Nat)
    (him : im = pre.length + (A1.length + A2.length)) (hmd : mid = (pre.length + (im + (B1.length + B2.length))) / 2) (hA1 : A1.length = t - pre.length) (hB1 : B1.length = mid - t) (ht1 : pre.length ≤ t) (ht2 : t ≤ mid) (ht3 : t ≤ im) (hk : A1.length + A2.length + (B1.length + B2.length) ≤ k + 1) (hk2 : 2 ≤ A1.length + A2.length + (B1.length + B2.length))
    (hA : iJ (iF c) (A1 ++ A2)) (hB : iJ (iF c) (B1 ++ B2)) (ht : ∀ x ∈ A1 ++ A2, ∀ y ∈ B1 ++ B2, x.2 < y.2) (hG : ∀ x ∈ (A1 ++ A2) ++ (B1 ++ B2), G x.1) (hl : pre.length + (A1.length + A2.length + (B1.length + B2.length + post.length)) ≤ 400000)
    (ha : a = (pre.length : Int)) (hm : m = (im : Int)) (hb : b = ((im + (B1.length + B2.length) : Nat) : Int)) (l1 : Lk (iF c) A1 B2) (l2 : Lk (iF c) B1 A2) :
    ∃ u, ((if t < im ∧ im < mid + im - t then eF (pre ++ ((A1 ++ A2).map (·.1) ++ ((B1 ++ B2).map (·.1) ++ post))) (t : Int) m ((mid + im - t : Nat) : Int) f else some (pre ++ ((A1 ++ A2).map (·.1) ++ ((B1 ++ B2).map (·.1) ++ post)))).bind fun l =>
      ((if a < (t : Int) ∧ t < mid then rec l a (t : Int) (mid : Int) f else some l).bind fun l => if mid < mid + im - t ∧ ((mid + im - t : Nat) : Int) < b then rec l (mid : Int) ((mid + im - t : Nat) : Int) b f else some l)) = some (pre ++ (u.map (·.1) ++ post)) ∧ iJ (iF c) u ∧ u.Perm ((A1 ++ A2) ++ (B1 ++ B2)) := by
  have r1 : (if t < im ∧ im < mid + im - t then eF (pre ++ ((A1 ++ A2).map (·.1) ++ ((B1 ++ B2).map (·.1) ++ post))) (t : Int) m ((mid + im - t : Nat) : Int) f else some (pre ++ ((A1 ++ A2).map (·.1) ++ ((B1 ++ B2).map (·.1) ++ post)))) =
      some (pre ++ (A1.map (·.1) ++ (B1.map (·.1) ++ (A2.map (·.1) ++ (B2.map (·.1) ++ post))))) := by
    by_cases hc : t < im ∧ im < mid + im - t
    · rw [if_pos hc]
      have := Lg (f := f) (A2.map (·.1)) (B1.map (·.1)) (pre ++ A1.map (·.1)) (B2.map (·.1) ++ post) (t : Int) m ((mid + im - t : Nat) : Int) (by simp; omega) (by simp; omega) (by simp; omega) (by simp; omega) (by simp; omega) (by simp; omega)
      simpa using this
    · rw [if_neg hc]
      have : A2 = [] ∨ B1 = [] := by
        by_cases h1 : A2.length = 0
        · exact .inl (List.eq_nil_of_length_eq_zero h1)
        · exact .inr (List.eq_nil_of_length_eq_zero (by omega))
      rcases this with rfl | rfl <;> simp
  rw [r1, Option.bind_some]
  have r2 : ∃ C1, (if a < (t : Int) ∧ t < mid then rec (pre ++ (A1.map (·.1) ++ (B1.map (·.1) ++ (A2.map (·.1) ++ (B2.map (·.1) ++ post))))) a (t : Int) (mid : Int) f else some (pre ++ (A1.map (·.1) ++ (B1.map (·.1) ++ (A2.map (·.1) ++ (B2.map (·.1) ++ post)))))) =
      some (pre ++ (C1.map (·.1) ++ (A2.map (·.1) ++ (B2.map (·.1) ++ post)))) ∧ iJ (iF c) C1 ∧ C1.Perm (A1 ++ B1) := by
    by_cases hc : a < (t : Int) ∧ t < mid
    · rw [if_pos hc]
      exact ih A1 B1 pre (A2.map (·.1) ++ (B2.map (·.1) ++ post)) a t mid (by omega) (by omega) (by omega) hA.left hB.left (fun x hx y hy => ht x (by simp [hx]) y (by simp [hy])) (fun x hx => hG x (by simp at hx ⊢; rcases hx with hx | hx <;> simp [hx]))
        (by simp; omega) ha (by omega) (by omega)
    · rw [if_neg hc]
      refine ⟨A1 ++ B1, by simp, DQ h hA.left hB.left (fun A' x y B' q1 q2 => ?_), .refl _⟩
      have g1 : 0 < A1.length := by rw [q1]; simp
      have g2 : 0 < B1.length := by rw [q2]; simp
      omega
  obtain ⟨C1, c1e, c1s, c1p⟩ := r2
  have c1l := c1p.length_eq
  simp only [List.length_append] at c1l
  rw [c1e, Option.bind_some]
  have r3 : ∃ C2, (if mid < mid + im - t ∧ ((mid + im - t : Nat) : Int) < b then rec (pre ++ (C1.map (·.1) ++ (A2.map (·.1) ++ (B2.map (·.1) ++ post)))) (mid : Int) ((mid + im - t : Nat) : Int) b f else some (pre ++ (C1.map (·.1) ++ (A2.map (·.1) ++ (B2.map (·.1) ++ post))))) =
      some ((pre ++ C1.map (·.1)) ++ (C2.map (·.1) ++ post)) ∧ iJ (iF c) C2 ∧ C2.Perm (A2 ++ B2) := by
    by_cases hc : mid < mid + im - t ∧ ((mid + im - t : Nat) : Int) < b
    · rw [if_pos hc]
      have := ih A2 B2 (pre ++ C1.map (·.1)) post mid ((mid + im - t : Nat) : Int) b (by omega) (by omega) (by omega) hA.right hB.right (fun x hx y hy => ht x (by simp [hx]) y (by simp [hy])) (fun x hx => hG x (by simp at hx ⊢; rcases hx with hx | hx <;> simp [hx]))
        (by simp; omega) (by simp; omega) (by simp; omega) (by simp; omega)
      simpa using this
    · rw [if_neg hc]
      refine ⟨A2 ++ B2, by simp, DQ h hA.right hB.right (fun A' x y B' q1 q2 => ?_), .refl _⟩
      have g1 : 0 < A2.length := by rw [q1]; simp
      have g2 : 0 < B2.length := by rw [q2]; simp
      omega
  obtain ⟨C2, c2e, c2s, c2p⟩ := r3
  rw [c2e]
  exact ⟨C1 ++ C2, by simp, IS h hA hB l1 l2 c1p c2p c1s c2s, HB c1p c2p⟩
theorem HI (F : Nat) (hF : 1000000 < F) (L : List aB) (rec : List aB → Int → Int → Int → ((aB × aB) → Option Int) → Option (List aB)) (pl al bl mid im p : Nat) (a b m : Int) (pr : Nat → Bool) (hal : 0 < al) (hbl : 0 < bl) (hsz : pl + (al + bl) ≤ 400000) (hmd : mid = (pl + (pl + al + bl)) / 2) (him : im = pl + al) (hp : p + 1 = mid + im)
    (hab : a + b = ((2 * mid : Nat) : Int) ∨ a + b = ((2 * mid + 1 : Nat) : Int)) (ha : a = (pl : Int)) (hm' : m = (im : Int)) (hb : b = ((pl + al + bl : Nat) : Int)) (hask : ∀ q, pl ≤ q → q < im → im ≤ p - q → p - q < im + bl → Ask L f ((p - q : Nat) : Int) (q : Int) (!pr q)) :
    ∃ t n' lo hi : Nat, (lo = pl ∧ hi = im ∧ im ≤ mid ∨ lo + (pl + al + bl) = mid + im ∧ hi = mid ∧ mid < im) ∧ lo ≤ t ∧ t ≤ hi ∧ (t = lo ∨ pr (t - 1) = true) ∧ (t = hi ∨ pr t = false) ∧
        ((if decide (m > (mid : Int)) then some (IntKind.i64.wrap (((mid + im : Nat) : Int) - b), (mid : Int)) else some (a, m) : Option (Int × Int)).bind fun x => bZ L a b m f rec F x.1 x.2) =
          bZ L a b m f rec (n' + 1) (t : Int) (t : Int) := by
  by_cases hmm : mid < im
  · obtain ⟨lo, hlo⟩ : ∃ lo : Nat, lo + (pl + al + bl) = mid + im := ⟨mid + im - (pl + al + bl), by omega⟩
    obtain ⟨t, n', t1, t2, t3, t4, e⟩ := Kv (f := f) L a b m rec mid im p hab hm' hp pr lo mid (by omega) (by omega) (by omega) (by omega) (fun q q1 q2 => hask q (by omega) (by omega) (by omega) (by omega))
      (mid - lo) F lo mid (Nat.le_refl _) (by omega) (Nat.le_refl _) (by omega) (Nat.le_refl _) (.inl rfl) (.inl rfl)
    refine ⟨t, n', lo, mid, .inr ⟨hlo, rfl, hmm⟩, t1, t2, t3, t4, ?_⟩
    have hgt : m > (mid : Int) := by omega
    simp only [hgt, decide_true, if_true, Option.bind_some]
    rw [fU lo (by omega) (by omega), e]
  · obtain ⟨t, n', t1, t2, t3, t4, e⟩ := Kv (f := f) L a b m rec mid im p hab hm' hp pr pl im (by omega) (by omega) (by omega) (by omega) (fun q q1 q2 => hask q (by omega) (by omega) (by omega) (by omega))
      (im - pl) F pl im (Nat.le_refl _) (by omega) (Nat.le_refl _) (by omega) (Nat.le_refl _) (.inl rfl) (.inl rfl)
    refine ⟨t, n', pl, im, .inl ⟨rfl, rfl, by omega⟩, t1, t2, t3, t4, ?_⟩
    have hgt : ¬ (m > (mid : Int)) := by omega
    simp only [hgt, decide_false, Bool.false_eq_true, if_false, Option.bind_some]
    rw [← e, ← ha, ← hm']
set_option maxHeartbeats 2000000 in
theorem KP (h : SWO (iF c)) (hf : xS f c G) : ∀ (k : Nat) (A B : List (aB × Nat)) (pre post : List aB) (n : Nat) (a m b : Int), A.length + B.length ≤ k → 0 < A.length → 0 < B.length → k < n → iJ (iF c) A → iJ (iF c) B →
    (∀ x ∈ A, ∀ y ∈ B, x.2 < y.2) → (∀ x ∈ A ++ B, G x.1) → (pre ++ (A.map (·.1) ++ (B.map (·.1) ++ post))).length ≤ 400000 → a = (pre.length : Int) → m = ((pre.length + A.length : Nat) : Int) → b = ((pre.length + A.length + B.length : Nat) : Int) →
    ∃ u, cZ n (pre ++ (A.map (·.1) ++ (B.map (·.1) ++ post))) a m b f = some (pre ++ (u.map (·.1) ++ post)) ∧ iJ (iF c) u ∧ u.Perm (A ++ B) := by
  intro k
  induction k with
  | zero => intro A B pre post n a m b h0 h1 h2; omega
  | succ k ih =>
    intro A B pre post n a m b h0 h1 h2 hn hA hB ht hG hl ha hm hb
    obtain ⟨n, rfl⟩ := Nat.exists_eq_succ_of_ne_zero (by omega : n ≠ 0)
    have hl2 := hl
    simp only [List.length_append, List.length_map] at hl2
    rw [cZ]
    unfold gK
    by_cases c1 : A.length = 1
    · obtain ⟨x, rfl⟩ := List.length_eq_one_iff.1 c1
      have : (IntKind.i64.wrap (m - a) == 1) = true := by rw [fU 1 (by simp at hm; omega) (by omega)]; rfl
      simp only [this, if_true]
      obtain ⟨u, u1, u2, u3⟩ := Ks h hf x B pre post a m b hB (fun y hy => ht x (by simp) y hy) (fun y hy => hG y (by simpa using hy)) (by simpa using hl) ha (by simpa using hm) (by simpa using hb)
      exact ⟨u, by simpa using u1, u2, by simpa using u3⟩
    have n1 : (IntKind.i64.wrap (m - a) == 1) = false := by rw [fU A.length (by omega) (by omega)]; simp; omega
    simp only [n1, Bool.false_eq_true, if_false]
    by_cases c2 : B.length = 1
    · obtain ⟨y, rfl⟩ := List.length_eq_one_iff.1 c2
      have : (IntKind.i64.wrap (b - m) == 1) = true := by rw [fU 1 (by simp at hb; omega) (by omega)]; rfl
      simp only [this, if_true]
      obtain ⟨u, u1, u2, u3⟩ := Ka h hf y A pre post a m hA (fun x hx => ht x hx y (by simp)) (fun x hx => hG x (by simp at hx ⊢; exact hx.symm)) (by simpa using hl) ha hm
      exact ⟨u, by simpa using u1, u2, u3⟩
    have n2 : (IntKind.i64.wrap (b - m) == 1) = false := by rw [fU B.length (by omega) (by omega)]; simp; omega
    simp only [n2, Bool.false_eq_true, if_false]
    obtain ⟨F, hF, hF2⟩ : ∃ F, F = cE ∧ 1000000 < F := ⟨cE, rfl, by rw [gw]; omega⟩
    rw [← hF]
    obtain ⟨mid, hmd⟩ : ∃ mid : Nat, mid = (pre.length + (pre.length + A.length + B.length)) / 2 := ⟨_, rfl⟩
    obtain ⟨im, him⟩ : ∃ im : Nat, im = pre.length + A.length := ⟨_, rfl⟩
    obtain ⟨p, hp⟩ : ∃ p : Nat, p + 1 = mid + im := ⟨mid + im - 1, by omega⟩
    have hab : a + b = ((2 * mid : Nat) : Int) ∨ a + b = ((2 * mid + 1 : Nat) : Int) := by omega
    have hmid' : IntKind.i64.wrap (Int.fdiv (IntKind.u64.wrap (IntKind.i64.wrap (a + b))) (2 ^ min (Int.toNat 1) (IntKind.bits .u64))) = (mid : Int) := by
      rcases hab with h | h
      · rw [yc _ h (by omega), show 2 * mid / 2 = mid by omega]
      · rw [yc _ h (by omega), show (2 * mid + 1) / 2 = mid by omega]
    have hm' : m = (im : Int) := by omega
    have w1 : IntKind.i64.wrap ((mid : Int) + m) = ((mid + im : Nat) : Int) := fU _ (by omega) (by omega)
    obtain ⟨pr, hpr0⟩ : ∃ pr : Nat → Bool, pr = H1 c (A.map (·.1)) (B.map (·.1)) pre.length im p := ⟨_, rfl⟩
    have hask : ∀ q, pre.length ≤ q → q < im → im ≤ p - q → p - q < im + B.length → Ask (pre ++ (A.map (·.1) ++ (B.map (·.1) ++ post))) f ((p - q : Nat) : Int) (q : Int) (!pr q) := fun q q1 q2 q3 q4 => by rw [hpr0]; exact KE hf A B pre post im p him hG q q1 q2 q3 q4
    obtain ⟨t, n', lo, hi, hlh, t1, t2, t3, t4, e⟩ := HI (f := f) F hF2 (pre ++ (A.map (·.1) ++ (B.map (·.1) ++ post))) (cZ n) pre.length A.length B.length mid im p a b m pr (by omega) (by omega) (by omega) hmd him hp hab ha hm' hb hask
    simp only [hmid', w1]
    rw [e, JY (f := f) _ a b m _ mid im t n' hab hm' (by omega) (by omega) (by omega)]
    obtain ⟨A1, A2, rfl, hA1⟩ := sd (l := A) (n := t - pre.length) (by omega)
    obtain ⟨B1, B2, rfl, hB1⟩ := sd (l := B) (n := mid - t) (by omega)
    simp only [List.length_append] at h0 h1 h2 hl2 t1 t2 t3 t4 hlh hm hb him hmd
    have hpr : ∀ q x y, ((A1 ++ A2).map (·.1))[q - pre.length]? = some x → ((B1 ++ B2).map (·.1))[p - q - im]? = some y → pr q = !iF c y x := fun q x y e1 e2 => by rw [hpr0]; exact DR e1 e2
    have l1 : Lk (iF c) A1 B2 := by
      intro A' z b' B' q1 q2
      have g1 : 0 < A1.length := by rw [q1]; simp
      have g2 : 0 < B2.length := by rw [q2]; simp
      have hq : pr (t - 1) = true := by
        rcases t3 with t3 | t3
        · omega
        · exact t3
      have e1 := ua (yg A2 q1)
      have e2 := ua (yu B1 q2)
      rw [show A1.length - 1 = t - 1 - pre.length by omega] at e1
      rw [show B1.length = p - (t - 1) - im by omega] at e2
      rw [hpr _ _ _ e1 e2, Bool.not_eq_true'] at hq
      exact .inr ⟨hq, ht z (by rw [q1]; simp) b' (by rw [q2]; simp)⟩
    have l2 : Lk (iF c) B1 A2 := by
      intro A' z b' B' q1 q2
      have g1 : 0 < B1.length := by rw [q1]; simp
      have g2 : 0 < A2.length := by rw [q2]; simp
      have hq : pr t = false := by
        rcases t4 with t4 | t4
        · omega
        · exact t4
      have e1 := ua (yg B2 q1)
      have e2 := ua (yu A1 q2)
      rw [show B1.length - 1 = p - t - im by omega] at e1
      rw [hA1] at e2
      rw [hpr _ _ _ e2 e1, Bool.not_eq_false'] at hq
      exact .inl hq
    exact Jf h (fun A B pre post a m b q1 q2 q3 => ih A B pre post n a m b q1 q2 q3 (by omega)) A1 A2 B1 B2 pre post a m b mid im t him (by rw [hmd]; congr 1; omega) hA1 hB1 (by omega) (by omega) (by omega) (by omega) (by omega) hA hB ht hG (by omega) ha hm' (by rw [hb]; congr 1; omega) l1 l2
end
end Go.Proofs.YtmlncblocfcmiaaGreat
namespace Go.Proofs.YtmlncblocfcmiaaGreat
open Go.RowKit
section
variable {c : aB → aB → Int} {G : aB → Prop} {f : aB × aB → Option Int}
def sW (c : aB → aB → Int) : Nat → List (List (aB × Nat)) → Prop
  | _, [] => True
  | o, A :: bs => iJ (iF c) A ∧ (∀ x ∈ A, o ≤ x.2 ∧ x.2 < o + A.length) ∧ sW c (o + A.length) bs
def WB (s : Nat) : List (List (aB × Nat)) → Prop
  | [] => True
  | A :: bs => A.length ≤ s ∧ (bs ≠ [] → A.length = s) ∧ WB s bs
theorem sW.append : ∀ {ds bs : List (List (aB × Nat))} {o : Nat}, sW c o (ds ++ bs) ↔ sW c o ds ∧ sW c (o + ds.flatten.length) bs
  | [], bs, o => by simp [sW]
  | A :: ds, bs, o => by
    simp only [List.cons_append, sW, sW.append (ds := ds), List.flatten_cons, List.length_append, and_assoc, Nat.add_assoc]
def fm (bs : List (List (aB × Nat))) : List aB := bs.flatten.map (·.1)
theorem CE (a b : List (List (aB × Nat))) : fm (a ++ b) = fm a ++ fm b := by simp [fm]
theorem EP (A : List (aB × Nat)) (b : List (List (aB × Nat))) : fm (A :: b) = A.map (·.1) ++ fm b := by simp [fm]
theorem mJ (a : List (List (aB × Nat))) : (fm a).length = a.flatten.length := by unfold fm; rw [List.length_map]
theorem Gt (ds : List (List (aB × Nat))) (C : List (aB × Nat)) : (ds ++ [C]).flatten.length = ds.flatten.length + C.length := by rw [List.flatten_append, List.length_append]; simp only [List.flatten_cons, List.flatten_nil, List.append_nil]
theorem J8 (C : List (aB × Nat)) (bs : List (List (aB × Nat))) : fm ([C] ++ bs) = C.map (·.1) ++ fm bs := by simp [fm]
theorem zI {R : List aB} {o : Nat} {x : aB × Nat} (h : x ∈ R.zipIdx o) : x.1 ∈ R := List.fst_mem_of_mem_zipIdx h
theorem WB.two {s : Nat} {A : List (aB × Nat)} {bs : List (List (aB × Nat))} (hs : 0 < s) (h : WB s (A :: bs)) (hl : s < (A :: bs).flatten.length) : A.length = s ∧ ∃ B bs', bs = B :: bs' ∧ (B.length = s ∨ bs' = []) ∧ B.length ≤ s ∧ WB s bs' := by
  cases bs with
  | nil => simp at hl; have := h.1; omega
  | cons B bs' =>
    refine ⟨h.2.1 (by simp), B, bs', rfl, ?_, h.2.2.1, h.2.2.2.2⟩
    by_cases hb : bs' = []
    · exact .inr hb
    · exact .inl (h.2.2.2.1 hb)
theorem Es (h : SWO (iF c)) (hf : xS f c G) {ds bs : List (List (aB × Nat))} {A B : List (aB × Nat)} (hO : sW c 0 (ds ++ A :: B :: bs)) (hG : ∀ x ∈ (ds ++ A :: B :: bs).flatten, G x.1) (hl : (fm (ds ++ A :: B :: bs)).length ≤ 400000) (hA : 0 < A.length) (hB : 0 < B.length) (a m b : Int)
    (ha : a = (ds.flatten.length : Int)) (hm : m = ((ds.flatten.length + A.length : Nat) : Int)) (hb : b = ((ds.flatten.length + A.length + B.length : Nat) : Int)) :
    ∃ C, cZ cE (fm (ds ++ A :: B :: bs)) a m b f = some (fm ((ds ++ [C]) ++ bs)) ∧ sW c 0 ((ds ++ [C]) ++ bs) ∧ C.Perm (A ++ B) := by
  obtain ⟨h1, h2⟩ := sW.append.1 hO
  obtain ⟨sA, tA, sB, tB, hr⟩ := h2
  have e : fm (ds ++ A :: B :: bs) = fm ds ++ (A.map (·.1) ++ (B.map (·.1) ++ fm bs)) := by rw [CE, EP, EP]
  rw [e] at hl ⊢
  have hl2 := hl
  simp only [List.length_append, List.length_map, mJ] at hl2
  obtain ⟨C, q1, q2, q3⟩ := KP h hf (A.length + B.length) A B (fm ds) (fm bs) cE a m b (Nat.le_refl _) hA hB (by rw [gw]; omega) sA sB (fun x hx y hy => by have := (tA x hx).2; have := (tB y hy).1; omega)
    (fun x hx => hG x (by
      rw [List.flatten_append, List.flatten_cons, List.flatten_cons, List.mem_append, List.mem_append, List.mem_append]
      rcases List.mem_append.1 hx with hx | hx
      · exact .inr (.inl hx)
      · exact .inr (.inr (.inl hx)))) hl (by rw [ha, mJ]) (by rw [hm, mJ]) (by rw [hb, mJ])
  have hCl := q3.length_eq
  simp only [List.length_append] at hCl
  refine ⟨C, by rw [q1, List.append_assoc, CE, J8], ?_, q3⟩
  · rw [List.append_assoc, sW.append]
    refine ⟨h1, q2, fun x hx => ?_, ?_⟩
    · rcases List.mem_append.1 (q3.mem_iff.1 hx) with hx | hx
      · have := tA x hx; omega
      · have := tB x hx; omega
    · rw [hCl, ← Nat.add_assoc]; exact hr
theorem DL {ds bs : List (List (aB × Nat))} {A B C : List (aB × Nat)} (h : C.Perm (A ++ B)) : ((ds ++ [C]) ++ bs).flatten.Perm (ds ++ A :: B :: bs).flatten := by
  simp only [List.flatten_append, List.flatten_cons, List.flatten_nil, List.append_nil, List.append_assoc]
  refine List.Perm.append_left _ ?_
  rw [← List.append_assoc]
  exact h.append_right _
theorem I2 (h : SWO (iF c)) (hf : xS f c G) (s : Nat) (hs : 0 < s) (hs2 : s ≤ 1000000) (N : Nat) (hN : N ≤ 400000) : ∀ (k : Nat) (bs ds : List (List (aB × Nat))) (n : Nat) (a b : Int), bs.length ≤ k → k < n → sW c 0 (ds ++ bs) → (∀ x ∈ (ds ++ bs).flatten, G x.1) → (ds ++ bs).flatten.length = N → WB s bs → (∀ A ∈ ds, A.length = 2 * s) →
    a = (ds.flatten.length : Int) → b = ((ds.flatten.length + 2 * s : Nat) : Int) →
    ∃ es r, dT (N : Int) (s : Int) f n (fm (ds ++ bs)) a b = some (fm (es ++ r), (es.flatten.length : Int)) ∧ sW c 0 (es ++ r) ∧ (es ++ r).flatten.Perm (ds ++ bs).flatten ∧ WB s r ∧ r.flatten.length < 2 * s ∧ (∀ A ∈ es, A.length = 2 * s) := by
  intro k
  induction k with
  | zero =>
    intro bs ds n a b hk hn hO hG hl hW hD ha hb
    obtain ⟨n, rfl⟩ := Nat.exists_eq_succ_of_ne_zero (by omega : n ≠ 0)
    obtain rfl := List.eq_nil_of_length_eq_zero (Nat.le_zero.1 hk)
    simp only [List.append_nil] at hl
    rw [dT]
    have : ¬ (b ≤ (N : Int)) := by omega
    simp only [this, decide_false, Bool.false_eq_true, if_false]
    exact ⟨ds, [], by rw [ha], hO, .refl _, trivial, by simp only [List.flatten_nil, List.length_nil]; omega, hD⟩
  | succ k ih =>
    intro bs ds n a b hk hn hO hG hl hW hD ha hb
    obtain ⟨n, rfl⟩ := Nat.exists_eq_succ_of_ne_zero (by omega : n ≠ 0)
    rw [dT]
    by_cases hle : b ≤ (N : Int)
    · simp only [hle, decide_true, if_true]
      have hl2 := hl
      rw [List.flatten_append, List.length_append] at hl2
      cases bs with
      | nil => simp only [List.flatten_nil, List.length_nil] at hl2; omega
      | cons A bs =>
        obtain ⟨hA, B, bs', rfl, hB, hB2, hW'⟩ := WB.two hs hW (by omega)
        have hB3 : B.length = s := by
          rcases hB with hB | rfl
          · exact hB
          · simp only [List.flatten_cons, List.flatten_nil, List.append_nil, List.length_append] at hl2; omega
        have w1 : IntKind.i64.wrap (a + (s : Int)) = ((ds.flatten.length + A.length : Nat) : Int) := fU _ (by omega) (by omega)
        obtain ⟨C, q1, q2, q3⟩ := Es h hf hO hG (by rw [mJ]; omega) (by omega) (by omega) a _ b ha w1 (by omega)
        rw [q1, Option.bind_some]
        have hCl := q3.length_eq
        simp only [List.length_append] at hCl
        have w2 : IntKind.i64.wrap (2 * (s : Int)) = ((2 * s : Nat) : Int) := fU _ (by omega) (by omega)
        have hd : (ds ++ [C]).flatten.length = ds.flatten.length + 2 * s := by rw [Gt]; omega
        have w3 : IntKind.i64.wrap (b + ((2 * s : Nat) : Int)) = (((ds ++ [C]).flatten.length + 2 * s : Nat) : Int) := fU _ (by omega) (by omega)
        have hp := DL (ds := ds) (bs := bs') q3
        rw [w2, w3]
        obtain ⟨es, r, e1, e2, e3, e4, e5, e6⟩ := ih bs' (ds ++ [C]) n b _ (by simp at hk; omega) (by omega) q2 (fun x hx => hG x (hp.mem_iff.1 hx)) (by rw [hp.length_eq, hl]) hW' (fun X hX => by
          rcases List.mem_append.1 hX with hX | hX
          · exact hD X hX
          · simp at hX; rw [hX]; omega) (by rw [hd]; omega) rfl
        exact ⟨es, r, e1, e2, e3.trans hp, e4, e5, e6⟩
    · simp only [hle, decide_false, Bool.false_eq_true, if_false]
      refine ⟨ds, bs, by rw [ha], hO, .refl _, hW, ?_, hD⟩
      rw [List.flatten_append, List.length_append] at hl
      omega
theorem WB.of_len {t : Nat} : ∀ {es : List (List (aB × Nat))} {C : List (aB × Nat)}, (∀ A ∈ es, A.length = t) → C.length ≤ t → WB t (es ++ [C])
  | [], C, _, hC => ⟨hC, fun h => absurd rfl h, trivial⟩
  | E :: es, C, h, hC => ⟨by rw [h E (by simp)]; omega, fun _ => h E (by simp), WB.of_len (fun A hA => h A (by simp [hA])) hC⟩
theorem Gv {s : Nat} {r : List (List (aB × Nat))} {o : Nat} (hW : WB s r) (hl : r.flatten.length ≤ s) (hO : sW c o r) : iJ (iF c) r.flatten ∧ ∀ x ∈ r.flatten, o ≤ x.2 ∧ x.2 < o + r.flatten.length := by
  cases r with
  | nil => exact ⟨.nil, fun x hx => by cases hx⟩
  | cons A r =>
    have : r.flatten = [] := by
      by_cases hb : r = []
      · rw [hb]; rfl
      · have := hW.2.1 hb
        rw [List.flatten_cons, List.length_append] at hl
        exact List.eq_nil_of_length_eq_zero (by omega)
    rw [List.flatten_cons, this, List.append_nil]
    exact ⟨hO.1, hO.2.1⟩
theorem HZ (h : SWO (iF c)) (hf : xS f c G) (N : Nat) (hN : N ≤ 400000) : ∀ (k s : Nat) (bs : List (List (aB × Nat))) (n : Nat), N - s ≤ k → k < n → 0 < s → s ≤ 1000000 → sW c 0 bs → (∀ x ∈ bs.flatten, G x.1) → bs.flatten.length = N → WB s bs →
    ∃ u, dF (N : Int) f n (fm bs) (s : Int) = some (u.map (·.1)) ∧ iJ (iF c) u ∧ u.Perm bs.flatten := by
  intro k
  induction k with
  | zero =>
    intro s bs n hk hn hs hs2 hO hG hl hW
    obtain ⟨n, rfl⟩ := Nat.exists_eq_succ_of_ne_zero (by omega : n ≠ 0)
    rw [dF]
    have : ¬ ((s : Int) < (N : Int)) := by omega
    simp only [this, decide_false, Bool.false_eq_true, if_false]
    refine ⟨bs.flatten, rfl, ?_, .refl _⟩
    cases bs with
    | nil => exact .nil
    | cons A bs =>
      have : bs.flatten = [] := by
        by_cases hb : bs = []
        · rw [hb]; rfl
        · have := hW.2.1 hb
          rw [List.flatten_cons, List.length_append] at hl
          exact List.eq_nil_of_length_eq_zero (by omega)
      rw [List.flatten_cons, this, List.append_nil]
      exact hO.1
  | succ k ih =>
    intro s bs n hk hn hs hs2 hO hG hl hW
    by_cases hlt : s < N
    · obtain ⟨n, rfl⟩ := Nat.exists_eq_succ_of_ne_zero (by omega : n ≠ 0)
      rw [dF]
      have : ((s : Int) < (N : Int)) := by omega
      simp only [this, decide_true, if_true]
      have w1 : IntKind.i64.wrap (2 * (s : Int)) = ((2 * s : Nat) : Int) := fU _ (by omega) (by omega)
      have w0 : IntKind.i64.wrap ((s : Int) * 2) = ((2 * s : Nat) : Int) := fU _ (by omega) (by omega)
      have hbl : bs.length ≤ 2000000 := by
        have : ∀ {bs : List (List (aB × Nat))}, WB s bs → bs.length ≤ bs.flatten.length + 1 := by
          intro bs
          induction bs with
          | nil => intro _; simp
          | cons A bs ih2 =>
            intro hW
            by_cases hb : bs = []
            · subst hb; simp
            · have := hW.2.1 hb
              have := ih2 hW.2.2
              simp only [List.length_cons, List.flatten_cons, List.length_append]
              omega
        have := this hW
        omega
      obtain ⟨es, r, e1, e2, e3, e4, e5, e6⟩ := I2 h hf s hs hs2 N hN bs.length bs [] cE 0 ((2 * s : Nat) : Int) (Nat.le_refl _) (by rw [gw]; omega) (by simpa using hO) (by simpa using hG) (by simpa using hl) hW (by simp) rfl (by simp)
      simp only [List.nil_append] at e1 e3
      rw [w1, e1, Option.bind_some, w0]
      have hl3 := e3.length_eq
      rw [hl, List.flatten_append, List.length_append] at hl3
      have w2 : IntKind.i64.wrap ((es.flatten.length : Int) + (s : Int)) = ((es.flatten.length + s : Nat) : Int) := fU _ (by omega) (by omega)
      simp only [w2]
      by_cases hm : es.flatten.length + s < N
      · have : (((es.flatten.length + s : Nat) : Int) < (N : Int)) := by omega
        simp only [this, decide_true, if_true, kL]
        cases r with
        | nil => simp only [List.flatten_nil, List.length_nil] at hl3; omega
        | cons A r =>
          obtain ⟨hA, B, r', rfl, hB, hB2, hW'⟩ := WB.two hs e4 (by omega)
          have hr' : r' = [] := by
            rcases hB with hB | hB
            · by_cases hr : r' = []
              · exact hr
              · simp only [List.flatten_cons, List.length_append] at e5; omega
            · exact hB
          subst hr'
          simp only [List.flatten_cons, List.flatten_nil, List.append_nil, List.length_append] at hl3 e5
          obtain ⟨C, q1, q2, q3⟩ := Es h hf e2 (fun x hx => hG x (e3.mem_iff.1 hx)) (by rw [mJ, e3.length_eq]; omega) (by omega) (by omega) (es.flatten.length : Int) ((es.flatten.length + s : Nat) : Int) (N : Int) rfl (by omega) (by omega)
          rw [q1, Option.bind_some]
          have hCl := q3.length_eq
          simp only [List.length_append] at hCl
          have hp := (DL (ds := es) (bs := []) q3).trans e3
          simp only [List.append_nil] at q2 hp ⊢
          obtain ⟨u, u1, u2, u3⟩ := ih (2 * s) (es ++ [C]) n (by omega) (by omega) (by omega) (by omega) q2 (fun x hx => hG x (hp.mem_iff.1 hx)) (by rw [hp.length_eq, hl]) (WB.of_len e6 (by omega))
          exact ⟨u, u1, u2, u3.trans hp⟩
      · have : ¬ (((es.flatten.length + s : Nat) : Int) < (N : Int)) := by omega
        simp only [this, decide_false, Bool.false_eq_true, if_false, Option.bind_some]
        obtain ⟨hO1, hO2⟩ := sW.append.1 e2
        obtain ⟨b1, b2⟩ := Gv e4 (by omega) hO2
        have hfm : fm (es ++ r) = fm (es ++ [r.flatten]) := by simp [fm]
        have hfl : (es ++ [r.flatten]).flatten = (es ++ r).flatten := by simp
        rw [hfm]
        obtain ⟨u, u1, u2, u3⟩ := ih (2 * s) (es ++ [r.flatten]) n (by omega) (by omega) (by omega) (by omega) (sW.append.2 ⟨hO1, b1, b2, trivial⟩) (fun x hx => hG x (e3.mem_iff.1 (by rw [← hfl]; exact hx))) (by rw [hfl, e3.length_eq, hl]) (WB.of_len e6 (by omega))
        exact ⟨u, u1, u2, by rw [hfl] at u3; exact u3.trans e3⟩
    · obtain ⟨n, rfl⟩ := Nat.exists_eq_succ_of_ne_zero (by omega : n ≠ 0)
      rw [dF]
      have : ¬ ((s : Int) < (N : Int)) := by omega
      simp only [this, decide_false, Bool.false_eq_true, if_false]
      refine ⟨bs.flatten, rfl, ?_, .refl _⟩
      cases bs with
      | nil => exact .nil
      | cons A bs =>
        have : bs.flatten = [] := by
          by_cases hb : bs = []
          · rw [hb]; rfl
          · have := hW.2.1 hb
            rw [List.flatten_cons, List.length_append] at hl
            exact List.eq_nil_of_length_eq_zero (by omega)
        rw [List.flatten_cons, this, List.append_nil]
        exact hO.1
theorem Cm : ∀ (l : List aB) (o : Nat), (l.zipIdx o).Pairwise (fun x y => x.2 < y.2)
  | [], o => by simp
  | x :: l, o => by
    rw [List.zipIdx_cons, List.pairwise_cons]
    refine ⟨fun y hy => ?_, Cm l (o + 1)⟩
    obtain ⟨a, b⟩ := y
    have := List.le_snd_of_mem_zipIdx hy
    simp only at this ⊢; omega
theorem ET (l : List aB) (o : Nat) : ∀ x ∈ l.zipIdx o, o ≤ x.2 ∧ x.2 < o + l.length := by
  rintro ⟨a, b⟩ hx
  have h1 := List.le_snd_of_mem_zipIdx hx
  have h2 := List.snd_lt_add_of_mem_zipIdx hx
  simp only at h1 h2 ⊢; omega
theorem G4 (h : SWO (iF c)) (hf : xS f c G) (N : Nat) (hN : N ≤ 300000) (R : List aB) (ds : List (List (aB × Nat))) (n : Nat) (a b : Int) (hn : 0 < n) (hO : sW c 0 ds) (hD : ∀ A ∈ ds, A.length = 20) (hG : ∀ x ∈ ds.flatten, G x.1) (hR : ∀ x ∈ R, G x) (hl : ds.flatten.length + R.length = N) (hlt : R.length < 20)
    (ha : a = (ds.flatten.length : Int)) (hb : b = ((ds.flatten.length + 20 : Nat) : Int)) :
    ∃ u, dE (N : Int) f n (fm ds ++ R) a b = some (u.map (·.1)) ∧ iJ (iF c) u ∧ u.Perm (ds.flatten ++ R.zipIdx ds.flatten.length) := by
  obtain ⟨n, rfl⟩ := Nat.exists_eq_succ_of_ne_zero (by omega : n ≠ 0)
  rw [dE]
  have hle : ¬ (b ≤ (N : Int)) := by omega
  simp only [hle, decide_false, Bool.false_eq_true, if_false, kL]
  obtain ⟨u, u1, u2, u3⟩ := E0 h hf (fm ds) [] (R.zipIdx ds.flatten.length) a (N : Int) (Cm _ _) (fun x hx => hR x.1 (zI hx)) (by simp only [List.length_append, mJ, List.length_map, List.length_zipIdx, List.length_nil]; omega) (by rw [mJ]; exact ha) (by rw [mJ, List.length_zipIdx]; omega)
  rw [List.zipIdx_map_fst, List.append_nil, List.append_nil] at u1
  have hul := u3.length_eq
  rw [List.length_zipIdx] at hul
  have e : fm ds ++ u.map (·.1) = fm (ds ++ [u]) := by simp [fm]
  have hp : (ds ++ [u]).flatten.Perm (ds.flatten ++ R.zipIdx ds.flatten.length) := by
    rw [List.flatten_append]
    refine List.Perm.append_left _ ?_
    simpa using u3
  rw [u1, Option.bind_some, e]
  obtain ⟨v, v1, v2, v3⟩ := HZ h hf N (by omega) N 20 (ds ++ [u]) cE (by omega) (by rw [gw]; omega) (by omega) (by omega) (sW.append.2 ⟨hO, u2, fun x hx => by have := ET R ds.flatten.length x (u3.mem_iff.1 hx); omega, trivial⟩) (fun x hx => by
    rw [List.flatten_append, List.mem_append] at hx
    rcases hx with hx | hx
    · exact hG x hx
    · simp only [List.flatten_cons, List.flatten_nil, List.append_nil] at hx
      exact hR x.1 (zI (u3.mem_iff.1 hx))) (by rw [hp.length_eq, List.length_append, List.length_zipIdx]; omega) (WB.of_len hD (by omega))
  exact ⟨v, v1, v2, v3.trans hp⟩
theorem HT (h : SWO (iF c)) (hf : xS f c G) (N : Nat) (hN : N ≤ 300000) : ∀ (k : Nat) (R : List aB) (ds : List (List (aB × Nat))) (n : Nat) (a b : Int), R.length ≤ k → k < n → sW c 0 ds → (∀ A ∈ ds, A.length = 20) → (∀ x ∈ ds.flatten, G x.1) → (∀ x ∈ R, G x) → ds.flatten.length + R.length = N →
    a = (ds.flatten.length : Int) → b = ((ds.flatten.length + 20 : Nat) : Int) →
    ∃ u, dE (N : Int) f n (fm ds ++ R) a b = some (u.map (·.1)) ∧ iJ (iF c) u ∧ u.Perm (ds.flatten ++ R.zipIdx ds.flatten.length) := by
  intro k
  induction k with
  | zero =>
    intro R ds n a b hk hn hO hD hG hR hl ha hb
    obtain rfl := List.eq_nil_of_length_eq_zero (Nat.le_zero.1 hk)
    exact G4 h hf N hN [] ds n a b hn hO hD hG hR hl (by simp) ha hb
  | succ k ih =>
    intro R ds n a b hk hn hO hD hG hR hl ha hb
    by_cases hlt : R.length < 20
    · exact G4 h hf N hN R ds n a b (by omega) hO hD hG hR hl hlt ha hb
    obtain ⟨n, rfl⟩ := Nat.exists_eq_succ_of_ne_zero (by omega : n ≠ 0)
    obtain ⟨R1, R2, rfl, hR1⟩ := sd (l := R) (n := 20) (by omega)
    rw [List.length_append] at hl hk
    rw [dE]
    have hle : b ≤ (N : Int) := by omega
    simp only [hle, decide_true, if_true]
    obtain ⟨u, u1, u2, u3⟩ := E0 h hf (fm ds) R2 (R1.zipIdx ds.flatten.length) a b (Cm _ _) (fun x hx => hR x.1 (by simp [zI hx])) (by simp only [List.length_append, mJ, List.length_map, List.length_zipIdx, List.length_nil]; omega) (by rw [mJ]; exact ha) (by rw [mJ, List.length_zipIdx]; omega)
    rw [List.zipIdx_map_fst] at u1
    rw [u1, Option.bind_some]
    have hul := u3.length_eq
    rw [List.length_zipIdx, hR1] at hul
    have hfl : (ds ++ [u]).flatten.length = ds.flatten.length + 20 := by rw [Gt, hul]
    have w1 : IntKind.i64.wrap (b + 20) = (((ds ++ [u]).flatten.length + 20 : Nat) : Int) := fU _ (by omega) (by omega)
    have e : fm ds ++ (u.map (·.1) ++ R2) = fm (ds ++ [u]) ++ R2 := by simp [fm]
    rw [e, w1]
    obtain ⟨v, v1, v2, v3⟩ := ih R2 (ds ++ [u]) n b _ (by omega) (by omega) (sW.append.2 ⟨hO, u2, fun x hx => by have := ET R1 ds.flatten.length x (u3.mem_iff.1 hx); omega, trivial⟩) (fun A hA => by
      rcases List.mem_append.1 hA with hA | hA
      · exact hD A hA
      · simp at hA; rw [hA]; exact hul) (fun x hx => by
      rw [List.flatten_append, List.mem_append] at hx
      rcases hx with hx | hx
      · exact hG x hx
      · simp only [List.flatten_cons, List.flatten_nil, List.append_nil] at hx
        exact hR x.1 (by simp [zI (u3.mem_iff.1 hx)])) (fun x hx => hR x (by simp [hx])) (by omega) (by omega) rfl
    refine ⟨v, v1, v2, v3.trans ?_⟩
    rw [hfl, List.flatten_append, List.zipIdx_append, hR1, List.append_assoc]
    refine List.Perm.append_left _ ?_
    simp only [List.flatten_cons, List.flatten_nil, List.append_nil]
    exact u3.append_right _
theorem FY (h : SWO (iF c)) (hf : xS f c G) (l : List aB) (hG : ∀ x ∈ l, G x) (hl : l.length ≤ 300000) : gJ l f = some (DP (iF c) l) := by
  unfold gJ jC
  obtain ⟨u, u1, u2, u3⟩ := HT h hf l.length hl l.length l [] cE 0 20 (Nat.le_refl _) (by rw [gw]; omega) trivial (by simp) (by simp) hG (by simp) rfl rfl
  simp only [fm, List.flatten_nil, List.map_nil, List.nil_append, List.length_nil] at u1 u3
  rw [u1, Option.bind_some, IF h u2 u3]
end
end Go.Proofs.YtmlncblocfcmiaaGreat
namespace Go.Proofs.YtmlncblocfcmiaaGreat
open Go.RowKit
theorem FF {P : aB → Prop} (h : ∀ f, (∀ k ∈ f.Kids, P k) → P f) : ∀ f, P f := by
  intro f
  refine aB.rec (motive_1 := P) (motive_2 := fun ks => ∀ k ∈ ks, P k) ?_ ?_ ?_ f
  · intro o k r ks ih; exact h _ ih
  · intro k hk; cases hk
  · intro k ks h1 h2 x hx
    rcases List.mem_cons.1 hx with rfl | hx
    · exact h1
    · exact h2 x hx
mutual
def cA : aB → Nat
  | ⟨_, _, _, ks⟩ => 1 + nodesL ks
def nodesL : List aB → Nat
  | [] => 0
  | k :: ks => cA k + nodesL ks
end
mutual
def nS : aB → Nat
  | ⟨_, _, _, ks⟩ => deepL ks + 1
def deepL : List aB → Nat
  | [] => 0
  | k :: ks => max (nS k) (deepL ks)
end
theorem mM (f : aB) : cA f = 1 + nodesL f.Kids := by cases f; rw [cA]
theorem lF (f : aB) : nS f = deepL f.Kids + 1 := by cases f; rw [nS]
theorem vg : ∀ {ks : List aB} {k : aB}, k ∈ ks → cA k ≤ nodesL ks
  | x :: ks, k, h => by
    rw [nodesL]
    rcases List.mem_cons.1 h with rfl | h
    · omega
    · have := vg h; omega
theorem tS : ∀ {ks : List aB} {k : aB}, k ∈ ks → nS k ≤ deepL ks
  | x :: ks, k, h => by
    rw [deepL]
    rcases List.mem_cons.1 h with rfl | h
    · omega
    · have := tS h; omega
theorem xV : ∀ f : aB, nS f ≤ cA f := by
  refine FF fun f ih => ?_
  rw [lF, mM]
  have : ∀ ks : List aB, (∀ k ∈ ks, nS k ≤ cA k) → deepL ks ≤ nodesL ks := by
    intro ks
    induction ks with
    | nil => intro _; rw [deepL]; omega
    | cons k ks ih2 =>
      intro h
      have := ih2 (fun x hx => h x (by simp [hx]))
      have := h k (by simp)
      rw [deepL, nodesL]; omega
  have := this f.Kids ih
  omega
theorem sm : ∀ ks : List aB, ks.length ≤ nodesL ks
  | [] => by rw [nodesL]; simp
  | k :: ks => by have := sm ks; have := mM k; rw [nodesL, List.length_cons]; omega
theorem GQ (most : Nat) (hm : most ≤ 4096) (rec : aB → Int → Option (Int × Int)) : ∀ (ks : List aB), (∀ k ∈ ks, ∀ q : Nat, q ≤ 4096 → ∃ n d : Nat, rec k (q : Int) = some ((n : Int), (d : Int)) ∧ 1 ≤ n ∧ n ≤ cA k ∧ d ≤ cA k ∧ (cA k ≤ q → n = cA k ∧ d = nS k) ∧ (q < cA k → q < n)) → ∀ x y : Nat, x + nodesL ks ≤ 100000000 →
    ∃ n d : Nat, gN (most : Int) rec ks (x : Int) (y : Int) = some ((n : Int), (d : Int)) ∧ x ≤ n ∧ n ≤ x + nodesL ks ∧ d ≤ max y (nodesL ks) ∧ (x + nodesL ks ≤ most → n = x + nodesL ks ∧ d = max y (deepL ks)) ∧ (most < x + nodesL ks → most < n)
  | [], _, x, y, _ => by
    rw [gN, nodesL, deepL]
    exact ⟨x, y, rfl, by omega, by omega, by omega, fun _ => ⟨by omega, by omega⟩, fun h => by omega⟩
  | k :: ks, hr, x, y, hb => by
    rw [nodesL] at hb ⊢
    rw [gN, deepL]
    by_cases hx : (x : Int) > (most : Int)
    · simp only [hx, decide_true, if_true]
      exact ⟨x, y, rfl, by omega, by omega, by omega, fun _ => by omega, fun h => by omega⟩
    · simp only [hx, decide_false, Bool.false_eq_true, if_false]
      have w1 : IntKind.i64.wrap ((most : Int) - (x : Int)) = ((most - x : Nat) : Int) := by rw [dL (by omega) (by omega)]; omega
      obtain ⟨m, d, e, h1, h2, h3, h4, h5⟩ := hr k (by simp) (most - x) (by omega)
      rw [w1, e, Option.bind_some]
      have w2 : IntKind.i64.wrap ((x : Int) + (m : Int)) = ((x + m : Nat) : Int) := by rw [dL (by omega) (by omega)]; omega
      have w3 : (if (d : Int) > (y : Int) then (d : Int) else (y : Int)) = ((max y d : Nat) : Int) := by split <;> omega
      simp only [w2, w3]
      obtain ⟨n, d', e', g1, g2, g3, g4, g5⟩ := GQ most hm rec ks (fun z hz => hr z (by simp [hz])) (x + m) (max y d) (by omega)
      refine ⟨n, d', e', by omega, by omega, by omega, fun h => ?_, fun h => ?_⟩
      · obtain ⟨rfl, rfl⟩ := h4 (by omega)
        obtain ⟨rfl, rfl⟩ := g4 (by omega)
        exact ⟨by omega, by omega⟩
      · by_cases hk : most - x < cA k
        · have := h5 hk; omega
        · obtain ⟨rfl, _⟩ := h4 (by omega)
          exact g5 (by omega)
theorem HL : ∀ (n : Nat) (f : aB), nS f ≤ n → cA f ≤ 50000000 → ∀ q : Nat, q ≤ 4096 → ∃ m d : Nat, iH n f (q : Int) = some ((m : Int), (d : Int)) ∧ 1 ≤ m ∧ m ≤ cA f ∧ d ≤ cA f ∧ (cA f ≤ q → m = cA f ∧ d = nS f) ∧ (q < cA f → q < m) := by
  intro n
  induction n with
  | zero => intro f h; rw [lF] at h; omega
  | succ n ih =>
    intro f hd hn q hq
    rw [lF] at hd
    have hnf := mM f
    rw [iH]
    unfold oD
    obtain ⟨m, d, e, h1, h2, h3, h4, h5⟩ := GQ q hq (iH n) f.Kids (fun k hk q hq => ih k (by have := tS hk; omega) (by have := vg hk; omega) q hq) 1 0 (by omega)
    have e' : gN (q : Int) (iH n) f.Kids 1 0 = some ((m : Int), (d : Int)) := e
    rw [e', Option.bind_some]
    have w1 : IntKind.i64.wrap ((d : Int) + 1) = ((d + 1 : Nat) : Int) := by rw [dL (by omega) (by omega)]; omega
    simp only [w1]
    refine ⟨m, d + 1, rfl, h1, by omega, by omega, fun h => ?_, fun h => h5 (by omega)⟩
    obtain ⟨rfl, rfl⟩ := h4 (by omega)
    rw [lF]
    exact ⟨by omega, by omega⟩
theorem I8 (f : aB) (hn : cA f ≤ 50000000) : qV f = some (if cA f ≤ 4096 then ((cA f : Int), (nS f : Int)) else (0, 0)) := by
  unfold qV
  have := xV f
  obtain ⟨m, d, e, h1, h2, h3, h4, h5⟩ := HL cE f (by rw [gw]; omega) hn 4096 (Nat.le_refl _)
  have e' : iH cE f 4096 = some ((m : Int), (d : Int)) := e
  rw [e', Option.bind_some]
  by_cases h : cA f ≤ 4096
  · obtain ⟨rfl, rfl⟩ := h4 h
    have : ¬ ((cA f : Int) > 4096) := by omega
    simp [this, h]
  · have := h5 (by omega)
    have : ((m : Int) > 4096) := by omega
    simp [this, h]
def nT : Role := ⟨zS, zS⟩
def zZ (f : aB) : Bool := if f.Op = 1 then dY f.Role && decide (f.Kids.length = 0) && decide (f.K = 0) else if f.Op = 2 ∨ f.Op = 3 then bA f.Role nT && decide (f.K = 0) else decide (f.Op = 4) && bA f.Role nT && decide (0 ≤ f.K) && decide (f.K ≤ (f.Kids.length : Int)) && decide (1 ≤ f.Kids.length)
theorem Ix (f : aB) : qU f = some (zZ f) := by
  unfold qU zZ
  simp only [rO, Option.bind_some, kL]
  by_cases h1 : f.Op = 1
  · simp only [h1, beq_self_eq_true, if_true]
    cases hr : dY f.Role
    · simp
    · by_cases hl : f.Kids.length = 0
      · have : f.Kids = [] := List.eq_nil_of_length_eq_zero hl
        by_cases hk : f.K = 0 <;> simp [this, hk]
      · have : ((f.Kids.length : Int) == 0) = false := by simp; intro h; exact hl (by simp [h])
        simp only [if_true, Option.bind_some, this, Bool.false_eq_true, if_false, hl, decide_false, Bool.and_false, Bool.false_and]
  · have e1 : (f.Op == 1) = false := by simpa using h1
    simp only [e1, Bool.false_eq_true, if_false, h1]
    by_cases h2 : f.Op = 2 ∨ f.Op = 3
    · have e2 : (if f.Op == 2 then some (f.Op == 2) else some (f.Op == 3)) = some true := by
        rcases h2 with h | h <;> simp [h]
      simp only [e2, Option.bind_some, if_true, h2]
      cases hb : bA f.Role ⟨zS, zS⟩ <;> by_cases hk : f.K = 0 <;> simp [nT, hb, hk]
    · have e2 : (if f.Op == 2 then some (f.Op == 2) else some (f.Op == 3)) = some false := by
        have a : f.Op ≠ 2 := fun h => h2 (.inl h)
        have b : f.Op ≠ 3 := fun h => h2 (.inr h)
        simp [a, b]
      simp only [e2, Option.bind_some, Bool.false_eq_true, if_false, h2]
      by_cases h4 : f.Op = 4
      · simp only [h4, beq_self_eq_true, if_true, Option.bind_some, decide_true, Bool.true_and]
        cases hb : bA f.Role ⟨zS, zS⟩
        · simp [nT, hb]
        · by_cases c1 : 0 ≤ f.K <;> by_cases c2 : f.K ≤ (f.Kids.length : Int) <;> by_cases c3 : 1 ≤ f.Kids.length <;> simp [nT, hb, c1, c2, c3] <;> omega
      · have e4 : (f.Op == 4) = false := by simpa using h4
        simp [e4, h4]
mutual
def rR : aB → Bool
  | ⟨o, n, r, ks⟩ => zZ ⟨o, n, r, ks⟩ && decide (ks.length ≤ 8) && wellL ks
def wellL : List aB → Bool
  | [] => true
  | k :: ks => rR k && wellL ks
end
theorem Dx (f : aB) : rR f = (zZ f && decide (f.Kids.length ≤ 8) && wellL f.Kids) := by cases f; rw [rR]
theorem zy : ∀ ks : List aB, wellL ks = ks.all rR
  | [] => rfl
  | k :: ks => by rw [wellL, zy ks]; rfl
theorem Dp (f : aB → Option Bool) : ∀ (l : List aB) (i : Nat), eL f l i = uj f l i
  | [], i => by rw [eL]; rfl
  | x :: l, i => by
    rw [eL, uj]
    cases f x with
    | none => rfl
    | some b =>
      simp only [Option.bind_some]
      rw [Dp f l (i + 1)]
theorem Ak (f : aB → Option Bool) (p : aB → Bool) (l : List aB) (h : ∀ x ∈ l, f x = some (p x)) : fN l f = some (l.any p) := by
  unfold fN lB
  rw [Dp]
  rcases wy f p l 0 h with ⟨e, h1⟩ | ⟨A, x, B, rfl, h1, h2, e⟩
  · rw [e, Option.bind_some]
    have : l.any p = false := by rw [List.any_eq_false]; intro x hx; rw [h1 x hx]; simp
    rw [this]; rfl
  · rw [e, Option.bind_some]
    have : (A ++ x :: B).any p = true := by simp [h2]
    rw [this]
    congr 1
theorem Hk : ∀ (n : Nat) (f : aB), nS f ≤ n → mD n f = some (rR f) := by
  intro n
  induction n with
  | zero => intro f h; rw [lF] at h; omega
  | succ n ih =>
    intro f h
    rw [lF] at h
    rw [mD]
    unfold oI
    rw [Ix, Option.bind_some, Dx, Ak _ (fun k => !rR k) f.Kids (fun k hk => by unfold nI; rw [ih k (by have := tS hk; omega)]; rfl)]
    rw [zy]
    have e : (!(f.Kids.any fun k => !rR k)) = f.Kids.all rR := by rw [List.all_eq_not_any_not]
    cases zZ f
    · rfl
    · by_cases hl : f.Kids.length ≤ 8
      · have : ((f.Kids.length : Int) ≤ 8) := by omega
        simp [hl, this, e]
      · have : ¬ ((f.Kids.length : Int) ≤ 8) := by omega
        simp [hl, this]
def fS (f : aB) : Bool := decide (cA f ≤ 64) && decide (nS f ≤ 6) && rR f
theorem tP (f : aB) (hn : cA f ≤ 50000000) : gP f = some (fS f) := by
  unfold gP fS
  have hd := xV f
  rw [I8 f hn, Option.bind_some, Hk cE f (by rw [gw]; omega)]
  have h1 := mM f
  by_cases h : cA f ≤ 4096
  · simp only [h, if_true]
    have a : ((cA f : Int) ≥ 1) := by omega
    simp only [a, decide_true, if_true, Option.bind_some, kL]
    by_cases c1 : cA f ≤ 64 <;> by_cases c2 : nS f ≤ 6
    · have d1 : ((cA f : Int) ≤ 64) := by omega
      have d2 : ((nS f : Int) ≤ 6) := by omega
      simp [c1, c2, d1, d2]
    · have d1 : ((cA f : Int) ≤ 64) := by omega
      have d2 : ¬ ((nS f : Int) ≤ 6) := by omega
      simp [c1, c2, d1, d2]
    · have d1 : ¬ ((cA f : Int) ≤ 64) := by omega
      simp [c1, d1]
    · have d1 : ¬ ((cA f : Int) ≤ 64) := by omega
      simp [c1, d1]
  · simp only [h, if_false]
    have : ¬ cA f ≤ 64 := by omega
    simp [this]
theorem aB.ext' {a b : aB} (h1 : a.Op = b.Op) (h2 : a.K = b.K) (h3 : a.Role = b.Role) (h4 : a.Kids = b.Kids) : a = b := by
  cases a; cases b; simp only at h1 h2 h3 h4; subst h1 h2 h3 h4; rfl
theorem Gb (g : aB × aB → Option Bool) : ∀ (l m : List aB), l.length = m.length → (∀ x ∈ l, ∀ y, ∃ b, g (x, y) = some b ∧ (b = true ↔ x = y)) → ∀ (A : List aB),
    ∃ b, bP (A ++ m) g l A.length = some b ∧ (b = true ↔ l = m)
  | [], m, hl, _, A => by
    obtain rfl := List.eq_nil_of_length_eq_zero hl.symm
    exact ⟨true, rfl, by simp⟩
  | x :: l, [], hl, _, A => by simp at hl
  | x :: l, y :: m, hl, hg, A => by
    rw [bP]
    obtain ⟨b, e, h⟩ := hg x (by simp) y
    have i1 : dK (A ++ y :: m) (A.length : Int) = some y := fO _ _ _ _ rfl
    rw [i1, Option.bind_some, e, Option.bind_some]
    cases b with
    | false =>
      refine ⟨false, rfl, ?_⟩
      have : x ≠ y := fun hxy => by have := h.2 hxy; simp at this
      simp [this]
    | true =>
      have hxy := h.1 rfl
      obtain ⟨b, e2, h2⟩ := Gb g l m (by simpa using hl) (fun z hz => hg z (by simp [hz])) (A ++ [y])
      simp only [Bool.not_true, Bool.false_eq_true, if_false]
      have e3 : A ++ y :: m = (A ++ [y]) ++ m := by simp
      have e4 : A.length + 1 = (A ++ [y]).length := by simp
      rw [e3, e4, e2]
      exact ⟨b, rfl, by rw [h2]; simp [hxy]⟩
theorem IN : ∀ (n : Nat) (f : aB), nS f ≤ n → ∀ g, ∃ b, iE n f g = some b ∧ (b = true ↔ f = g) := by
  intro n
  induction n with
  | zero => intro f h; rw [lF] at h; omega
  | succ n ih =>
    intro f h g
    rw [lF] at h
    rw [iE]
    unfold pK
    by_cases h1 : f.Op = g.Op
    · by_cases h2 : f.K = g.K
      · by_cases h3 : f.Role = g.Role
        · have e3 : bA f.Role g.Role = true := aZ.2 h3
          simp only [h1, h2, e3, beq_self_eq_true, if_true, Option.bind_some]
          unfold dP
          by_cases hl : f.Kids.length = g.Kids.length
          · have : ((f.Kids.length : Int) != (g.Kids.length : Int)) = false := by simp [hl]
            simp only [this, Bool.false_eq_true, if_false]
            obtain ⟨b, e, hb⟩ := Gb (fun x => iE n x.1 x.2) f.Kids g.Kids hl (fun x hx y => ih x (by have := tS hx; omega) y) []
            simp only [List.nil_append, List.length_nil] at e
            rw [e]
            refine ⟨b, by simp, hb.trans ⟨fun hk => aB.ext' h1 h2 h3 hk, fun hk => by rw [hk]⟩⟩
          · have : ((f.Kids.length : Int) != (g.Kids.length : Int)) = true := by simp; omega
            simp only [this, if_true]
            exact ⟨false, rfl, by simp; intro hk; rw [hk] at hl; exact hl rfl⟩
        · have e3 : bA f.Role g.Role = false := by rw [← Bool.not_eq_true, aZ]; exact h3
          simp only [h1, h2, e3, beq_self_eq_true, if_true, Option.bind_some, Bool.false_eq_true, if_false]
          exact ⟨false, rfl, by simp; intro hk; rw [hk] at h3; exact h3 rfl⟩
      · have e2 : (f.K == g.K) = false := by simpa using h2
        simp only [h1, e2, beq_self_eq_true, if_true, Option.bind_some, Bool.false_eq_true, if_false]
        exact ⟨false, rfl, by simp; intro hk; rw [hk] at h2; exact h2 rfl⟩
    · have e1 : (f.Op == g.Op) = false := by simpa using h1
      simp only [e1, Option.bind_some, Bool.false_eq_true, if_false]
      exact ⟨false, rfl, by simp; intro hk; rw [hk] at h1; exact h1 rfl⟩
end Go.Proofs.YtmlncblocfcmiaaGreat
namespace Go.Proofs.YtmlncblocfcmiaaGreat
open Go.RowKit
mutual
def wc : aB → List Int
  | ⟨o, k, r, ks⟩ => o :: (if o = 1 then nF r else (if o = 4 then [k] else []) ++ ((ks.length : Int) :: bytesFL ks))
def bytesFL : List aB → List Int
  | [] => []
  | k :: ks => wc k ++ bytesFL ks
end
theorem GZ (f : aB) : wc f = f.Op :: (if f.Op = 1 then nF f.Role else (if f.Op = 4 then [f.K] else []) ++ ((f.Kids.length : Int) :: bytesFL f.Kids)) := by cases f; rw [wc]
theorem xr {f : aB} (h : rR f = true) : f.Kids.length ≤ 8 ∧ wellL f.Kids = true ∧ ((f.Op = 1 ∧ dY f.Role = true ∧ f.Kids = [] ∧ f.K = 0) ∨ ((f.Op = 2 ∨ f.Op = 3) ∧ f.Role = nT ∧ f.K = 0) ∨ (f.Op = 4 ∧ f.Role = nT ∧ 0 ≤ f.K ∧ f.K ≤ (f.Kids.length : Int) ∧ 1 ≤ f.Kids.length)) := by
  rw [Dx] at h
  simp only [Bool.and_eq_true, decide_eq_true_eq] at h
  obtain ⟨⟨h1, h2⟩, h3⟩ := h
  refine ⟨h2, h3, ?_⟩
  unfold zZ at h1
  split at h1
  · rename_i c
    simp only [Bool.and_eq_true, decide_eq_true_eq] at h1
    exact .inl ⟨c, h1.1.1, List.eq_nil_of_length_eq_zero h1.1.2, h1.2⟩
  · split at h1
    · rename_i c
      simp only [Bool.and_eq_true, decide_eq_true_eq, aZ] at h1
      exact .inr (.inl ⟨c, h1.1, h1.2⟩)
    · simp only [Bool.and_eq_true, decide_eq_true_eq, aZ] at h1
      exact .inr (.inr ⟨h1.1.1.1.1, h1.1.1.1.2, h1.1.1.2, h1.1.2, h1.2⟩)
theorem JI : ∀ (n : Nat) (f : aB), nS f ≤ n → rR f = true → ∀ l : List Int, l.length + 40 * cA f ≤ 8000 → kN n l f = some (l ++ wc f) ∧ (wc f).length ≤ 40 * cA f := by
  intro n
  induction n with
  | zero => intro f h; rw [lF] at h; omega
  | succ n ih =>
    intro f hd hw l hl
    rw [lF] at hd
    have hnf := mM f
    obtain ⟨h1, h2, h3⟩ := xr hw
    rw [kN]
    unfold oG
    have hop : 0 ≤ f.Op ∧ f.Op < 128 := by rcases h3 with h | h | h <;> omega
    rw [tV hop.1 hop.2 (by omega), Option.bind_some, GZ]
    have key : ∀ (ks : List aB), (∀ k ∈ ks, k ∈ f.Kids) → wellL ks = true → ∀ l : List Int, l.length + 40 * nodesL ks ≤ 8000 → iM (kN n) ks l = some (l ++ bytesFL ks) ∧ (bytesFL ks).length ≤ 40 * nodesL ks := by
      intro ks
      induction ks with
      | nil => intro _ _ l _; rw [iM, bytesFL]; simp
      | cons k ks ih2 =>
        intro hk hwk l hl
        rw [wellL, Bool.and_eq_true] at hwk
        rw [nodesL] at hl
        obtain ⟨e1, e2⟩ := ih k (by have := tS (hk k (by simp)); omega) hwk.1 l (by omega)
        obtain ⟨e3, e4⟩ := ih2 (fun z hz => hk z (by simp [hz])) hwk.2 (l ++ wc k) (by simp; omega)
        rw [iM, e1, Option.bind_some, e3, bytesFL, nodesL]
        exact ⟨by simp, by simp; omega⟩
    have hlen : 0 ≤ (f.Kids.length : Int) ∧ (f.Kids.length : Int) < 128 := by omega
    by_cases c1 : f.Op = 1
    · have hr : dY f.Role = true := by rcases h3 with h | h | h; exact h.2.1; omega; omega
      have := jP hr
      simp only [c1, beq_self_eq_true, if_true]
      rw [Dv hr (by simp; omega), Option.bind_some]
      exact ⟨by simp, by simp; omega⟩
    · have e1 : (f.Op == 1) = false := by simpa using c1
      simp only [e1, Bool.false_eq_true, if_false, c1]
      by_cases c4 : f.Op = 4
      · have hk : 0 ≤ f.K ∧ f.K < 128 := by rcases h3 with h | h | h <;> omega
        simp only [c4, beq_self_eq_true, if_true]
        rw [tV hk.1 hk.2 (by simp; omega)]
        simp only [Option.bind_some]
        rw [tV hlen.1 hlen.2 (by simp; omega)]
        simp only [Option.bind_some]
        obtain ⟨e3, e4⟩ := key f.Kids (fun k hk => hk) h2 (l ++ [4] ++ [f.K] ++ [(f.Kids.length : Int)]) (by simp; omega)
        rw [e3]
        exact ⟨by simp, by simp; omega⟩
      · have e4 : (f.Op == 4) = false := by simpa using c4
        simp only [e4, Bool.false_eq_true, if_false, c4, Option.bind_some]
        rw [tV hlen.1 hlen.2 (by simp; omega)]
        simp only [Option.bind_some]
        obtain ⟨e3, e5⟩ := key f.Kids (fun k hk => hk) h2 (l ++ [f.Op] ++ [(f.Kids.length : Int)]) (by simp; omega)
        rw [e3]
        exact ⟨by simp, by simp; omega⟩
def Aq (f : aB) : List Int := if fS f then wc f else []
abbrev Gd (f : aB) : Prop := cA f ≤ 50000000
theorem ye {f : aB} (h : fS f = true) : cA f ≤ 64 ∧ nS f ≤ 6 ∧ rR f = true := by
  unfold fS at h
  simp only [Bool.and_eq_true, decide_eq_true_eq] at h
  exact ⟨h.1.1, h.1.2, h.2⟩
theorem JX (f : aB) (hn : Gd f) (l : List Int) (hl : l.length ≤ 5000) : pS l f = some (fS f, l ++ Aq f) ∧ (Aq f).length ≤ 2560 := by
  unfold pS Aq
  rw [tP f hn, Option.bind_some]
  cases h : fS f
  · simp
  · obtain ⟨h1, h2, h3⟩ := ye h
    obtain ⟨e1, e2⟩ := JI cE f (by rw [gw]; omega) h3 l (by omega)
    simp only [Bool.not_true, Bool.false_eq_true, if_false, e1, Option.bind_some, if_true]
    exact ⟨trivial, by omega⟩
theorem BL (f : aB) (hn : Gd f) : mH f = some (Aq f) := by
  unfold mH
  obtain ⟨e1, e2⟩ := JX f hn [] (by simp)
  rw [e1, Option.bind_some, kL]
  unfold mZ
  simp only [List.nil_append]
  rw [Jx (by omega)]
  rfl
def Fj (f g : aB) : Int := tZ (Aq f) (Aq g)
theorem FO (f g : aB) (hf : Gd f) (hg : Gd g) : mI f g = some (Fj f g) := by
  unfold mI pW
  rw [BL f hf, BL g hg]
  rfl
theorem xy (f g : aB) : iF Fj f g = Op.bytesLess (qZ (Aq f)) (qZ (Aq g)) := by
  rw [Bool.eq_iff_iff]
  have h : iF Fj f g = true ↔ Fj f g < 0 := by unfold iF; exact decide_eq_true_iff
  exact h.trans (xI _ _)
theorem KN : SWO (iF Fj) where
  irr x := by rw [xy, wF]
  tr x y z h1 h2 := by rw [xy] at *; exact vS _ _ _ h1 h2
  ntr x y z h := by
    rw [xy] at h
    rw [xy, xy]
    rcases yz (qZ (Aq x)) (qZ (Aq y)) with h1 | h1 | h1
    · exact .inl h1
    · rw [h1] at h; exact .inr h
    · exact .inr (vS _ _ _ h1 h)
def tT (l : List aB) : List aB := DP (iF Fj) l
theorem Eo (l : List aB) (hG : ∀ x ∈ l, Gd x) (hl : l.length ≤ 300000) : oR l = some (tT l) := by
  unfold oR nG
  rw [gM (by simp; omega) (by simp; omega)]
  simp only [Option.bind_some, List.nil_append, kL]
  exact FY KN (fun x y hx hy => FO x y hx hy) l hG hl
theorem GR {α : Type} (lt : α → α → Bool) (l : List α) (k : α) : (AA lt l k).Perm (l ++ [k]) := by
  unfold AA
  refine List.perm_middle.trans ((List.Perm.cons _ ?_).trans (List.perm_append_singleton k l).symm)
  have := List.filter_append_perm (fun x => !lt k x) l
  simpa using this
theorem GX {α : Type} (lt : α → α → Bool) (l : List α) : (DP lt l).Perm l := by
  suffices H : ∀ (l a : List α), (l.foldl (AA lt) a).Perm (a ++ l) by have := H l []; rwa [List.nil_append] at this
  intro l
  induction l with
  | nil => intro a; simp
  | cons k l ih =>
    intro a
    rw [List.foldl_cons]
    refine (ih _).trans ?_
    have := (GR lt a k).append_right l
    simpa using this
theorem qX (l : List aB) : (tT l).Perm l := GX _ l
noncomputable def ux (a b : aB) : Bool := @decide (a = b) (Classical.propDecidable _)
theorem B7 {a b : aB} : ux a b = true ↔ a = b := by unfold ux; simp
theorem Ja (a b : aB) (h : Gd a) : iE cE a b = some (ux a b) := by
  have := xV a
  obtain ⟨x, e, hx⟩ := IN cE a (by rw [gw]; omega) b
  rw [e]; congr 1
  rw [Bool.eq_iff_iff, hx, B7]
def Ky : aB := ⟨0, 0, ⟨zS, zS⟩, []⟩
theorem HP (f1 : aB × aB → Option Bool) (i : Int) : ∀ (n : Nat) (l : List aB) (k j : Int), (∀ x ∈ l, ∀ y ∈ l, f1 (x, y) = some (ux x y)) → eD i f1 n l k j = vQ ux i n l k j
  | 0, l, k, j, _ => by rw [eD, vQ]
  | n + 1, l, k, j, h => by
    rw [eD, vQ]
    split
    · cases e1 : dK (l.drop (Int.toNat i)) j with
      | none => rfl
      | some x =>
        cases e2 : dK (l.drop (Int.toNat i)) (IntKind.i64.wrap (j - 1)) with
        | none => rfl
        | some y =>
          have hx : x ∈ l := List.mem_of_mem_drop (List.mem_of_getElem? (bT e1))
          have hy : y ∈ l := List.mem_of_mem_drop (List.mem_of_getElem? (bT e2))
          simp only [Option.bind_some, h x hx y hy]
          cases ux x y
          · simp only [Bool.not_false, if_true]
            cases e3 : dK l k with
            | none => rfl
            | some z =>
              simp only [Option.bind_some]
              refine HP f1 i n _ _ _ (fun a ha b hb => ?_)
              have m : ∀ a ∈ l.set (Int.toNat k) x, a ∈ l := fun a ha => by
                rcases List.mem_or_eq_of_mem_set ha with ha | rfl
                · exact ha
                · exact hx
              exact h a (m a ha) b (m b hb)
          · simp only [Bool.not_true, Bool.false_eq_true, if_false, Option.bind_some]
            exact HP f1 i n _ _ _ h
    · rfl
theorem Ju (f1 : aB × aB → Option Bool) (l : List aB) (h : ∀ x ∈ l, ∀ y ∈ l, f1 (x, y) = some (ux x y)) : ∀ (n : Nat) (i : Int), eC l f1 n i = wZ ux Ky l n i
  | 0, i => by rw [eC, wZ]
  | n + 1, i => by
    rw [eC, wZ]
    split
    · cases e1 : dK l i with
      | none => rfl
      | some x =>
        cases e2 : dK l (IntKind.i64.wrap (i - 1)) with
        | none => rfl
        | some y =>
          have hx : x ∈ l := List.mem_of_getElem? (bT e1)
          have hy : y ∈ l := List.mem_of_getElem? (bT e2)
          simp only [Option.bind_some, h x hx y hy]
          rw [HP f1 i cE l i 1 h, Ju f1 l h n]
          rfl
    · rfl
theorem FX (l : List aB) (h : ∀ x ∈ l, Gd x) (hl : l.length ≤ 300000) : iC l (fun x => iE cE x.1 x.2) = some (dd ux l) := by
  rw [← DW ux Ky l (by omega)]
  unfold iC DG
  rw [Ju _ l (fun x hx y _ => Ja x y (h x hx))]
end Go.Proofs.YtmlncblocfcmiaaGreat
