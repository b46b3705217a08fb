/- a part of a proof of StuckTells -/
import Derived.Test.YtmlncblocfcmiaaGreatRtVt
import Derived.Test.YtmlncblocfcmiaaGreatS1Mt
set_option linter.all false
namespace Go.Proofs.YtmlncblocfcmiaaGreat
open Go.RowKit
theorem xv {c x : Bool} : (if c = true then some x else some false : Option Bool) = some (c && x) := by cases c <;> rfl
theorem KJ {c x : Bool} : (if c = true then some true else some x : Option Bool) = some (c || x) := by cases c <;> rfl
theorem gi {α : Type} (x : Option α) : (x.bind fun y => some y) = x := by cases x <;> rfl
theorem cP {x : Int} (a : -9223372036854775808 ≤ x) (h1 : x ≤ 9223372036854775807) : IntKind.i64.wrap x = x := IntWalk.i64_in _ (by omega)
theorem fk {α : Type} (A : List α) (x : α) (B : List α) (i : Int) (h : i = (A.length : Int)) : dU (A ++ x :: B) i = some x := by
  subst h; rw [zt]; simp
theorem eG : bL = 18446744073709551615 + 1 := by rw [qz]
def wT {α : Type} (f1 : α → Option Bool) (z : α) : Nat → List α → Int → Int → Option (List α)
  | 0, _, _, _ => none
  | n + 1, l, i, j => if decide (j < (l.length : Int)) then
      ((dU l j).bind fun x => (f1 x).bind fun r => if (!r) then (dU l i).bind fun _ => some (l.set (Int.toNat i) x, IntKind.i64.wrap (i + 1)) else some (l, i) : Option (List α × Int)).bind fun (b, a) => wT f1 z n b a (IntKind.i64.wrap (j + 1))
    else (lV (decide (0 ≤ i) && decide (i ≤ (l.length : Int)))).bind fun _ => (lV (decide (0 ≤ i) && decide (i ≤ ((ib l (Int.toNat i) z).length : Int)))).bind fun _ => some ((ib l (Int.toNat i) z).take (Int.toNat i))
theorem yA {a b : Int} (d : 0 ≤ a) (h1 : a ≤ b) : lV (decide (0 ≤ a) && decide (a ≤ b)) = some () := by simp [lV, d, h1]
theorem EG {α : Type} (f1 : α → Option Bool) (p : α → Bool) (z : α) : ∀ (rest out mid : List α) (n : Nat), rest.length < n → (out ++ mid ++ rest).length < 4611686018427387904 → mid ≠ [] → (∀ x ∈ rest, f1 x = some (p x)) →
    wT f1 z n (out ++ mid ++ rest) (out.length : Int) ((out.length + mid.length : Nat) : Int) = some (out ++ rest.filter fun x => !p x)
  | [], out, mid, 0, h, _, _, _ => by simp at h
  | [], out, mid, n + 1, _, b, hm, _ => by
    rw [wT, if_neg (by simp)]
    have h1 : out.length ≤ (out ++ mid ++ []).length := by simp
    rw [yA (by omega) (by omega)]
    simp only [Option.bind_some]
    rw [yA (by omega) (by rw [oW _ _ _ (by simpa using h1)]; omega)]
    simp only [Option.bind_some, Int.toNat_natCast]
    rw [zV _ _ _ h1]
    simp
  | x :: rest, out, mid, 0, h, _, _, _ => by simp at h
  | x :: rest, out, mid, n + 1, h, b, hm, d => by
    have hlen : (out ++ mid ++ x :: rest).length = out.length + mid.length + rest.length + 1 := by simp; omega
    rw [hlen] at b
    rw [wT, if_pos (by rw [hlen]; simp; omega)]
    rw [fk (out ++ mid) x rest _ (by simp)]
    simp only [Option.bind_some, d x (by simp)]
    rw [cP (x := ((out.length + mid.length : Nat) : Int) + 1) (by omega) (by omega)]
    have ih := EG f1 p z rest
    cases hp : p x with
    | true =>
      simp only [Bool.not_true, Bool.false_eq_true, if_false, Option.bind_some]
      have := ih out (mid ++ [x]) n (by simp at h; omega) (by simp; omega) (by simp) (fun y g => d y (by simp [g]))
      simp only [List.append_assoc, List.cons_append, List.nil_append, List.length_append, List.length_cons, List.length_nil] at this ⊢
      rw [show ((out.length + mid.length : Nat) : Int) + 1 = ((out.length + (mid.length + (0 + 1)) : Nat) : Int) by omega, this]
      simp [hp]
    | false =>
      obtain ⟨m, a, rfl⟩ : ∃ m a, mid = m :: a := by cases mid with
        | nil => exact absurd rfl hm
        | cons m a => exact ⟨m, a, rfl⟩
      simp only [Bool.not_false, if_true]
      rw [List.append_assoc out (m :: a) (x :: rest), List.cons_append]
      rw [fk out m (a ++ x :: rest) _ rfl]
      simp only [Option.bind_some]
      rw [cP (x := (out.length : Int) + 1) (by omega) (by simp at b; omega)]
      have := ih (out ++ [x]) (a ++ [x]) n (by simp at h; omega) (by simp at b ⊢; omega) (by simp) (fun y g => d y (by simp [g]))
      simp only [List.append_assoc, List.cons_append, List.nil_append, List.length_append, List.length_cons, List.length_nil] at this
      have i : (out ++ m :: (a ++ x :: rest)).set (Int.toNat (out.length : Int)) x = out ++ x :: (a ++ x :: rest) := by
        rw [Int.toNat_natCast, List.set_append_right _ _ (Nat.le_refl _)]; simp
      rw [i]
      simp only [List.length_cons] at b ⊢
      rw [show (out.length : Int) + 1 = ((out.length + (0 + 1) : Nat) : Int) by omega, show ((out.length + (a.length + 1) : Nat) : Int) + 1 = ((out.length + (0 + 1) + (a.length + (0 + 1)) : Nat) : Int) by omega, this]
      simp [hp]
def tk {α : Type} (f1 : α → Option Bool) : List α → Nat → Option Int
  | [], _ => some (-1)
  | x :: xs, i => (f1 x).bind fun r => if r then some (i : Int) else tk f1 xs (i + 1)
theorem tg {α : Type} (f1 : α → Option Bool) (p : α → Bool) : ∀ (l : List α) (i : Nat), (∀ x ∈ l, f1 x = some (p x)) →
    (tk f1 l i = some (-1) ∧ ∀ x ∈ l, p x = false) ∨ ∃ A x B, l = A ++ x :: B ∧ (∀ y ∈ A, p y = false) ∧ p x = true ∧ tk f1 l i = some ((i + A.length : Nat) : Int)
  | [], i, _ => .inl ⟨rfl, by simp⟩
  | x :: l, i, h => by
    rw [tk, h x (by simp)]
    simp only [Option.bind_some]
    cases hp : p x with
    | true => exact .inr ⟨[], x, l, rfl, by simp, hp, by simp⟩
    | false =>
      simp only [Bool.false_eq_true, if_false]
      rcases tg f1 p l (i + 1) (fun y a => h y (by simp [a])) with ⟨h1, b⟩ | ⟨A, y, B, rfl, h1, b, g⟩
      · exact .inl ⟨h1, by intro y a; rcases List.mem_cons.1 a with rfl | a; exact hp; exact b y a⟩
      · refine .inr ⟨x :: A, y, B, rfl, ?_, b, ?_⟩
        · intro z d; rcases List.mem_cons.1 d with rfl | d
          · exact hp
          · exact h1 z d
        · rw [g]; simp; omega
def Cg {α : Type} (f1 : α → Option Bool) (z : α) (l : List α) : Option (List α) :=
  (tk f1 l 0).bind fun a => if (a == ((-1))) then some l else wT f1 z bL l a (IntKind.i64.wrap (a + 1))
theorem wX {α : Type} (f1 : α → Option Bool) (p : α → Bool) (z : α) (l : List α) (d : l.length < 4611686018427387904) (h : ∀ x ∈ l, f1 x = some (p x)) : Cg f1 z l = some (l.filter fun x => !p x) := by
  unfold Cg
  rcases tg f1 p l 0 h with ⟨h1, b⟩ | ⟨A, x, B, rfl, h1, b, g⟩
  · rw [h1]
    simp only [Option.bind_some, beq_self_eq_true, if_true]
    rw [List.filter_eq_self.2 (fun y a => by simp [b y a])]
  · rw [g]
    simp only [Option.bind_some, Nat.zero_add]
    rw [if_neg (by simp), cP (by omega) (by simp at d; omega)]
    have := EG f1 p z B A [x] bL (by rw [qz]; simp at d; omega) (by simpa using d) (by simp) (fun y a => h y (by simp [a]))
    simp only [List.append_assoc, List.cons_append, List.nil_append, List.length_cons, List.length_nil] at this
    rw [show (A.length : Int) + 1 = ((A.length + (0 + 1) : Nat) : Int) by omega, this]
    have i : A.filter (fun x => !p x) = A := List.filter_eq_self.2 (fun y a => by simp [h1 y a])
    rw [List.filter_append, i]
    simp [b]
def fw {α : Type} (eq : α → α → Bool) : α → List α → List α
  | _, [] => []
  | p, y :: ys => if eq y p then fw eq y ys else y :: fw eq y ys
def dd {α : Type} (eq : α → α → Bool) : List α → List α
  | [] => []
  | x :: xs => x :: fw eq x xs
def vq {α : Type} (eq : α → α → Bool) (i : Int) : Nat → List α → Int → Int → Option (List α × Int)
  | 0, _, _, _ => none
  | n + 1, l, k, j => if decide (j < ((l.length - Int.toNat i : Nat) : Int)) then
      ((dU (l.drop (Int.toNat i)) j).bind fun x => (dU (l.drop (Int.toNat i)) (IntKind.i64.wrap (j - 1))).bind fun y => if !(eq x y) then (dU (l.drop (Int.toNat i)) j).bind fun z => (dU l k).bind fun _ => some (l.set (Int.toNat k) z, IntKind.i64.wrap (k + 1)) else some (l, k) : Option (List α × Int)).bind fun (a, k') => vq eq i n a k' (IntKind.i64.wrap (j + 1))
    else some (l, k)
def wq {α : Type} (eq : α → α → Bool) (z : α) (l : List α) : Nat → Int → Option (List α)
  | 0, _ => none
  | n + 1, i => if decide (i < (l.length : Int)) then (dU l i).bind fun x => (dU l (IntKind.i64.wrap (i - 1))).bind fun y => if eq x y then
        (lV (decide (0 ≤ i) && decide (i ≤ (l.length : Int)))).bind fun _ => (vq eq i bL l i 1).bind fun (a, k) => (lV (decide (0 ≤ k) && decide (k ≤ (a.length : Int)))).bind fun _ => (lV (decide (0 ≤ k) && decide (k ≤ ((ib a (Int.toNat k) z).length : Int)))).bind fun _ => some ((ib a (Int.toNat k) z).take (Int.toNat k))
      else wq eq z l n (IntKind.i64.wrap (i + 1))
    else some l
def D8 {α : Type} (eq : α → α → Bool) (z : α) (l : List α) : Option (List α) := if decide ((l.length : Int) < 2) then some l else wq eq z l bL 1
theorem Ey {α : Type} (l : List α) (i : Nat) (j : Int) (a : 0 ≤ j) : dU (l.drop i) j = dU l ((i : Int) + j) := by
  obtain ⟨m, rfl⟩ : ∃ m : Nat, j = m := ⟨j.toNat, by omega⟩
  rw [show (i : Int) + (m : Int) = ((i + m : Nat) : Int) by omega, zt, zt, List.getElem?_drop]
theorem AP {α : Type} (eq : α → α → Bool) (i : Nat) : ∀ (rest out mid : List α) (p : α) (n : Nat), rest.length < n → (out ++ (mid ++ [p]) ++ rest).length < 4611686018427387904 → 1 ≤ i → i ≤ out.length →
    ∃ b, vq eq (i : Int) n (out ++ (mid ++ [p]) ++ rest) (out.length : Int) ((out.length + mid.length + 1 - i : Nat) : Int) = some (b, ((out ++ fw eq p rest).length : Int)) ∧ b.take (out ++ fw eq p rest).length = out ++ fw eq p rest ∧ (out ++ fw eq p rest).length ≤ b.length
  | [], out, mid, p, 0, h, _, _, _ => by simp at h
  | [], out, mid, p, n + 1, h, l, h1, k => by
    rw [vq, if_neg (by simp; omega)]
    exact ⟨out ++ (mid ++ [p]) ++ [], by simp [fw], by simp [fw], by simp [fw]⟩
  | x :: rest, out, mid, p, 0, h, _, _, _ => by simp at h
  | x :: rest, out, mid, p, n + 1, h, l, h1, k => by
    have hlen : (out ++ (mid ++ [p]) ++ x :: rest).length = out.length + mid.length + rest.length + 2 := by simp; omega
    rw [hlen] at l
    rw [vq, if_pos (by rw [hlen]; simp; omega)]
    rw [Int.toNat_natCast, Ey _ _ _ (by omega), fk (out ++ (mid ++ [p])) x rest _ (by simp; omega)]
    simp only [Option.bind_some]
    rw [cP (x := ((out.length + mid.length + 1 - i : Nat) : Int) - 1) (by omega) (by omega), Ey _ _ _ (by omega)]
    rw [show out ++ (mid ++ [p]) ++ x :: rest = (out ++ mid) ++ p :: (x :: rest) by simp]
    rw [fk (out ++ mid) p (x :: rest) _ (by simp; omega)]
    simp only [Option.bind_some]
    rw [cP (x := ((out.length + mid.length + 1 - i : Nat) : Int) + 1) (by omega) (by omega)]
    cases hp : eq x p with
    | true =>
      simp only [Bool.not_true, Bool.false_eq_true, if_false, Option.bind_some]
      obtain ⟨b, d, g, j⟩ := AP eq i rest out (mid ++ [p]) x n (by simp at h; omega) (by simp; omega) h1 k
      refine ⟨b, ?_, by rw [fw, hp]; exact g, by rw [fw, hp]; exact j⟩
      rw [fw, hp, if_pos rfl, ← d]
      congr 1
      · simp
      · simp; omega
    | false =>
      simp only [Bool.not_false, if_true]
      obtain ⟨m, a, hm⟩ : ∃ m a, mid ++ [p] = m :: a := by cases mid with
        | nil => exact ⟨p, [], rfl⟩
        | cons m a => exact ⟨m, a ++ [p], rfl⟩
      have r : a.length = mid.length := by have := congrArg List.length hm; simp at this; omega
      rw [show (out ++ mid) ++ p :: (x :: rest) = out ++ m :: (a ++ x :: rest) by rw [← List.cons_append, ← hm]; simp]
      rw [fk out m (a ++ x :: rest) _ rfl]
      simp only [Option.bind_some]
      rw [cP (x := (out.length : Int) + 1) (by omega) (by omega)]
      have s : (out ++ m :: (a ++ x :: rest)).set (Int.toNat (out.length : Int)) x = (out ++ [x]) ++ (a ++ [x]) ++ rest := by
        rw [Int.toNat_natCast, List.set_append_right _ _ (Nat.le_refl _)]; simp
      rw [s]
      obtain ⟨b, d, g, j⟩ := AP eq i rest (out ++ [x]) a x n (by simp at h; omega) (by simp; omega) h1 (by simp; omega)
      refine ⟨b, ?_, ?_, ?_⟩
      · rw [fw, hp, if_neg (by decide)]
        have q : ((out ++ x :: fw eq x rest).length : Int) = ((out ++ [x] ++ fw eq x rest).length : Int) := by simp
        rw [q, ← d]
        congr 1
        · simp
        · simp; omega
      · rw [fw, hp, if_neg (by decide)]; simpa using g
      · rw [fw, hp, if_neg (by decide)]; simpa using j
theorem EF {α : Type} (eq : α → α → Bool) (z : α) : ∀ (rest pre : List α) (p : α) (n : Nat), rest.length < n → (pre ++ p :: rest).length < 4611686018427387904 →
    wq eq z (pre ++ p :: rest) n ((pre.length + 1 : Nat) : Int) = some (pre ++ p :: fw eq p rest)
  | [], pre, p, 0, h, _ => by simp at h
  | [], pre, p, n + 1, h, i => by rw [wq, if_neg (by simp)]; simp [fw]
  | x :: rest, pre, p, 0, h, _ => by simp at h
  | x :: rest, pre, p, n + 1, h, i => by
    have hlen : (pre ++ p :: x :: rest).length = pre.length + rest.length + 2 := by simp; omega
    rw [hlen] at i
    rw [wq, if_pos (by rw [hlen]; simp; omega)]
    rw [show pre ++ p :: x :: rest = (pre ++ [p]) ++ x :: rest by simp, fk (pre ++ [p]) x rest _ (by simp)]
    simp only [Option.bind_some]
    rw [cP (x := ((pre.length + 1 : Nat) : Int) - 1) (by omega) (by omega)]
    rw [show (pre ++ [p]) ++ x :: rest = pre ++ p :: (x :: rest) by simp, fk pre p (x :: rest) _ (by omega)]
    simp only [Option.bind_some]
    cases hp : eq x p with
    | true =>
      simp only [if_true]
      rw [yA (by omega) (by rw [hlen]; omega)]
      simp only [Option.bind_some]
      obtain ⟨j, a, g, d⟩ := AP eq (pre.length + 1) rest (pre ++ [p]) [] x bL (by rw [qz]; omega) (by simp; omega) (by omega) (by simp)
      simp only [List.append_assoc, List.cons_append, List.nil_append, List.length_append, List.length_cons, List.length_nil] at a g d
      rw [show (pre.length + (0 + 1) + 0 + 1 - (pre.length + 1) : Nat) = 1 by omega] at a
      rw [show ((pre.length + 1 : Nat) : Int) = ((pre.length + (0 + 1) : Nat) : Int) by omega] at *
      have b : vq eq ((pre.length + (0 + 1) : Nat) : Int) bL (pre ++ p :: x :: rest) ((pre.length + (0 + 1) : Nat) : Int) 1 = _ := a
      rw [b]
      simp only [Option.bind_some]
      rw [yA (by omega) (by omega)]
      simp only [Option.bind_some, Int.toNat_natCast]
      rw [yA (by omega) (by rw [oW _ _ _ d]; omega)]
      simp only [Option.bind_some]
      rw [zV _ _ _ d, g, fw, hp]
      simp
    | false =>
      simp only [Bool.false_eq_true, if_false]
      rw [cP (x := ((pre.length + 1 : Nat) : Int) + 1) (by omega) (by omega)]
      have := EF eq z rest (pre ++ [p]) x n (by simp at h; omega) (by simp; omega)
      simp only [List.append_assoc, List.cons_append, List.nil_append, List.length_append, List.length_cons, List.length_nil] at this
      rw [show ((pre.length + 1 : Nat) : Int) + 1 = ((pre.length + (0 + 1) + 1 : Nat) : Int) by omega, this, fw, hp]
      simp
theorem EZ {α : Type} (eq : α → α → Bool) (z : α) (l : List α) (a : l.length < 4611686018427387904) : D8 eq z l = some (dd eq l) := by
  unfold D8
  cases l with
  | nil => rfl
  | cons x xs =>
    cases xs with
    | nil => simp [dd, fw]
    | cons y ys =>
      rw [if_neg (by simp; omega)]
      have := EF eq z (y :: ys) [] x bL (by rw [qz]; simp at a ⊢; omega) (by simpa using a)
      simpa [dd] using this
structure uk {α : Type} (lt : α → α → Prop) (P : α → Prop) : Prop where
  irrefl : ∀ x, P x → ¬ lt x x
  trans : ∀ x y z, P x → P y → P z → lt x y → lt y z → lt x z
  total : ∀ x y, P x → P y → lt x y ∨ x = y ∨ lt y x
def oI {α : Type} (lt : α → α → Prop) (P : α → Prop) (l out : List α) : Prop := out.Pairwise lt ∧ ∀ x, x ∈ out ↔ x ∈ l ∧ P x
theorem oI.unique {α : Type} {lt : α → α → Prop} {P : α → Prop} (H : uk lt P) : ∀ {l a b : List α}, oI lt P l a → oI lt P l b → a = b := by
  have key : ∀ a b : List α, (∀ x ∈ a, P x) → a.Pairwise lt → b.Pairwise lt → (∀ x, x ∈ a ↔ x ∈ b) → a = b := by
    intro a
    induction a with
    | nil => intro b _ _ _ hm; cases b with
      | nil => rfl
      | cons y ys => exact absurd ((hm y).2 (by simp)) (by simp)
    | cons x xs ih =>
      intro b n ha k hm
      cases b with
      | nil => exact absurd ((hm x).1 (by simp)) (by simp)
      | cons y ys =>
        have p : P y := n y ((hm y).2 (by simp))
        have d : P x := n x (by simp)
        have g := List.pairwise_cons.1 ha
        have i := List.pairwise_cons.1 k
        have q : x = y := by
          rcases List.mem_cons.1 ((hm x).1 (by simp)) with h | h
          · exact h
          · rcases List.mem_cons.1 ((hm y).2 (by simp)) with m | m
            · exact m.symm
            · exact absurd (H.trans x y x d p d (g.1 y m) (i.1 x h)) (H.irrefl x d)
        subst q
        congr 1
        refine ih ys (fun z j => n z (by simp [j])) g.2 i.2 (fun z => ?_)
        constructor
        · intro j
          rcases List.mem_cons.1 ((hm z).1 (by simp [j])) with h | h
          · subst h; exact absurd (g.1 z j) (H.irrefl z d)
          · exact h
        · intro j
          rcases List.mem_cons.1 ((hm z).2 (by simp [j])) with h | h
          · subst h; exact absurd (i.1 z j) (H.irrefl z d)
          · exact h
  intro l a b ha k
  exact key a b (fun x r => ((ha.2 x).1 r).2) ha.1 k.1 (fun x => (ha.2 x).trans (k.2 x).symm)
theorem xx {α : Type} {eq : α → α → Bool} (he : ∀ x y, eq x y = true ↔ x = y) : ∀ (l : List α) (p x : α), x ∈ p :: fw eq p l ↔ x ∈ p :: l
  | [], p, x => by simp [fw]
  | y :: l, p, x => by
    rw [fw]
    split
    · rename_i h
      have := (he y p).1 h
      subst this
      rw [xx he l y x]; simp
    · have := xx he l y x
      simp only [List.mem_cons] at this ⊢
      rw [this]
theorem E3 {α : Type} {eq : α → α → Bool} (he : ∀ x y, eq x y = true ↔ x = y) (l : List α) (x : α) : x ∈ dd eq l ↔ x ∈ l := by
  cases l with
  | nil => simp [dd]
  | cons y l => exact xx he l y x
theorem wo {α : Type} {eq : α → α → Bool} {lt : α → α → Prop} {P : α → Prop} (he : ∀ x y, eq x y = true ↔ x = y) (H : uk lt P) : ∀ (l : List α) (p : α), (∀ x ∈ p :: l, P x) → (p :: l).Pairwise (fun a b => ¬ lt b a) → (p :: fw eq p l).Pairwise lt
  | [], p, _, _ => by simp [fw]
  | y :: l, p, d, q => by
    have h1 := List.pairwise_cons.1 q
    rw [fw]
    split
    · rename_i h
      have := (he y p).1 h
      subst this
      exact wo he H l y (fun x j => d x (List.mem_cons_of_mem _ j)) h1.2
    · rename_i h
      have ih := wo he H l y (fun x j => d x (List.mem_cons_of_mem _ j)) h1.2
      refine List.pairwise_cons.2 ⟨fun z n => ?_, ih⟩
      have i : lt p y := by
        rcases H.total p y (d p (by simp)) (d y (by simp)) with g | g | g
        · exact g
        · exact absurd ((he y p).2 g.symm) h
        · exact absurd g (h1.1 y (by simp))
      rcases List.mem_cons.1 n with rfl | k
      · exact i
      · have m : z ∈ y :: l := (xx he l y z).1 n
        exact H.trans p y z (d p (by simp)) (d y (by simp)) (d z (List.mem_cons_of_mem _ m)) i ((List.pairwise_cons.1 ih).1 z k)
theorem HI {α : Type} {eq : α → α → Bool} {lt : α → α → Prop} {P : α → Prop} (he : ∀ x y, eq x y = true ↔ x = y) (H : uk lt P) (l : List α) (d : ∀ x ∈ l, P x) (g : l.Pairwise (fun a b => ¬ lt b a)) : (dd eq l).Pairwise lt := by
  cases l with
  | nil => simp [dd]
  | cons y l => exact wo he H l y d g
theorem Dq {α : Type} {le : α → α → Bool} {P : α → Prop} (i : ∀ a b c, P a → P b → P c → le a b = true → le b c = true → le a c = true) (h : ∀ a b, P a → P b → (le a b || le b a) = true) (l : List α) (d : ∀ x ∈ l, P x) :
    (l.mergeSort le).Pairwise (fun a b => le a b = true) := by
  have e : l = (l.attachWith P d).map Subtype.val := by simp
  have hm : ((l.attachWith P d).mergeSort fun a b => le a.1 b.1).map Subtype.val = l.mergeSort le := by
    conv => rhs; rw [e]
    exact List.map_mergeSort (fun a _ b _ => rfl)
  rw [← hm, List.pairwise_map]
  exact List.pairwise_mergeSort (le := fun (a b : {x // P x}) => le a.1 b.1) (fun a b c h1 g => i a.1 b.1 c.1 a.2 b.2 c.2 h1 g) (fun a b => h a.1 b.1 a.2 b.2) _
theorem zQ {α : Type} {eq : α → α → Bool} {lt : α → α → Prop} {P : α → Prop} {cf : α × α → Option Int} {l : List α} (he : ∀ x y, eq x y = true ↔ x = y) (H : uk lt P) (g : ∀ x ∈ l, P x) (A : l.length < 4611686018427387904) (w : ∀ x y, P x → P y → ∃ c, cf (x, y) = some c ∧ (c < 0 ↔ lt x y)) : ∃ s, tD cf l = some s ∧ s.length = l.length ∧ oI lt P l (dd eq s) := by
  have j : ∀ x y, P x → P y → (nO cf x y = true ↔ lt x y) := fun x y i n => by
    obtain ⟨c, h1, m⟩ := w x y i n
    unfold nO
    rw [h1]
    simpa using m
  have d : ∀ x y, P x → P y → (nO cf x y = false ↔ ¬ lt x y) := fun x y i n => by
    rw [← j x y i n]; simp
  have ok : yM cf l := by
    refine ⟨fun x i y n => ?_, fun x i => ?_, fun x i y n z u h1 m => ?_, fun x i y n h1 m => ?_, A⟩
    · obtain ⟨c, h1, _⟩ := w x y (g x i) (g y n); exact ⟨c, h1⟩
    · exact (d x x (g x i) (g x i)).2 (H.irrefl x (g x i))
    · rw [j _ _ (g x i) (g y n)] at h1
      rw [j _ _ (g y n) (g z u)] at m
      rw [j _ _ (g x i) (g z u)]
      exact H.trans x y z (g x i) (g y n) (g z u) h1 m
    · rw [d _ _ (g x i) (g y n)] at h1
      rw [d _ _ (g y n) (g x i)] at m
      rcases H.total x y (g x i) (g y n) with h | h | h
      · exact absurd h h1
      · exact h
      · exact absurd h m
  refine ⟨_, IZ ok, by simp [ni], ?_, ?_⟩
  · have k : ∀ x, x ∈ ni cf l ↔ x ∈ l := fun x => by simp [ni]
    refine HI he H _ (fun x i => g x ((k x).1 i)) ?_
    have := Dq (le := fun x y => !nO cf y x) (P := P) (fun a b c ha p q h1 m => ?_) (fun a b ha p => ?_) l g
    · refine (this.imp_of_mem ?_ : _)
      intro a b ha p h
      have r : a ∈ l := (k a).1 ha
      have t : b ∈ l := (k b).1 p
      simp at h
      exact (d b a (g b t) (g a r)).1 h
    · simp at h1 m ⊢
      rw [d _ _ p ha] at h1
      rw [d _ _ q p] at m
      rw [d _ _ q ha]
      intro v
      rcases H.total a b ha p with h | h | h
      · exact m (H.trans c a b q ha p v h)
      · subst h; exact m v
      · exact h1 h
    · simp only [Bool.or_eq_true, Bool.not_eq_true']
      rw [d _ _ p ha, d _ _ ha p]
      by_cases h : lt b a
      · right; intro m; exact H.irrefl a ha (H.trans a b a ha p ha m h)
      · exact .inl h
  · intro x
    rw [E3 he]
    constructor
    · intro i
      have : x ∈ l := by simpa [ni] using i
      exact ⟨this, g x this⟩
    · intro i; simpa [ni] using i.1
end Go.Proofs.YtmlncblocfcmiaaGreat
namespace Go.Proofs.YtmlncblocfcmiaaGreat
open Go.RowKit
theorem oC : ∀ a : List UInt8, Op.bytesLess a a = false
  | [] => rfl
  | x :: a => by simp [Op.bytesLess, oC a]
theorem E1 (x y : UInt8) : x < y ∨ x = y ∨ y < x := by
  rcases Nat.lt_trichotomy x.toNat y.toNat with h | h | h
  · exact .inl h
  · exact .inr (.inl (UInt8.toNat_inj.1 h))
  · exact .inr (.inr h)
theorem rA : ∀ a b c : List UInt8, Op.bytesLess a b = true → Op.bytesLess b c = true → Op.bytesLess a c = true
  | [], [], c, h1, _ => by simp [Op.bytesLess] at h1
  | _ :: _, [], c, h1, _ => by simp [Op.bytesLess] at h1
  | a, _ :: _, [], _, d => by simp [Op.bytesLess] at d
  | [], b :: bs, c :: cs, _, _ => rfl
  | a :: ax, b :: bs, c :: cs, h1, d => by
    simp only [Op.bytesLess, Bool.or_eq_true, decide_eq_true_eq, Bool.and_eq_true, beq_iff_eq] at h1 d ⊢
    rcases h1 with h1 | ⟨rfl, h1⟩
    · rcases d with d | ⟨rfl, d⟩
      · exact .inl (UInt8.lt_trans h1 d)
      · exact .inl h1
    · rcases d with d | ⟨rfl, d⟩
      · exact .inl d
      · exact .inr ⟨rfl, rA ax bs cs h1 d⟩
theorem vg : ∀ a b : List UInt8, Op.bytesLess a b = true ∨ a = b ∨ Op.bytesLess b a = true
  | [], [] => .inr (.inl rfl)
  | [], _ :: _ => .inl rfl
  | _ :: _, [] => .inr (.inr rfl)
  | a :: ax, b :: bs => by
    simp only [Op.bytesLess, Bool.or_eq_true, decide_eq_true_eq, Bool.and_eq_true, beq_iff_eq, List.cons.injEq]
    rcases E1 a b with h | h | h
    · exact .inl (.inl h)
    · subst h
      rcases vg ax bs with h | h | h
      · exact .inl (.inr ⟨rfl, h⟩)
      · exact .inr (.inl ⟨rfl, h⟩)
      · exact .inr (.inr (.inr ⟨rfl, h⟩))
    · exact .inr (.inr (.inl h))
theorem wK : ∀ a b : List UInt8, (Lib.compareBytes a b < 0 ↔ Op.bytesLess a b = true)
  | [], [] => by simp [Lib.compareBytes, Op.bytesLess]
  | [], _ :: _ => by simp [Lib.compareBytes, Op.bytesLess]
  | _ :: _, [] => by simp [Lib.compareBytes, Op.bytesLess]
  | a :: ax, b :: bs => by
    simp only [Lib.compareBytes, Op.bytesLess, Bool.or_eq_true, decide_eq_true_eq, Bool.and_eq_true, beq_iff_eq]
    by_cases h : a < b
    · simp [h]
    · by_cases g : b < a
      · have : a ≠ b := by rintro rfl; exact h g
        simp [h, g, this]
      · have : a = b := by rcases E1 a b with d | d | d; exact absurd d h; exact d; exact absurd d g
        subst this
        simp [h, wK ax bs]
theorem AG : ∀ a b : List UInt8, (Lib.compareBytes a b = 0 ↔ a = b)
  | [], [] => by simp [Lib.compareBytes]
  | [], _ :: _ => by simp [Lib.compareBytes]
  | _ :: _, [] => by simp [Lib.compareBytes]
  | a :: ax, b :: bs => by
    simp only [Lib.compareBytes, List.cons.injEq]
    by_cases h : a < b
    · simp only [h, if_true]
      constructor
      · intro h; cases h
      · rintro ⟨rfl, _⟩; exact absurd h (by simp)
    · by_cases g : b < a
      · simp only [h, g, if_true, if_false]
        constructor
        · intro h; cases h
        · rintro ⟨rfl, _⟩; exact absurd g (by simp)
      · have : a = b := by rcases E1 a b with d | d | d; exact absurd d h; exact d; exact absurd d g
        subst this
        simp [h, AG ax bs]
theorem rO (a b : ByteArray) : jB a b = Op.bytesLess a.data.toList b.data.toList := by unfold jB; rw [ByteArray.toList_eq, ByteArray.toList_eq]
theorem tS {a b : ByteArray} (h : a.data.toList = b.data.toList) : a = b := ByteArray.ext (Array.toList_inj.1 h)
theorem mM (a : ByteArray) : jB a a = false := by rw [rO, oC]
theorem tP {a b c : ByteArray} (h1 : jB a b = true) (d : jB b c = true) : jB a c = true := by rw [rO] at *; exact rA _ _ _ h1 d
theorem tV (a b : ByteArray) : jB a b = true ∨ a = b ∨ jB b a = true := by
  rw [rO, rO]
  rcases vg a.data.toList b.data.toList with h | h | h
  · exact .inl h
  · exact .inr (.inl (tS h))
  · exact .inr (.inr h)
theorem CU {a b : ByteArray} (h : jB a b = true) : jB b a = false := by
  cases d : jB b a with
  | false => rfl
  | true => have := tP h d; rw [mM] at this; cases this
theorem Jg (P : ByteArray → Prop) : uk (fun a b => jB a b = true) P :=
  ⟨fun x _ h => (by rw [mM] at h; cases h), fun x y z _ _ _ => tP, fun x y _ _ => tV x y⟩
def uN (b : UInt8) : Bool := decide (97 ≤ b.toNat) && decide (b.toNat ≤ 122)
def wN (b : UInt8) : Bool := uN b || (decide (48 ≤ b.toNat) && decide (b.toNat ≤ 57)) || decide (b.toNat = 45)
def fY (s : ByteArray) : Bool := decide (1 ≤ s.size) && decide (s.size ≤ 16) && (match s.data.toList with | [] => false | b :: _ => uN b) && s.data.toList.all wN
theorem gO {s : ByteArray} (h : fY s = true) : 1 ≤ s.size ∧ s.size ≤ 16 := by
  simp only [fY, Bool.and_eq_true, decide_eq_true_eq] at h
  exact h.1.1
theorem Ga : ∀ n : Nat, n < 256 → decide (qn (⟨#[97, 98, 99, 100, 101, 102, 103, 104, 105, 106, 107, 108, 109, 110, 111, 112, 113, 114, 115, 116, 117, 118, 119, 120, 121, 122]⟩ : ByteArray) (n : Int) ≥ 0) = uN (UInt8.ofNat n) := by decide +kernel
theorem IC : ∀ n : Nat, n < 256 → decide (qn (⟨#[97, 98, 99, 100, 101, 102, 103, 104, 105, 106, 107, 108, 109, 110, 111, 112, 113, 114, 115, 116, 117, 118, 119, 120, 121, 122, 48, 49, 50, 51, 52, 53, 54, 55, 56, 57, 45]⟩ : ByteArray) (n : Int) < 0) = !wN (UInt8.ofNat n) := by decide +kernel
theorem pX (s : ByteArray) : s.size = s.data.toList.length := by rw [Array.length_toList]; rfl
theorem Ae {s : ByteArray} (h : s.size ≤ 16) : wI s = some (mE s) := by
  unfold wI; rw [if_pos (by unfold maxLen; omega)]
theorem Ez : ∀ l : List UInt8, ot (l.map fun b => (b.toNat : Int)) = some (l.all wN)
  | [] => rfl
  | b :: l => by
    rw [List.map_cons, ot]
    simp only [kQ, gW, Option.bind_some]
    have a := IC b.toNat (UInt8.toNat_lt b)
    rw [a]
    simp only [UInt8.ofNat_toNat, List.all_cons]
    cases wN b with
    | true => simp [Ez l]
    | false => simp
theorem CN {s : ByteArray} {b : UInt8} {l : List UInt8} (h : s.data.toList = b :: l) : um s 0 = some b := by
  unfold um
  rw [if_pos (Int.le_refl 0)]
  have a : s.data[0]? = some b := by rw [← Array.getElem?_toList, h]; rfl
  show s[0]? = some b
  rw [← a]
  rfl
theorem sG (s : ByteArray) : lU s = some (fY s) := by
  unfold lU
  simp only [xv, Option.bind_some, gi]
  by_cases h1 : 1 ≤ s.size
  · by_cases a : s.size ≤ 16
    · rw [if_pos (by simp; omega)]
      obtain ⟨b, l, d⟩ : ∃ b l, s.data.toList = b :: l := by
        cases h : s.data.toList with
        | nil => rw [pX, h] at h1; simp at h1
        | cons b l => exact ⟨b, l, rfl⟩
      rw [CN d]
      simp only [Option.bind_some, kQ, gW]
      rw [Ga b.toNat (UInt8.toNat_lt b)]
      simp only [UInt8.ofNat_toNat, fY, h1, a, d, decide_true, Bool.true_and]
      cases uN b with
      | false => simp
      | true =>
        simp only [if_true, vX, Ae a, Option.bind_some, mE]
        rw [Ez, d]
        simp
    · rw [if_neg (by simp; omega)]
      simp [fY, a]
  · rw [if_neg (by simp; omega)]
    simp [fY, h1]
theorem JK {s : ByteArray} {A B : List UInt8} {b : UInt8} (h : s.data.toList = A ++ b :: B) (i : Int) (d : i = (A.length : Int)) : um s i = some b := by
  subst d
  unfold um
  rw [if_pos (by omega), Int.toNat_natCast]
  have a : s.data[A.length]? = some b := by rw [← Array.getElem?_toList, h]; simp
  show s[A.length]? = some b
  rw [← a]
  rfl
theorem zb (s : ByteArray) (v : s.size ≤ 16) : ∀ (B A : List UInt8) (n : Nat), s.data.toList = A ++ B → B.length < n → jN s n (A.length : Int) = some (B.all wN)
  | [], A, 0, _, h => by simp at h
  | [], A, n + 1, h, _ => by
    have : s.size = A.length := by rw [pX, h]; simp
    rw [jN, if_neg (by rw [this]; simp)]
    rfl
  | b :: B, A, 0, _, h => by simp at h
  | b :: B, A, n + 1, h, u => by
    have l : s.size = A.length + B.length + 1 := by rw [pX, h]; simp; omega
    rw [jN, if_pos (by rw [l]; simp; omega)]
    rw [JK h _ rfl]
    simp only [Option.bind_some]
    rw [cP (x := (A.length : Int) + 1) (by omega) (by omega)]
    have ih := zb s v B (A ++ [b]) n (by rw [h]; simp) (by simp at u; omega)
    rw [show ((A ++ [b]).length : Int) = (A.length : Int) + 1 by simp] at ih
    simp only [List.all_cons]
    have k : ∀ n : Nat, n < 256 → wN (UInt8.ofNat n) = !((decide (n < 97) || decide (n > 122)) && (decide (n < 48) || decide (n > 57)) && decide (n ≠ 45)) := by decide +kernel
    have m := k b.toNat (UInt8.toNat_lt b)
    simp only [UInt8.ofNat_toNat] at m
    rw [m]
    by_cases h1 : b.toNat < 97 <;> by_cases p : b.toNat > 122 <;> by_cases q : b.toNat < 48 <;> by_cases r : b.toNat > 57 <;> by_cases t : b.toNat = 45 <;>
      first
      | omega
      | (have a : ((b.toNat : Int) < 97) = (b.toNat < 97) := by rw [eq_iff_iff]; omega
         have d : ((b.toNat : Int) > 122) = (b.toNat > 122) := by rw [eq_iff_iff]; omega
         have g : ((b.toNat : Int) < 48) = (b.toNat < 48) := by rw [eq_iff_iff]; omega
         have i : ((b.toNat : Int) > 57) = (b.toNat > 57) := by rw [eq_iff_iff]; omega
         have j : ((b.toNat : Int) != 45) = !decide (b.toNat = 45) := by rw [Bool.eq_iff_iff]; simp; omega
         simp [h1, p, q, r, t, a, d, g, i, j, ih])
theorem oD (a : ByteArray) : dA a a = true := eA.2 rfl
theorem J2 : zS.size = 0 := rfl
theorem Jh {s : ByteArray} : s = zS ↔ s.size = 0 := by
  constructor
  · rintro rfl; rfl
  · intro h; exact tS (by rw [pX] at h; rw [List.length_eq_zero_iff.1 h]; rfl)
theorem ry (s : ByteArray) : kH s = some (fY s) := by
  unfold kH
  simp only [KJ, Option.bind_some, gi]
  by_cases g : s.size = 0
  · have : s = zS := Jh.2 g
    subst this
    rw [oD]
    rfl
  · have n : dA s zS = false := by
      cases h : dA s zS with
      | false => rfl
      | true => exact absurd (Jh.1 (eA.1 h)) g
    rw [n]
    simp only [Bool.false_or]
    by_cases i : s.size ≤ 16
    · rw [if_neg (by simp; omega)]
      obtain ⟨b, l, k⟩ : ∃ b l, s.data.toList = b :: l := by
        cases h : s.data.toList with
        | nil => rw [pX, h] at g; simp at g
        | cons b l => exact ⟨b, l, rfl⟩
      rw [CN k]
      simp only [Option.bind_some, KJ]
      have m := zb s i s.data.toList [] bL rfl (by rw [qz, ← pX]; omega)
      simp only [List.length_nil] at m
      rw [show (0 : Int) = ((0 : Nat) : Int) from rfl] at *
      rw [m]
      have j : ((b.toNat : Int) < 97) = (b.toNat < 97) := by rw [eq_iff_iff]; omega
      have d : ((b.toNat : Int) > 122) = (b.toNat > 122) := by rw [eq_iff_iff]; omega
      have h1 : 1 ≤ s.size := by omega
      simp only [fY, h1, i, k, uN, decide_true, Bool.true_and, j, d]
      by_cases a : b.toNat < 97
      · simp [a, show ¬ 97 ≤ b.toNat by omega]
      · by_cases c : b.toNat > 122
        · simp [a, c, show ¬ b.toNat ≤ 122 by omega]
        · simp [a, c, show 97 ≤ b.toNat by omega, show b.toNat ≤ 122 by omega]
    · rw [if_pos (by simp; omega)]
      simp [fY, i]
def ez (r : aA) : Bool := fY r.aC && fY r.aJ
theorem sH (r : aA) : jo r = some (ez r) := by
  unfold jo ez
  simp only [sG, Option.bind_some]
  cases fY r.aC <;> simp
theorem vi (r : aA) : mj r = some (ez r) := by
  unfold mj ez
  simp only [ry, Option.bind_some]
  cases fY r.aC <;> simp
def vO (a b : aA) : Bool := jB a.aC b.aC || (dA a.aC b.aC && jB a.aJ b.aJ)
theorem vv (a b : aA) : pR a b = some (vO a b) := by
  unfold pR vO
  cases jB a.aC b.aC <;> cases dA a.aC b.aC <;> simp
theorem F3 {a b : ByteArray} (h : a ≠ b) : dA a b = false := by
  cases d : dA a b with
  | false => rfl
  | true => exact absurd (eA.1 d) h
theorem uK {a b : aA} : vO a b = true ↔ jB a.aC b.aC = true ∨ (a.aC = b.aC ∧ jB a.aJ b.aJ = true) := by
  simp [vO, eA]
theorem Mo (P : aA → Prop) : uk (fun a b => vO a b = true) P := by
  refine ⟨fun x _ h => ?_, fun x y z _ _ _ h1 d => ?_, fun x y _ _ => ?_⟩
  · rw [uK] at h
    simp [mM] at h
  · rw [uK] at *
    rcases h1 with h1 | ⟨i, h1⟩
    · rcases d with d | ⟨g, d⟩
      · exact .inl (tP h1 d)
      · exact .inl (by rw [← g]; exact h1)
    · rcases d with d | ⟨g, d⟩
      · exact .inl (by rw [i]; exact d)
      · exact .inr ⟨i.trans g, tP h1 d⟩
  · simp only [uK]
    rcases tV x.aC y.aC with h | h | h
    · exact .inl (.inl h)
    · rcases tV x.aJ y.aJ with d | d | d
      · exact .inl (.inr ⟨h, d⟩)
      · refine .inr (.inl ?_)
        cases x; cases y; simp at h d; simp [h, d]
      · exact .inr (.inr (.inr ⟨h.symm, d⟩))
    · exact .inr (.inr (.inl h))
theorem uo (a b : aA) : ∃ c, ll a b = some c ∧ (c < 0 ↔ vO a b = true) := by
  unfold ll
  simp only [jd, fZ, Option.bind_some, oq, me]
  have h1 : ∀ a b : ByteArray, (iM a b < 0 ↔ jB a b = true) := fun a b => by rw [rO]; exact wK _ _
  have g : ∀ a b : ByteArray, (iM a b = 0 ↔ a = b) := fun a b => by
    unfold iM; rw [AG]; exact ⟨tS, fun h => by rw [h]⟩
  by_cases e : iM a.aC b.aC = 0
  · rw [if_neg (by simp [e])]
    have e' := (g _ _).1 e
    by_cases d : iM a.aJ b.aJ = 0
    · rw [if_neg (by simp [d])]
      refine ⟨0, rfl, ?_⟩
      rw [uK, e', (g _ _).1 d]
      simp [mM]
    · rw [if_pos (by simp [d])]
      refine ⟨_, rfl, ?_⟩
      rw [uK, e', h1]
      simp [mM]
  · rw [if_pos (by simp [e])]
    refine ⟨_, rfl, ?_⟩
    rw [uK, h1]
    have : a.aC ≠ b.aC := fun h => e ((g _ _).2 h)
    simp [this]
def zR : aA := ⟨zS, zS⟩
theorem Df (a b : ByteArray) : dA a b = dA b a := by rw [Bool.eq_iff_iff, eA, eA]; exact eq_comm
theorem zf (a b : aA) : bB a b = bB b a := by rw [Bool.eq_iff_iff, bD, bD]; exact eq_comm
theorem pQ (a : aA) : bB a a = true := bD.2 rfl
def dS (c : aB) : Bool := ez c.Head && (
  if c.Kind == 1 then fY c.cH && bB zR c.B && bB zR c.C && dA zS c.cO
  else if c.Kind == 2 then ez c.B && dA zS c.cH && bB zR c.C && dA zS c.cO
  else if c.Kind == 3 then ez c.B && dA c.B.aC c.Head.aC && fY c.cO && dA zS c.cH && bB zR c.C
  else if c.Kind == 4 then ez c.B && ez c.C && vO c.B c.C && dA zS c.cH && dA zS c.cO
  else false)
theorem pI (c : aB) : nn c = some (dS c) := by
  unfold nn dS
  simp only [sH, sG, Option.bind_some]
  obtain ⟨k, hk, a⟩ := uo c.B c.C
  rw [hk]
  have b : decide (k < 0) = vO c.B c.C := by rw [Bool.eq_iff_iff, ← a]; simp
  simp only [Option.bind_some, b]
  by_cases h1 : c.Kind = 1
  · cases ez c.Head <;> cases fY c.cH <;> simp [h1, bT, pQ, oD, zR, Bool.and_assoc]
  · by_cases d : c.Kind = 2
    · cases ez c.Head <;> cases ez c.B <;> simp [d, bT, pQ, oD, zR, Bool.and_assoc]
    · by_cases g : c.Kind = 3
      · cases ez c.Head <;> cases ez c.B <;> cases dA c.B.aC c.Head.aC <;> cases fY c.cO <;> simp [g, bT, pQ, oD, zR, Bool.and_assoc]
      · by_cases h : c.Kind = 4
        · cases ez c.Head <;> cases ez c.B <;> cases ez c.C <;> cases vO c.B c.C <;> simp [h, bT, pQ, oD, zR, Bool.and_assoc]
        · simp [h1, d, g, h]
theorem uZ (c : aB) : pa c = some (dS c) := by
  unfold pa dS
  simp only [vi, ry, vv, Option.bind_some]
  rw [show (⟨zS, zS⟩ : aA) = zR from rfl, zf c.B zR, zf c.C zR, Df c.cO zS, Df c.cH zS]
  by_cases h1 : c.Kind = 1
  · cases ez c.Head <;> cases fY c.cH <;> cases bB zR c.B <;> cases bB zR c.C <;> simp [h1]
  · by_cases a : c.Kind = 2
    · cases ez c.Head <;> cases ez c.B <;> cases dA zS c.cH <;> cases bB zR c.C <;> simp [a]
    · by_cases b : c.Kind = 3
      · cases ez c.Head <;> cases ez c.B <;> cases dA zS c.cH <;> cases bB zR c.C <;> cases dA c.B.aC c.Head.aC <;> simp [b]
      · by_cases d : c.Kind = 4
        · cases ez c.Head <;> cases ez c.B <;> cases dA zS c.cH <;> cases dA zS c.cO <;> cases ez c.C <;> simp [d]
        · cases ez c.Head <;> cases ez c.B <;> cases dA zS c.cH <;> simp [h1, a, b, d]
end Go.Proofs.YtmlncblocfcmiaaGreat
namespace Go.Proofs.YtmlncblocfcmiaaGreat
open Go.RowKit
theorem eX {α : Type} {b : Nat} {l m : List α} (h : (l.length + m.length) * b ≤ 140737488355328) (a : l.length + m.length ≤ 9223372036854775807) : eT b l m = some (l ++ m) := by
  unfold eT; rw [if_pos ⟨h, by unfold maxLen; omega⟩]
theorem AL {l m : List Int} (h : l.length + m.length ≤ 1000000) : eT 1 l m = some (l ++ m) := eX (by omega) (by omega)
def pJ (s : ByteArray) : List Int := (s.size : Int) :: mE s
def lH (r : aA) : List Int := pJ r.aC ++ pJ r.aJ
def rZ (c : aB) : List Int := if c.Kind = 1 then pJ c.cH else if c.Kind = 2 then lH c.B else if c.Kind = 3 then lH c.B ++ pJ c.cO else lH c.B ++ lH c.C
def mL (c : aB) : List Int := c.Kind :: (lH c.Head ++ rZ c)
theorem nk (s : ByteArray) : (pJ s).length = s.size + 1 := by simp [pJ, iT]
theorem ie {r : aA} (h : ez r = true) : (lH r).length ≤ 34 := by
  simp only [ez, Bool.and_eq_true] at h
  have h1 := gO h.1
  have a := gO h.2
  simp [lH, nk]; omega
theorem rH {l : List Int} {n : Int} (a : 0 ≤ n) (h1 : n < 128) (b : l.length ≤ 100000) : gA l n = some (true, l ++ [n]) := by
  have hw : IntKind.u8.wrap n = n := by
    obtain ⟨k, rfl⟩ : ∃ k : Nat, n = k := ⟨n.toNat, by omega⟩
    have : ∀ k : Nat, k < 128 → IntKind.u8.wrap (k : Int) = (k : Int) := by decide +kernel
    exact this k (by omega)
  unfold gA
  rw [if_neg (by simp; omega), eG, jC, if_neg (by simp; omega), hw, AL (by simp; omega)]
  rfl
theorem zp {l : List Int} {s : ByteArray} (h : fY s = true) (a : l.length ≤ 10000) : nj l s = some (true, l ++ pJ s) := by
  have h1 := gO h
  unfold nj
  simp only [sG, Option.bind_some, h, if_true, Ae h1.2]
  unfold qJ
  rw [if_neg (by rw [iT]; simp; omega)]
  rw [iT, rH (by omega) (by omega) (by omega)]
  simp only [Option.bind_some]
  rw [AL (by simp [iT]; omega)]
  simp [pJ]
theorem DS {l : List Int} {r : aA} (h : ez r = true) (b : l.length ≤ 9000) : jw l r = some (true, l ++ lH r) := by
  have a := h
  simp only [ez, Bool.and_eq_true] at h
  have h1 := gO h.1
  unfold jw
  simp only [sH, Option.bind_some, a, if_true]
  rw [zp h.1 (by omega)]
  simp only [Option.bind_some, if_true]
  rw [zp h.2 (by simp [nk]; omega)]
  simp [lH]
theorem wE {l : List Int} {r : aA} (h : ez r = true) (a : l.length ≤ 1000) : jw l r = some (true, l ++ lH r) := DS h (by omega)
theorem wm {c : aB} (h : dS c = true) : ez c.Head = true := by
  simp only [dS, Bool.and_eq_true] at h; exact h.1
theorem ig {c : aB} (h : dS c = true) :
    (c.Kind = 1 ∧ fY c.cH = true ∧ c.B = zR ∧ c.C = zR ∧ c.cO = zS) ∨
    (c.Kind = 2 ∧ ez c.B = true ∧ c.cH = zS ∧ c.C = zR ∧ c.cO = zS) ∨
    (c.Kind = 3 ∧ ez c.B = true ∧ fY c.cO = true ∧ c.B.aC = c.Head.aC ∧ c.cH = zS ∧ c.C = zR) ∨
    (c.Kind = 4 ∧ ez c.B = true ∧ ez c.C = true ∧ vO c.B c.C = true ∧ c.cH = zS ∧ c.cO = zS) := by
  simp only [dS, Bool.and_eq_true] at h
  obtain ⟨_, h⟩ := h
  split at h
  · rename_i h1
    simp only [Bool.and_eq_true, bD, eA] at h
    exact .inl ⟨by simpa using h1, h.1.1.1, h.1.1.2.symm, h.1.2.symm, h.2.symm⟩
  · split at h
    · rename_i h1
      simp only [Bool.and_eq_true, bD, eA] at h
      exact .inr (.inl ⟨by simpa using h1, h.1.1.1, h.1.1.2.symm, h.1.2.symm, h.2.symm⟩)
    · split at h
      · rename_i h1
        simp only [Bool.and_eq_true, bD, eA] at h
        exact .inr (.inr (.inl ⟨by simpa using h1, h.1.1.1.1, h.1.1.2, h.1.1.1.2, h.1.2.symm, h.2.symm⟩))
      · split at h
        · rename_i h1
          simp only [Bool.and_eq_true, bD, eA] at h
          exact .inr (.inr (.inr ⟨by simpa using h1, h.1.1.1.1, h.1.1.1.2, h.1.1.2, h.1.2.symm, h.2.symm⟩))
        · cases h
theorem vG (c : aB) : pT c = some (if dS c then mL c else []) := by
  unfold pT
  rw [pI]
  simp only [Option.bind_some]
  cases h : dS c with
  | false => simp
  | true =>
    have g := wm h
    have i := ie g
    simp only [Bool.not_true, Bool.false_eq_true, if_false, if_true]
    have hk : 0 ≤ c.Kind ∧ c.Kind < 128 := by rcases ig h with h | h | h | h <;> omega
    rw [rH hk.1 hk.2 (by simp)]
    simp only [Option.bind_some]
    rw [wE g (by simp)]
    simp only [Option.bind_some, mZ, nD]
    rcases ig h with ⟨k, h1, _⟩ | ⟨k, h1, _⟩ | ⟨k, h1, a, _⟩ | ⟨k, h1, a, _⟩
    · have b := gO h1
      simp only [k, beq_self_eq_true, if_true, zp h1 (show (([] ++ [(1:Int)]) ++ lH c.Head).length ≤ 10000 by simp; omega), Option.bind_some]
      rw [AL (by simp [nk]; omega)]
      simp [mL, rZ, k]
    · have b := ie h1
      simp only [k, show ((2 : Int) == 1) = false from rfl, Bool.false_eq_true, beq_self_eq_true, if_true, if_false, wE h1 (show (([] ++ [(2:Int)]) ++ lH c.Head).length ≤ 1000 by simp; omega), Option.bind_some]
      rw [AL (by simp; omega)]
      simp [mL, rZ, k]
    · have b := ie h1
      have d := gO a
      simp only [k, show ((3 : Int) == 1) = false from rfl, show ((3 : Int) == 2) = false from rfl, Bool.false_eq_true, beq_self_eq_true, if_true, if_false, wE h1 (show (([] ++ [(3:Int)]) ++ lH c.Head).length ≤ 1000 by simp; omega), Option.bind_some]
      rw [zp a (by simp; omega)]
      simp only [Option.bind_some]
      rw [AL (by simp [nk]; omega)]
      simp [mL, rZ, k]
    · have b := ie h1
      have d := ie a
      simp only [k, show ((4 : Int) == 1) = false from rfl, show ((4 : Int) == 2) = false from rfl, show ((4 : Int) == 3) = false from rfl, Bool.false_eq_true, beq_self_eq_true, if_true, if_false, wE h1 (show (([] ++ [(4:Int)]) ++ lH c.Head).length ≤ 1000 by simp; omega), Option.bind_some]
      rw [wE a (by simp; omega)]
      simp only [Option.bind_some]
      rw [AL (by simp; omega)]
      simp [mL, rZ, k]
def pM (l : List Int) : ByteArray := ⟨(nv l).toArray⟩
theorem nY (l : List Int) : (pM l).data.toList = nv l := rfl
theorem Bo : ∀ (l : List Int) (r : ByteArray), (l.foldl (fun r n => r.push (UInt8.ofNat n.toNat)) r).data.toList = r.data.toList ++ nv l
  | [], r => by simp [nv]
  | x :: l, r => by
    rw [List.foldl_cons, Bo l]
    show ((r.data.push _).toList) ++ _ = _
    simp [nv]
theorem J0 (l : List Int) : yi l = pM l := tS (by unfold yi; rw [Bo]; rfl)
theorem D7 (l : List Int) : (pM l).size = l.length := by rw [pX, nY]; simp [nv]
theorem Ge (a b : List Int) : nv (a ++ b) = nv a ++ nv b := by simp [nv]
theorem li (a b : List Int) (h : a.length + b.length ≤ 1000000) : pY (pM a) (pM b) = some (pM (a ++ b)) := by
  unfold pY
  rw [if_neg]
  · congr 1
    refine tS ?_
    rw [nY, Ge, ← nY a, ← nY b]
    exact ByteArray.toList_data_append ▸ rfl
  · rw [D7, D7]
    show ¬ (_ > (9223372036854775807 : Int))
    omega
theorem xB (s : ByteArray) : pM (mE s) = s := tS (by rw [nY]; simp [nv, mE, Function.comp_def])
theorem rK {n : Int} (a : 0 ≤ n) (h1 : n < 128) : jR n = some (pM [n]) := by
  have hw : IntKind.u8.wrap n = n := by
    obtain ⟨k, rfl⟩ : ∃ k : Nat, n = k := ⟨n.toNat, by omega⟩
    have : ∀ k : Nat, k < 128 → IntKind.u8.wrap (k : Int) = (k : Int) := by decide +kernel
    exact this k (by omega)
  unfold jR
  rw [eG, mF, if_neg (by simp; omega), hw, J0, show zS = pM [] from rfl, li _ _ (by simp)]
  rfl
theorem zn {s : ByteArray} (h : fY s = true) : nr s = some (pM (pJ s)) := by
  have h1 := gO h
  unfold nr
  rw [rK (by omega) (by omega)]
  simp only [Option.bind_some]
  have := li [(s.size : Int)] (mE s) (by rw [iT]; simp; omega)
  rw [xB] at this
  rw [this]
  simp [pJ]
theorem uG {r : aA} (h : ez r = true) : mw r = some (pM (lH r)) := by
  simp only [ez, Bool.and_eq_true] at h
  have h1 := gO h.1
  have a := gO h.2
  unfold mw
  rw [zn h.1, zn h.2]
  simp only [Option.bind_some]
  rw [li _ _ (by simp [nk]; omega)]
  rfl
theorem uR (c : aB) : oT c = some (pM (if dS c then mL c else [])) := by
  unfold oT
  rw [uZ]
  simp only [Option.bind_some]
  cases h : dS c with
  | false => rfl
  | true =>
    have g := wm h
    have i := ie g
    simp only [Bool.not_true, Bool.false_eq_true, if_false, if_true]
    have hk : 0 ≤ c.Kind ∧ c.Kind < 128 := by rcases ig h with h | h | h | h <;> omega
    unfold uc
    rw [rK hk.1 hk.2, uG g]
    simp only [Option.bind_some]
    rw [li _ _ (by simp; omega)]
    simp only [Option.bind_some]
    rcases ig h with ⟨k, h1, _⟩ | ⟨k, h1, _⟩ | ⟨k, h1, a, _⟩ | ⟨k, h1, a, _⟩
    · have b := gO h1
      simp only [k, beq_self_eq_true, if_true, zn h1, Option.bind_some]
      rw [li _ _ (by simp [nk]; omega)]
      simp [mL, rZ, k]
    · have b := ie h1
      simp only [k, show ((2 : Int) == 1) = false from rfl, show ((2 : Int) == 3) = false from rfl, show ((2 : Int) == 4) = false from rfl, Bool.false_eq_true, if_false, uG h1, Option.bind_some]
      rw [li _ _ (by simp; omega)]
      simp [mL, rZ, k]
    · have b := ie h1
      have d := gO a
      simp only [k, show ((3 : Int) == 1) = false from rfl, show ((3 : Int) == 4) = false from rfl, Bool.false_eq_true, beq_self_eq_true, if_true, if_false, uG h1, Option.bind_some]
      rw [li _ _ (by simp; omega)]
      simp only [Option.bind_some, zn a]
      rw [li _ _ (by simp [nk]; omega)]
      simp [mL, rZ, k]
    · have b := ie h1
      have d := ie a
      simp only [k, show ((4 : Int) == 1) = false from rfl, show ((4 : Int) == 3) = false from rfl, Bool.false_eq_true, beq_self_eq_true, if_true, if_false, uG h1, Option.bind_some]
      rw [li _ _ (by simp; omega)]
      simp only [Option.bind_some, uG a]
      rw [li _ _ (by simp; omega)]
      simp [mL, rZ, k]
def DY (c : aB) : List UInt8 := nv (if dS c then mL c else [])
def uW (a b : aB) : Bool := Op.bytesLess (DY a) (DY b)
theorem zJ (a b : aB) : ∃ c, mU a b = some c ∧ (c < 0 ↔ uW a b = true) := by
  unfold mU
  rw [vG, vG]
  exact ⟨_, rfl, wK _ _⟩
theorem yD (a b : aB) : ∃ c, mh a b = some c ∧ (c < 0 ↔ uW a b = true) := by
  unfold mh
  rw [uR, uR]
  simp only [Option.bind_some]
  have h : jB (pM (if dS a then mL a else [])) (pM (if dS b then mL b else [])) = uW a b := by rw [rO]; rfl
  rw [h]
  cases uW a b with
  | true => exact ⟨_, rfl, by decide⟩
  | false =>
    simp only [Bool.false_eq_true, if_false, Bool.false_or]
    cases d : dA (pM (if dS a then mL a else [])) (pM (if dS b then mL b else [])) with
    | true => exact ⟨0, by simp, by decide⟩
    | false => exact ⟨1, by simp, by decide⟩
theorem LA {a b : Int} (ha : 0 ≤ a ∧ a < 256) (d : 0 ≤ b ∧ b < 256) (h : a.toNat.toUInt8 = b.toNat.toUInt8) : a = b := by
  have := congrArg UInt8.toNat h
  simp only [UInt8.toNat_ofNat', Nat.toUInt8] at this
  simp at this
  omega
theorem F5 : ∀ {a b : List Int}, (∀ x ∈ a, 0 ≤ x ∧ x < 256) → (∀ x ∈ b, 0 ≤ x ∧ x < 256) → nv a = nv b → a = b
  | [], [], _, _, _ => rfl
  | [], _ :: _, _, _, h => by simp [nv] at h
  | _ :: _, [], _, _, h => by simp [nv] at h
  | x :: a, y :: b, ha, g, h => by
    simp only [nv, List.map_cons, List.cons.injEq] at h
    rw [LA (ha x (by simp)) (g y (by simp)) h.1, F5 (fun z d => ha z (by simp [d])) (fun z d => g z (by simp [d])) h.2]
theorem tM {s : ByteArray} (h : fY s = true) : ∀ x ∈ pJ s, 0 ≤ x ∧ x < 256 := by
  have h1 := gO h
  intro x a
  rcases List.mem_cons.1 a with rfl | a
  · omega
  · simp only [mE, List.mem_map] at a
    obtain ⟨b, _, rfl⟩ := a
    have := UInt8.toNat_lt b
    omega
theorem qM {r : aA} (h : ez r = true) : ∀ x ∈ lH r, 0 ≤ x ∧ x < 256 := by
  simp only [ez, Bool.and_eq_true] at h
  intro x a
  rcases List.mem_append.1 a with a | a
  · exact tM h.1 x a
  · exact tM h.2 x a
theorem Ai {c : aB} (h : dS c = true) : ∀ x ∈ mL c, 0 ≤ x ∧ x < 256 := by
  intro x a
  rcases List.mem_cons.1 a with rfl | a
  · rcases ig h with h | h | h | h <;> omega
  · rcases List.mem_append.1 a with a | a
    · exact qM (wm h) x a
    · unfold rZ at a
      rcases ig h with ⟨k, h1, _⟩ | ⟨k, h1, _⟩ | ⟨k, h1, b, _⟩ | ⟨k, h1, b, _⟩
      · rw [if_pos k] at a; exact tM h1 x a
      · rw [if_neg (by omega), if_pos k] at a; exact qM h1 x a
      · rw [if_neg (by omega), if_neg (by omega), if_pos k] at a
        rcases List.mem_append.1 a with a | a
        · exact qM h1 x a
        · exact tM b x a
      · rw [if_neg (by omega), if_neg (by omega), if_neg (by omega)] at a
        rcases List.mem_append.1 a with a | a
        · exact qM h1 x a
        · exact qM b x a
theorem GU {s t : ByteArray} (h : mE s = mE t) : s = t := by rw [← xB s, h, xB]
theorem vH {s t : ByteArray} {X Y : List Int} (h : pJ s ++ X = pJ t ++ Y) : s = t ∧ X = Y := by
  simp only [pJ, List.cons_append, List.cons.injEq] at h
  obtain ⟨h1, a⟩ := h
  have b : (mE s).length = (mE t).length := by rw [iT, iT]; omega
  have := List.append_inj a b
  exact ⟨GU this.1, this.2⟩
theorem tT {a b : aA} {X Y : List Int} (h : lH a ++ X = lH b ++ Y) : a = b ∧ X = Y := by
  simp only [lH, List.append_assoc] at h
  obtain ⟨h1, g⟩ := vH h
  obtain ⟨d, i⟩ := vH g
  exact ⟨by cases a; cases b; simp at h1 d; simp [h1, d], i⟩
theorem G8 {a b : aB} (ha : dS a = true) (s : dS b = true) (h : mL a = mL b) : a = b := by
  simp only [mL, List.cons.injEq] at h
  obtain ⟨hk, q⟩ := h
  obtain ⟨p, h⟩ := tT q
  clear q
  have l : ∀ {X Y : List Int}, X = Y → X ++ [] = Y ++ [] := fun h => by rw [h]
  unfold rZ at h
  obtain ⟨A, r, E, w, y, u⟩ := a
  obtain ⟨D, t, F, x, z, v⟩ := b
  simp only at hk p h
  subst hk p
  rcases ig ha with ⟨k, h1, g, i, d⟩ | ⟨k, h1, g, i, d⟩ | ⟨k, h1, g, i, d, j⟩ | ⟨k, h1, g, i, d, j⟩ <;>
  rcases ig s with ⟨k', g1, g2, g3, g4⟩ | ⟨k', g1, g2, g3, g4⟩ | ⟨k', g1, g2, g3, g4, g5⟩ | ⟨k', g1, g2, g3, g4, g5⟩ <;> simp only at k k' g i d g2 g3 g4 <;> (try omega)
  · rw [if_pos k, if_pos k] at h
    simp [vH (l h), g, i, d, g2, g3, g4]
  · rw [if_neg (by omega), if_pos k, if_neg (by omega), if_pos k] at h
    simp [tT (l h), g, i, d, g2, g3, g4]
  · rw [if_neg (by omega), if_neg (by omega), if_pos k, if_neg (by omega), if_neg (by omega), if_pos k] at h
    obtain ⟨m, n⟩ := tT h
    simp only at j g5
    simp [m, vH (l n), d, j, g4, g5]
  · rw [if_neg (by omega), if_neg (by omega), if_neg (by omega), if_neg (by omega), if_neg (by omega), if_neg (by omega)] at h
    obtain ⟨m, n⟩ := tT h
    simp only at j g5
    simp [m, tT (l n), d, j, g4, g5]
theorem vB : uk (fun a b => uW a b = true) (fun c => dS c = true) := by
  refine ⟨fun x _ h => ?_, fun x y z _ _ _ h1 i => rA _ _ _ h1 i, fun x y d g => ?_⟩
  · unfold uW at h; rw [oC] at h; cases h
  · rcases vg (DY x) (DY y) with h | h | h
    · exact .inl h
    · refine .inr (.inl (G8 d g ?_))
      unfold DY at h
      rw [if_pos d, if_pos g] at h
      exact F5 (Ai d) (Ai g) h
    · exact .inr (.inr h)
end Go.Proofs.YtmlncblocfcmiaaGreat
namespace Go.Proofs.YtmlncblocfcmiaaGreat
open Go.RowKit
def kL {α : Type} (R : α → Bool) (lt : α → α → Bool) (last : Option α) : List α → Bool → α → Bool × α
  | [], ok, b => (ok, b)
  | x :: xs, ok, b => if R x && last.all (fun y => lt y x) && (!ok || lt x b) then kL R lt last xs true x else kL R lt last xs ok b
def ua {α : Type} (w : Nat) (R : α → Bool) (lt : α → α → Bool) (d : α) (l : List α) : Nat → List α → Option (List α)
  | 0, _ => none
  | n + 1, out => if !(kL R lt out.getLast? l false d).1 then some out else (eT w out [(kL R lt out.getLast? l false d).2]).bind fun o => ua w R lt d l n o
section
variable {α : Type} {R : α → Bool} {lt : α → α → Bool}
theorem yR (H : uk (fun a b => lt a b = true) (fun x => R x = true)) (last : Option α) : ∀ (l : List α) (ok : Bool) (b : α), (ok = true → R b = true ∧ last.all (fun y => lt y b) = true) →
    ((kL R lt last l ok b).1 = false → ok = false ∧ ∀ x ∈ l, R x = true → last.all (fun y => lt y x) = false) ∧
    ((kL R lt last l ok b).1 = true → R (kL R lt last l ok b).2 = true ∧ last.all (fun y => lt y (kL R lt last l ok b).2) = true ∧ ((kL R lt last l ok b).2 ∈ l ∨ (ok = true ∧ (kL R lt last l ok b).2 = b)) ∧
      (∀ x ∈ l, R x = true → last.all (fun y => lt y x) = true → lt x (kL R lt last l ok b).2 = false) ∧ (ok = true → lt b (kL R lt last l ok b).2 = false))
  | [], ok, b, k => by
    simp only [kL]
    exact ⟨fun h => ⟨h, by simp⟩, fun h => ⟨(k h).1, (k h).2, .inr ⟨h, trivial⟩, by simp, fun _ => by
      cases n : lt b b with
      | false => rfl
      | true => exact absurd n (H.irrefl b (k h).1)⟩⟩
  | x :: xs, ok, b, k => by
    rw [kL]
    by_cases m : (R x && last.all (fun y => lt y x) && (!ok || lt x b)) = true
    · rw [if_pos m]
      simp only [Bool.and_eq_true, Bool.or_eq_true, Bool.not_eq_true'] at m
      obtain ⟨⟨A, t⟩, u⟩ := m
      obtain ⟨h1, s⟩ := yR H last xs true x (fun _ => ⟨A, t⟩)
      refine ⟨fun h => ?_, fun h => ?_⟩
      · cases (h1 h).1
      · obtain ⟨q, a2, a3, a4, a5⟩ := s h
        refine ⟨q, a2, ?_, ?_, ?_⟩
        · rcases a3 with a3 | ⟨_, a3⟩
          · exact .inl (by simp [a3])
          · exact .inl (by rw [a3]; simp)
        · intro y i d g
          rcases List.mem_cons.1 i with rfl | i
          · exact a5 rfl
          · exact a4 y i d g
        · intro j
          cases n : lt b (kL R lt last xs true x).2 with
          | false => rfl
          | true =>
            have v : lt x b = true := by rcases u with h | h; rw [j] at h; cases h; exact h
            have := H.trans x b _ A (k j).1 q v n
            simp only [a5 rfl] at this
            cases this
    · rw [if_neg m]
      obtain ⟨h1, s⟩ := yR H last xs ok b k
      refine ⟨fun h => ⟨(h1 h).1, fun y i d => ?_⟩, fun h => ?_⟩
      · rcases List.mem_cons.1 i with rfl | i
        · have j := (h1 h).1
          cases t : last.all (fun z => lt z y) with
          | false => rfl
          | true => exact absurd (by simp [d, t, j]) m
        · exact (h1 h).2 y i d
      · obtain ⟨q, a2, a3, a4, a5⟩ := s h
        refine ⟨q, a2, ?_, ?_, a5⟩
        · rcases a3 with a3 | a3
          · exact .inl (by simp [a3])
          · exact .inr a3
        · intro y i d g
          rcases List.mem_cons.1 i with rfl | i
          · cases n : lt y (kL R lt last xs ok b).2 with
            | false => rfl
            | true =>
              cases ok with
              | false => exact absurd (by simp [d, g]) m
              | true =>
                have w : lt y b = false := by
                  cases D : lt y b with
                  | false => rfl
                  | true => exact absurd (by simp [d, g, D]) m
                have r := k rfl
                rcases H.total y b d r.1 with p | p | p
                · rw [w] at p; cases p
                · subst p; rw [a5 rfl] at n; cases n
                · have := H.trans b y _ r.1 d q p n
                  simp only [a5 rfl] at this
                  cases this
          · exact a4 y i d g
theorem nW (H : uk (fun a b => lt a b = true) (fun x => R x = true)) {l : List α} (g : ∀ x ∈ l, R x = true) (h : l.Pairwise (fun a b => lt a b = true)) : l.Nodup := by
  refine h.imp_of_mem (fun {a b} ha i d e => ?_)
  subst e
  exact H.irrefl a (g a ha) d
theorem eH : ∀ {l m : List α}, l.Nodup → (∀ x ∈ l, x ∈ m) → l.length ≤ m.length
  | [], _, _, _ => by simp
  | x :: l, m, g, b => by
    obtain ⟨A, B, rfl⟩ := List.append_of_mem (b x (by simp))
    have a := List.nodup_cons.1 g
    have := eH (l := l) (m := A ++ B) a.2 (fun y d => by
      have := b y (List.mem_cons_of_mem _ d)
      simp only [List.mem_append, List.mem_cons] at this ⊢
      rcases this with h | h | h
      · exact .inl h
      · subst h; exact absurd d a.1
      · exact .inr h)
    simp at this ⊢; omega
theorem vu (H : uk (fun a b => lt a b = true) (fun x => R x = true)) {w : Nat} (hw : w ≤ 1000) (d : α) (l : List α) (I : l.length ≤ 1000000000) : ∀ (n : Nat) (out : List α), l.length < n + out.length → out.Pairwise (fun a b => lt a b = true) → (∀ x ∈ out, x ∈ l ∧ R x = true) →
    (∀ x ∈ l, R x = true → x ∈ out ∨ out.getLast?.all (fun y => lt y x) = true) → ∃ s, ua w R lt d l n out = some s ∧ oI (fun a b => lt a b = true) (fun x => R x = true) l s
  | 0, out, J, hp, hm, v => by
    exfalso
    have := eH (nW H (fun x g => (hm x g).2) hp) (fun x g => (hm x g).1)
    omega
  | n + 1, out, J, hp, hm, v => by
    rw [ua]
    obtain ⟨h1, F⟩ := yR H out.getLast? l false d (fun h => by cases h)
    have hlen := eH (nW H (fun x g => (hm x g).2) hp) (fun x g => (hm x g).1)
    cases E : (kL R lt out.getLast? l false d).1 with
    | false =>
      rw [if_pos (by simp)]
      refine ⟨out, rfl, hp, fun x => ⟨hm x, fun g => ?_⟩⟩
      rcases v x g.1 g.2 with h | h
      · exact h
      · rw [(h1 E).2 x g.1 g.2] at h; cases h
    | true =>
      rw [if_neg (by simp)]
      obtain ⟨t, a2, a3, a4, _⟩ := F E
      generalize (kL R lt out.getLast? l false d).2 = b at *
      have u : b ∈ l := by rcases a3 with h | ⟨h, _⟩; exact h; cases h
      have q : ∀ y ∈ out, lt y b = true := by
        intro y i
        obtain ⟨A, z, rfl⟩ : ∃ A z, out = A ++ [z] := by
          rcases List.eq_nil_or_concat out with h | ⟨A, z, h⟩
          · subst h; cases i
          · exact ⟨A, z, by rw [h]; simp⟩
        simp at a2
        rcases List.mem_append.1 i with i | i
        · have D : lt y z = true := (List.pairwise_append.1 hp).2.2 y i z (by simp)
          exact H.trans y z b (hm y (by simp [i])).2 (hm z (by simp)).2 t D a2
        · simp at i; subst i; exact a2
      have r : (out ++ [b]).Pairwise (fun a b => lt a b = true) := List.pairwise_append.2 ⟨hp, by simp, fun x g y i => by simp at i; subst i; exact q x g⟩
      have m : ∀ x ∈ out ++ [b], x ∈ l ∧ R x = true := fun x g => by
        rcases List.mem_append.1 g with g | g
        · exact hm x g
        · simp at g; subst g; exact ⟨u, t⟩
      have k := eH (nW H (fun x g => (m x g).2) r) (fun x g => (m x g).1)
      simp at k
      rw [eX (by simp only [List.length_cons, List.length_nil]; have : (out.length + (0 + 1)) * w ≤ 1000000000 * 1000 := Nat.mul_le_mul (by omega) hw; omega) (by simp; omega)]
      simp only [Option.bind_some]
      refine vu H hw d l I n (out ++ [b]) (by simp; omega) r m (fun x g j => ?_)
      rcases v x g j with h | h
      · exact .inl (by simp [h])
      · have G := a4 x g j h
        rcases H.total x b j t with p | p | p
        · rw [G] at p; cases p
        · subst p; exact .inl (by simp)
        · exact .inr (by simp [p])
end
theorem AJ {α : Type} (A : List α) (x : α) (a : A.length < 4611686018427387904) : dU (A ++ [x]) (IntKind.i64.wrap (((A ++ [x]).length : Int) - 1)) = some x := by
  rw [cP (by simp; try omega) (by simp; try omega)]
  rw [fk A x [] _ (by simp; try omega)]
theorem Au (out : List aB) (k : out.length < 4611686018427387904) : ∀ (l : List aB) (ok : Bool) (b : aB), kY out l ok b = some (kL dS uW out.getLast? l ok b)
  | [], ok, b => rfl
  | x :: xs, ok, b => by
    rw [kY, kL]
    have cmp : ∀ a b, ∃ c, mh a b = some c ∧ decide (c < 0) = uW a b := fun a b => by
      obtain ⟨c, h1, j⟩ := yD a b
      exact ⟨c, h1, by rw [Bool.eq_iff_iff, ← j]; simp⟩
    rw [uZ, Au out k xs true x, Au out k xs ok b]
    obtain ⟨c, h1, j⟩ := cmp x b
    rcases List.eq_nil_or_concat out with h | ⟨A, z, h⟩
    · subst h
      simp only [h1, Option.bind_some, j, List.length_nil, Option.all, List.getLast?_nil]
      generalize uW x b = p
      cases dS x <;> cases ok <;> cases p <;> simp
    · have i : out = A ++ [z] := by rw [h]; simp
      obtain ⟨t, r, s⟩ := cmp z x
      have d : out.getLast? = some z := by rw [i]; simp
      have g : dU out (IntKind.i64.wrap ((out.length : Int) - 1)) = some z := by rw [i]; exact AJ A z (by rw [i] at k; simp at k; omega)
      have m : ((out.length : Int) == 0) = false := by rw [i]; simp; omega
      rw [d]
      simp only [m, g, r, h1, Option.bind_some, j, s, Option.all]
      rcases Bool.eq_false_or_eq_true (uW x b) with hp | hp <;> rcases Bool.eq_false_or_eq_true (uW z x) with n | n <;> rcases Bool.eq_false_or_eq_true (dS x) with q | q <;> cases ok <;> simp [hp, n, q]
theorem M9 (a b : ByteArray) : (!(jB a b || dA a b)) = jB b a := by
  rcases tV a b with h | h | h
  · simp [h, CU h]
  · subst h; simp [oD, mM]
  · have d := CU h
    have g : dA a b = false := F3 (by rintro rfl; rw [mM] at h; cases h)
    simp [h, d, g]
theorem HX {s : ByteArray} (h : fY s = true) : dA s zS = false := F3 (fun e => by have := gO h; rw [e, J2] at this; omega)
theorem AK (out : List ByteArray) (m : out.length < 4611686018427387904) : ∀ (l : List ByteArray) (b : ByteArray),
    ∃ n, lz out l b = some n ∧ (kL fY jB out.getLast? l (!dA b zS) b) = (!dA n zS, n)
  | [], b => ⟨b, rfl, rfl⟩
  | x :: xs, b => by
    rw [lz, kL]
    obtain ⟨w, u, d⟩ := AK out m xs x
    obtain ⟨y, v, j⟩ := AK out m xs b
    rw [ry, u, v]
    by_cases i : fY x = true
    · rw [HX i] at d
      simp only [Bool.not_false] at d
      rcases List.eq_nil_or_concat out with h | ⟨A, z, h⟩
      · subst h
        simp only [Option.bind_some, List.length_nil, Option.all, List.getLast?_nil, i] at *
        rw [d, j]
        generalize jB x b = p
        generalize dA b zS = q
        cases p <;> cases q <;> simp
      · have k : out = A ++ [z] := by rw [h]; simp
        have a : out.getLast? = some z := by rw [k]; simp
        have g : dU out (IntKind.i64.wrap ((out.length : Int) - 1)) = some z := by rw [k]; exact AJ A z (by rw [k] at m; simp at m; omega)
        have r : ((out.length : Int) == 0) = false := by rw [k]; simp; omega
        rw [a] at d j ⊢
        simp only [r, g, Option.bind_some, Option.all, M9, i]
        rw [d, j]
        rcases Bool.eq_false_or_eq_true (jB x b) with hp | hp <;> rcases Bool.eq_false_or_eq_true (jB z x) with s | s <;> rcases Bool.eq_false_or_eq_true (dA b zS) with t | t <;> simp [hp, s, t]
    · simp only [Bool.not_eq_true] at i
      rw [i, j]
      simp
theorem Js (a : List aB) : ∀ (n : Nat) (out s : List aB), ua 136 dS uW (⟨0, ⟨zS, zS⟩, zS, ⟨zS, zS⟩, ⟨zS, zS⟩, zS⟩ : aB) a n out = some s → s.length < 4611686018427387904 → mS a n out = some s ∧ out.length ≤ s.length
  | 0, out, s, h, _ => by cases h
  | n + 1, out, s, h, i => by
    rw [ua] at h
    rw [mS]
    have key : out.length ≤ s.length → kY out a false (⟨0, ⟨zS, zS⟩, zS, ⟨zS, zS⟩, ⟨zS, zS⟩, zS⟩ : aB) = _ := fun k => Au out (by omega) a false _
    split at h
    · rename_i h1
      cases h
      rw [key (Nat.le_refl _)]
      simp only [Option.bind_some]
      rw [if_pos h1]
      exact ⟨rfl, Nat.le_refl _⟩
    · rename_i h1
      obtain ⟨o, b, d⟩ := bind_some h
      have g := Js a n o s d i
      have j : out.length + 1 = o.length := by
        unfold eT at b; split at b
        · cases b; simp
        · cases b
      rw [key (by omega)]
      simp only [Option.bind_some]
      rw [if_neg h1, b]
      exact ⟨g.1, by omega⟩
theorem Jr (a : List ByteArray) : ∀ (n : Nat) (out s : List ByteArray), ua 16 fY jB zS a n out = some s → s.length < 4611686018427387904 → mW a n out = some s ∧ out.length ≤ s.length
  | 0, out, s, h, _ => by cases h
  | n + 1, out, s, h, l => by
    rw [ua] at h
    rw [mW]
    have key : out.length ≤ s.length → ∃ d, lz out a zS = some d ∧ kL fY jB out.getLast? a false zS = (!dA d zS, d) := fun p => by
      have := AK out (by omega) a zS
      rw [oD] at this
      exact this
    split at h
    · rename_i h1
      cases h
      obtain ⟨d, g, i⟩ := key (Nat.le_refl _)
      rw [g]
      rw [i] at h1
      simp only [Option.bind_some]
      rw [if_pos (by simpa using h1)]
      exact ⟨rfl, Nat.le_refl _⟩
    · rename_i h1
      obtain ⟨o, b, j⟩ := bind_some h
      have k := Jr a n o s j l
      have m : out.length + 1 = o.length := by
        unfold eT at b; split at b
        · cases b; simp
        · cases b
      obtain ⟨d, g, i⟩ := key (by omega)
      rw [g]
      rw [i] at h1 b
      simp only [Option.bind_some]
      rw [if_neg (by simpa using h1), b]
      exact ⟨k.1, by omega⟩
abbrev Ll (l s : List ByteArray) := oI (fun a b => jB a b = true) (fun x => fY x = true) l s
abbrev EQ (l s : List aB) := oI (fun a b => uW a b = true) (fun x => dS x = true) l s
theorem uS {α : Type} {lt : α → α → Bool} {R : α → Bool} (H : uk (fun a b => lt a b = true) (fun x => R x = true)) {l s : List α} (h : oI (fun a b => lt a b = true) (fun x => R x = true) l s) : s.length ≤ l.length :=
  eH (nW H (fun x d => ((h.2 x).1 d).2) h.1) (fun x d => ((h.2 x).1 d).1)
theorem Cp (l : List aB) (b : l.length ≤ 1000000000) : ∃ s, nT l = some s ∧ EQ l s := by
  obtain ⟨s, h1, a⟩ := vu vB (w := 136) (by omega) (⟨0, ⟨zS, zS⟩, zS, ⟨zS, zS⟩, ⟨zS, zS⟩, zS⟩ : aB) l b bL [] (by rw [qz]; omega) (by simp) (by simp) (fun x _ _ => .inr rfl)
  exact ⟨s, (Js l bL [] s h1 (by have := uS vB a; omega)).1, a⟩
theorem JV (l : List ByteArray) (b : l.length ≤ 1000000000) : ∃ s, tL l = some s ∧ Ll l s := by
  obtain ⟨s, h1, a⟩ := vu (Jg (fun x => fY x = true)) (w := 16) (by omega) zS l b bL [] (by rw [qz]; omega) (by simp) (by simp) (fun x _ _ => .inr rfl)
  exact ⟨s, (Jr l bL [] s h1 (by have := uS (Jg _) a; omega)).1, a⟩
end Go.Proofs.YtmlncblocfcmiaaGreat
namespace Go.Proofs.YtmlncblocfcmiaaGreat
open Go.RowKit
def zC : aB := ⟨0, ⟨zS, zS⟩, zS, ⟨zS, zS⟩, ⟨zS, zS⟩, zS⟩
theorem FX (f : aB → Option Bool) : ∀ (n : Nat) (l : List aB) (i j : Int), gd f n l i j = wT f zC n l i j
  | 0, _, _, _ => rfl
  | n + 1, l, i, j => by
    rw [gd, wT]
    simp only [FX f n]
    rfl
theorem FL (f : aB → Option Bool) : ∀ (l : List aB) (i : Nat), ic f l i = tk f l i
  | [], _ => rfl
  | x :: l, i => by rw [ic, tk]; simp only [FL f l]
theorem AF (f : aB → Option Bool) (l : List aB) : gI l f = Cg f zC l := by
  unfold gI Cg nx
  simp only [FL, FX]
theorem Ew (i : Int) : ∀ (n : Nat) (l : List aB) (k j : Int), gJ i n l k j = vq bT i n l k j
  | 0, _, _, _ => rfl
  | n + 1, l, k, j => by
    rw [gJ, vq]
    simp only [Ew i n]
theorem D3 (l : List aB) : ∀ (n : Nat) (i : Int), gE l n i = wq bT zC l n i
  | 0, _ => rfl
  | n + 1, i => by
    rw [gE, wq]
    simp only [D3 l n, Ew]
    rfl
theorem Jb (l : List aB) : lZ l = D8 bT zC l := by
  unfold lZ D8
  simp only [D3]
theorem EJ {l : List aB} (a : l.length ≤ 1000000000) : iz l = some l := by
  unfold iz
  rw [eX (by simp; omega) (by simp; omega)]
  simp
theorem Gg (l : List aB) (g : l.length ≤ 1000000000) : ∃ s, nR l = some s ∧ EQ l s := by
  unfold nR
  rw [EJ g]
  simp only [Option.bind_some]
  rw [AF, wX _ (fun x => !dS x) zC l (by omega) (fun x _ => by simp [ra, pI])]
  simp only [Option.bind_some, Bool.not_not]
  have j : (l.filter fun x => dS x).length ≤ l.length := List.length_filter_le _ _
  obtain ⟨s, h1, i, d⟩ := zQ (eq := bT) (lt := fun a b => uW a b = true) (P := fun x => dS x = true) (cf := fun x => mU x.1 x.2) (l := l.filter fun x => dS x) (fun x y => eV) vB (fun x h => (List.mem_filter.1 h).2) (by omega) (fun x y _ _ => zJ x y)
  rw [h1]
  simp only [Option.bind_some]
  rw [Jb, EZ _ _ _ (by omega)]
  refine ⟨_, rfl, d.1, fun x => ?_⟩
  rw [d.2]
  simp
theorem CV (b : List aB) : ∀ (A l : List aB), jk (A ++ l) l A.length = some true
  | A, [] => rfl
  | A, x :: l => by
    rw [jk, fk A x l _ rfl]
    simp only [Option.bind_some]
    rw [eV.2 rfl]
    simp only [Bool.not_true, Bool.false_eq_true, if_false]
    have := CV b (A ++ [x]) l
    simpa using this
theorem DJ (l : List aB) : fX l l = some true := by
  unfold fX
  rw [if_neg (by simp)]
  exact CV [] [] l
end Go.Proofs.YtmlncblocfcmiaaGreat
namespace Go.Proofs.YtmlncblocfcmiaaGreat
open Go.RowKit
def tt {κ : Type} (ks : List κ) : List (κ × Bool) := ks.map fun k => (k, true)
def eQ {κ : Type} (beq : κ → κ → Bool) (ks : List κ) (k : κ) : Bool := ks.any fun x => beq k x
def ins {κ : Type} (beq : κ → κ → Bool) (ks : List κ) (k : κ) : List κ := if eQ beq ks k then ks else ks ++ [k]
section
variable {κ : Type} {beq : κ → κ → Bool}
theorem mu (a : ∀ {x y}, beq x y = true ↔ x = y) (ks : List κ) (k : κ) : eQ beq ks k = true ↔ k ∈ ks := by
  simp [eQ, List.any_eq_true, a]
theorem H7 (ks : List κ) : (tt ks).length = ks.length := by simp [tt]
theorem IN (ks : List κ) (k : κ) : tI beq (tt ks) k false = eQ beq ks k := by
  unfold tI dE eQ tt
  induction ks with
  | nil => rfl
  | cons x xs ih =>
    simp only [List.map_cons, List.find?_cons, List.any_cons]
    cases h : beq k x with
    | true => simp
    | false => simpa using ih
theorem JM (l : ∀ {x y}, beq x y = true ↔ x = y) (ks : List κ) (k : κ) : gG beq (tt ks) k true = tt (ins beq ks k) := by
  unfold gG ins
  have m : (tt ks).findIdx? (fun p => beq k p.1) = ks.findIdx? (fun x => beq k x) := by
    unfold tt; rw [List.findIdx?_map]; rfl
  rw [m]
  cases h : ks.findIdx? (fun x => beq k x) with
  | none =>
    rw [List.findIdx?_eq_none_iff] at h
    rw [if_neg]
    · simp [tt]
    · intro b
      unfold eQ at b
      rw [List.any_eq_true] at b
      obtain ⟨x, n, a⟩ := b
      rw [h x n] at a
      cases a
  | some i =>
    rw [List.findIdx?_eq_some_iff_getElem] at h
    obtain ⟨g, h1, _⟩ := h
    have e := l.1 h1
    rw [if_pos]
    · simp only [tt]
      apply List.ext_getElem?
      intro j
      rw [List.getElem?_set]
      split
      · rename_i d
        subst d
        simp [g, e]
      · rfl
    · unfold eQ
      exact List.any_eq_true.2 ⟨ks[i], List.getElem_mem g, h1⟩
end
section
variable {all : List aB} {wants : List aA} {T : List aA} {W : List ByteArray} {R : List aB}
def gP (c : aB) : List aA := if c.Kind = 1 then [] else if c.Kind = 4 then [c.B, c.C] else [c.B]
end
theorem zB (x : aB) : ∀ l : List aB, pw l x = some (eQ bT l x)
  | [] => rfl
  | y :: l => by
    have ih := zB x l
    unfold pw at ih ⊢
    rw [qy, ih]
    have : bT y x = bT x y := by rw [Bool.eq_iff_iff, eV, eV]; exact eq_comm
    rw [this]
    simp only [eQ, List.any_cons]
    cases bT x y <;> simp
end Go.Proofs.YtmlncblocfcmiaaGreat
namespace Go.Proofs.YtmlncblocfcmiaaGreat
open Go.RowKit
theorem Le {c : aB} (h : dS c = true) : si c = some (c.Head :: gP c) := by
  unfold si
  rw [pI, h]
  simp only [Option.bind_some, Bool.not_true, Bool.false_eq_true, if_false]
  have a : c.Kind = 1 ∨ c.Kind = 2 ∨ c.Kind = 3 ∨ c.Kind = 4 := by rcases ig h with h | h | h | h <;> simp [h.1]
  rcases a with k | k | k | k
  · simp [k, gP]
  · rw [if_pos (by simp [k]), eX (by simp) (by simp)]
    simp [k, gP]
  · rw [if_pos (by simp [k]), eX (by simp) (by simp)]
    simp [k, gP]
  · rw [if_pos (by simp [k]), eX (by simp) (by simp)]
    simp only [Option.bind_some]
    rw [if_pos (by simp [k]), eX (by simp) (by simp)]
    simp [k, gP]
theorem oI.congr {α : Type} {lt : α → α → Prop} {P : α → Prop} {l m s : List α} (h : oI lt P l s) (hm : ∀ x, x ∈ l ↔ x ∈ m) : oI lt P m s := ⟨h.1, fun x => by rw [h.2, hm]⟩
theorem Ki {κ : Type} (ks : List κ) : (tt ks).map (·.1) = ks := by simp [tt, Function.comp_def]
end Go.Proofs.YtmlncblocfcmiaaGreat
namespace Go.Proofs.YtmlncblocfcmiaaGreat
open Go.RowKit
def rh (c : aB) : Nat := c.Head.aC.size + c.Head.aJ.size + c.cH.size + c.B.aC.size + c.B.aJ.size + c.C.aC.size + c.C.aJ.size + c.cO.size
end Go.Proofs.YtmlncblocfcmiaaGreat
namespace Go.Proofs.YtmlncblocfcmiaaGreat
open Go.RowKit
section
variable {κ γ : Type} {beq : κ → κ → Bool}
theorem km (a : ∀ {x y}, beq x y = true ↔ x = y) {A B : List (κ × γ)} {k : κ} {x : γ} (b : ∀ p ∈ A, p.1 ≠ k) : dE beq (A ++ (k, x) :: B) k = some x := by
  unfold dE
  rw [List.find?_append]
  have : A.find? (fun p => beq k p.1) = none := List.find?_eq_none.2 (fun p hp h => b p hp (a.1 h).symm)
  rw [this]
  simp [a.2 (rfl : k = k)]
theorem pv (a : ∀ {x y}, beq x y = true ↔ x = y) {l : List (κ × γ)} {k : κ} (h : ∀ p ∈ l, p.1 ≠ k) : dE beq l k = none := by
  unfold dE
  rw [List.find?_eq_none.2 (fun p hp b => h p hp (a.1 b).symm)]
  rfl
theorem qj (a : ∀ {x y}, beq x y = true ↔ x = y) {A B : List (κ × γ)} {k : κ} {x y : γ} (b : ∀ p ∈ A, p.1 ≠ k) : gG beq (A ++ (k, x) :: B) k y = A ++ (k, y) :: B := by
  have h1 : (A ++ (k, x) :: B).findIdx? (fun p => beq k p.1) = some A.length := by
    rw [List.findIdx?_append, List.findIdx?_eq_none_iff.2 (fun p hp => by
      cases h : beq k p.1 with
      | false => rfl
      | true => exact absurd (a.1 h).symm (b p hp))]
    simp [List.findIdx?_cons, a.2 (rfl : k = k)]
  rw [kA h1]
  simp
theorem wP (a : ∀ {x y}, beq x y = true ↔ x = y) {l : List (κ × γ)} {k : κ} {y : γ} (h : ∀ p ∈ l, p.1 ≠ k) : gG beq l k y = l ++ [(k, y)] := by
  refine oB (List.findIdx?_eq_none_iff.2 (fun p hp => ?_)) y
  cases b : beq k p.1 with
  | false => rfl
  | true => exact absurd (a.1 b).symm (h p hp)
theorem nE (k : κ) : ∀ (l : List (κ × γ)), (∀ p ∈ l, p.1 ≠ k) ∨ ∃ A x B, l = A ++ (k, x) :: B ∧ ∀ p ∈ A, p.1 ≠ k
  | [] => .inl (fun _ h => by cases h)
  | p :: l => by
    by_cases hp : p.1 = k
    · exact .inr ⟨[], p.2, l, by rw [← hp]; rfl, fun _ h => by cases h⟩
    · rcases nE k l with h | ⟨A, x, B, rfl, h⟩
      · exact .inl (fun q a => by rcases List.mem_cons.1 a with rfl | a; exact hp; exact h q a)
      · exact .inr ⟨p :: A, x, B, rfl, fun q a => by rcases List.mem_cons.1 a with rfl | a; exact hp; exact h q a⟩
theorem Ar (a : ∀ {x y}, beq x y = true ↔ x = y) (A B : List (κ × γ)) (k : κ) : dE beq (A ++ B) k = (dE beq A k).or (dE beq B k) := by
  unfold dE
  rw [List.find?_append]
  cases A.find? (fun p => beq k p.1) <;> rfl
theorem vC (p : κ × γ) (l : List (κ × γ)) (k : κ) : dE beq (p :: l) k = if beq k p.1 = true then some p.2 else dE beq l k := by
  unfold dE
  rw [List.find?_cons]
  cases beq k p.1 <;> simp
theorem yE (a : ∀ {x y}, beq x y = true ↔ x = y) (l : List (κ × γ)) (k b : κ) (y : γ) : dE beq (gG beq l k y) b = if beq b k = true then some y else dE beq l b := by
  rcases nE k l with h | ⟨A, x, B, rfl, h⟩
  · rw [wP a h, Ar a, vC]
    by_cases hk : beq b k = true
    · have := a.1 hk
      subst this
      rw [if_pos hk, if_pos hk, pv a h]; rfl
    · rw [if_neg hk, if_neg hk]
      show (dE beq l b).or none = _
      cases dE beq l b <;> rfl
  · rw [qj a h, Ar a, vC, Ar a, vC]
    by_cases hk : beq b k = true
    · have := a.1 hk
      subst this
      rw [if_pos hk, if_pos hk, pv a h]; rfl
    · rw [if_neg hk, if_neg hk, if_neg hk]
end
abbrev iA := List (aA × List ByteArray)
def mm (T : iA) : List (aA × List (ByteArray × Bool)) := T.map fun p => (p.1, tt p.2)
def kX (T : iA) (r : aA) : List ByteArray := (dE bB T r).getD []
def FS (T : iA) : List aV := T.flatMap fun p => p.2.map fun w => (⟨p.1, w⟩ : aV)
def yF (T : iA) (r : aA) (w : ByteArray) : iA := gG bB T r (kX T r ++ [w])
theorem yl (A B : iA) : mm (A ++ B) = mm A ++ mm B := by simp [mm]
theorem tm {A : iA} {r : aA} (h : ∀ p ∈ A, p.1 ≠ r) : ∀ p ∈ mm A, p.1 ≠ r := by
  intro p hp
  simp only [mm, List.mem_map] at hp
  obtain ⟨q, a, rfl⟩ := hp
  exact h q a
theorem J1 (T : iA) (r : aA) : dE bB (mm T) r = (dE bB T r).map tt := by
  rcases nE r T with h | ⟨A, x, B, rfl, h⟩
  · rw [pv bD h, pv bD (tm h)]; rfl
  · rw [km bD h, yl]
    exact km bD (tm h)
theorem FP (T : iA) (r : aA) : (dE bB (mm T) r).getD [] = tt (kX T r) := by
  rw [J1, kX]; cases dE bB T r <;> rfl
theorem BO (T : iA) (r : aA) (w : ByteArray) : (FS (yF T r w)).Perm (FS T ++ [(⟨r, w⟩ : aV)]) := by
  unfold yF kX
  rcases nE r T with h | ⟨A, x, B, rfl, h⟩
  · rw [wP bD h, pv bD h]
    simp [FS]
  · rw [qj bD h, km bD h]
    simp only [FS, List.flatMap_append, List.flatMap_cons, Option.getD_some, List.map_append, List.map_cons, List.map_nil, List.append_assoc]
    refine List.Perm.append_left _ (List.Perm.append_left _ ?_)
    exact List.perm_append_comm
theorem Iu {T : iA} (hk : (T.map (·.1)).Nodup) (r : aA) (w : ByteArray) : ((yF T r w).map (·.1)).Nodup := by
  unfold yF
  rcases nE r T with h | ⟨A, x, B, rfl, h⟩
  · rw [wP bD h]
    simp only [List.map_append, List.map_cons, List.map_nil]
    refine List.nodup_append.2 ⟨hk, by simp, fun a ha b d e => ?_⟩
    simp at d; subst d; subst e
    obtain ⟨p, hp, e⟩ := List.mem_map.1 ha
    exact h p hp e
  · rw [qj bD h]
    simpa using hk
theorem uU {T : iA} (hk : (T.map (·.1)).Nodup) (f : aV) : f ∈ FS T ↔ f.cH ∈ kX T f.aA := by
  simp only [FS, List.mem_flatMap, List.mem_map]
  constructor
  · rintro ⟨p, hp, w, hw, rfl⟩
    obtain ⟨A, B, rfl⟩ := List.append_of_mem hp
    have a : ∀ q ∈ A, q.1 ≠ p.1 := fun q d e => by
      rw [List.map_append, List.map_cons] at hk
      exact (List.nodup_append.1 hk).2.2 q.1 (List.mem_map.2 ⟨q, d, rfl⟩) p.1 (by simp) e
    rw [kX, show p = (p.1, p.2) from rfl, km bD a]
    exact hw
  · intro h
    unfold kX at h
    rcases nE f.aA T with b | ⟨A, x, B, rfl, a⟩
    · rw [pv bD b] at h; cases h
    · rw [km bD a] at h
      exact ⟨(f.aA, x), by simp, f.cH, h, rfl⟩
theorem Fl {T : iA} (h : (FS T).Nodup) (r : aA) : (kX T r).Nodup := by
  unfold kX
  rcases nE r T with b | ⟨A, x, B, rfl, a⟩
  · rw [pv bD b]; simp
  · rw [km bD a]
    simp only [FS, List.flatMap_append, List.flatMap_cons] at h
    have h1 := (List.nodup_append.1 (List.nodup_append.1 h).2.1).1
    simp only [List.Nodup, List.pairwise_map] at h1
    exact h1.imp (fun h e => h (by rw [e]))
inductive iu (C : List aB) : aV → Prop
  | mem (c) : c ∈ C → c.Kind = 1 → iu C ⟨c.Head, c.cH⟩
  | inc (c w) : c ∈ C → c.Kind = 2 → iu C ⟨c.B, w⟩ → iu C ⟨c.Head, w⟩
  | Bu (c b w) : c ∈ C → c.Kind = 3 → iu C ⟨c.B, b⟩ → iu C ⟨⟨b, c.cO⟩, w⟩ → iu C ⟨c.Head, w⟩
  | both (c w) : c ∈ C → c.Kind = 4 → iu C ⟨c.B, w⟩ → iu C ⟨c.C, w⟩ → iu C ⟨c.Head, w⟩
theorem iu.mono {C C' : List aB} (h : ∀ c ∈ C, c ∈ C') {f : aV} (i : iu C f) : iu C' f := by
  induction i with
  | mem c a hk => exact .mem c (h c a) hk
  | inc c w a hk _ ih => exact .inc c w (h c a) hk ih
  | Bu c b w a hk _ _ d g => exact .Bu c b w (h c a) hk d g
  | both c w a hk _ _ d g => exact .both c w (h c a) hk d g
def zX (C : List aB) : List aV := (C.map (·.Head)).flatMap fun r => (C.map (·.cH)).map fun w => (⟨r, w⟩ : aV)
theorem xD (C : List aB) : (zX C).length = C.length * C.length := by
  unfold zX
  have : ∀ l : List aA, (l.flatMap fun r => (C.map (·.cH)).map fun w => (⟨r, w⟩ : aV)).length = l.length * C.length := fun l => by
    induction l with
    | nil => simp
    | cons x l ih => simp only [List.flatMap_cons, List.length_append, ih, List.length_map, List.length_cons, Nat.add_mul]; omega
  rw [this, List.length_map]
theorem Ka {C : List aB} {r : aA} {w : ByteArray} : (⟨r, w⟩ : aV) ∈ zX C ↔ (∃ c ∈ C, c.Head = r) ∧ ∃ c ∈ C, c.cH = w := by
  unfold zX
  simp only [List.mem_flatMap, List.mem_map, aV.mk.injEq]
  constructor
  · rintro ⟨g, ⟨c, d, rfl⟩, h, ⟨b, a, rfl⟩, rfl, rfl⟩; exact ⟨⟨c, d, rfl⟩, b, a, rfl⟩
  · rintro ⟨⟨c, d, rfl⟩, b, a, rfl⟩; exact ⟨_, ⟨c, d, rfl⟩, _, ⟨b, a, rfl⟩, rfl, rfl⟩
theorem iu.FO {C : List aB} {f : aV} (h : iu C f) : ∃ c ∈ C, c.Kind = 1 ∧ c.cH = f.cH := by
  induction h with
  | mem c g hk => exact ⟨c, g, hk, rfl⟩
  | inc c w g hk _ ih => exact ih
  | Bu c b w g hk _ _ a d => exact d
  | both c w g hk _ _ a d => exact a
theorem iu.head {C : List aB} {f : aV} (h : iu C f) : ∃ c ∈ C, c.Head = f.aA := by
  cases h with
  | mem c a hk => exact ⟨c, a, rfl⟩
  | inc c w a hk _ => exact ⟨c, a, rfl⟩
  | Bu c b w a hk _ _ => exact ⟨c, a, rfl⟩
  | both c w a hk _ _ => exact ⟨c, a, rfl⟩
theorem iu.zX {C : List aB} {f : aV} (h : iu C f) : f ∈ zX C := by
  obtain ⟨c, a, _, hw⟩ := h.FO
  exact Ka.2 ⟨h.head, c, a, hw⟩
structure jM (C : List aB) (T : iA) (td : List aV) (n : Int) : Prop where
  keys : (T.map (·.1)).Nodup
  nd : (FS T).Nodup
  F0 : td.Nodup
  sub : ∀ f ∈ td, f ∈ FS T
  num : n = (FS T).length
  qR : ∀ f ∈ FS T, iu C f
theorem jM.len {C : List aB} {T : iA} {b : List aV} {n : Int} (h : jM C T b n) : (FS T).length ≤ C.length * C.length := by
  rw [← xD]; exact eH h.nd (fun f a => (h.qR f a).zX)
theorem jM.KN {C : List aB} {T : iA} {a : List aV} {n : Int} (h : jM C T a n) : a.length ≤ (FS T).length := eH h.F0 h.sub
theorem jM.mono {C C' : List aB} {T : iA} {a : List aV} {n : Int} (h : jM C T a n) (b : ∀ c ∈ C, c ∈ C') : jM C' T a n := ⟨h.keys, h.nd, h.F0, h.sub, h.num, fun f d => (h.qR f d).mono b⟩
structure tW (T : iA) (td : List aV) (T' : iA) (td' : List aV) : Prop where
  eP : ∀ f ∈ FS T, f ∈ FS T'
  todo : ∀ f ∈ td, f ∈ td'
  new : ∀ f ∈ FS T', f ∈ FS T ∨ f ∈ td'
  fresh : ∀ f ∈ td', f ∈ td ∨ f ∉ FS T
theorem tW.refl (T : iA) (a : List aV) : tW T a T a := ⟨fun _ h => h, fun _ h => h, fun _ h => .inl h, fun _ h => .inl h⟩
theorem tW.trans {T T' T'' : iA} {i g a : List aV} (h : tW T i T' g) (k : tW T' g T'' a) : tW T i T'' a :=
  ⟨fun f b => k.eP f (h.eP f b), fun f b => k.todo f (h.todo f b), fun f b => by
    rcases k.new f b with h1 | h1
    · rcases h.new f h1 with d | d
      · exact .inl d
      · exact .inr (k.todo f d)
    · exact .inr h1, fun f b => by
    rcases k.fresh f b with h1 | h1
    · exact h.fresh f h1
    · exact .inr (fun d => h1 (h.eP f d))⟩
theorem A6 {α : Type} (p : α → Bool) : ∀ l : List α, (l.filter p).length + (l.filter fun x => !p x).length = l.length
  | [] => rfl
  | x :: l => by
    have := A6 p l
    cases h : p x <;> simp [h] <;> omega
theorem jM.Ad {C C' : List aB} {T T' : iA} {i d : List aV} {n p : Int} (j : jM C' T' d p) (g : jM C T i n) (x : tW T i T' d) : d.length + (FS T).length ≤ i.length + (FS T').length := by
  classical
  have h1 : (d.filter fun f => decide (f ∈ FS T)).length ≤ i.length := eH (j.F0.filter _) (fun f k => by
    have := List.mem_filter.1 k
    rcases x.fresh f this.1 with h | h
    · exact h
    · exact absurd (by simpa using this.2) h)
  have l : (FS T ++ d.filter fun f => !decide (f ∈ FS T)).length ≤ (FS T').length := eH (List.nodup_append.2 ⟨g.nd, j.F0.filter _, fun a ha b m e => by
    subst e
    have := (List.mem_filter.1 m).2
    simp [ha] at this⟩) (fun f k => by
    rcases List.mem_append.1 k with h | h
    · exact x.eP f h
    · exact j.sub f (List.mem_filter.1 h).1)
  have q : (d.filter fun f => decide (f ∈ FS T)).length + (d.filter fun f => !decide (f ∈ FS T)).length = d.length := by
    exact A6 (fun f => decide (f ∈ FS T)) d
  rw [List.length_append] at l
  omega
def wu (C : List aB) (T : iA) (g : List aV) (b : Option (List (aA × List (ByteArray × Bool)) × List aV × Int)) (Q : iA → Prop) : Prop :=
  ∃ T' a d, b = some (mm T', a, d) ∧ jM C T' a d ∧ tW T g T' a ∧ Q T'
theorem wu.mono {C : List aB} {T : iA} {g : List aV} {a : Option (List (aA × List (ByteArray × Bool)) × List aV × Int)} {Q Q' : iA → Prop} (h : wu C T g a Q) (k : ∀ T', (∀ f ∈ FS T, f ∈ FS T') → Q T' → Q' T') : wu C T g a Q' := by
  obtain ⟨T', b, l, h1, i, d, j⟩ := h
  exact ⟨T', b, l, h1, i, d, k T' d.eP j⟩
def kj (C : List aB) : Prop := C.length ≤ 1000000
theorem kj.sq {C : List aB} (h : kj C) : C.length * C.length ≤ 1000000000000 := Nat.mul_le_mul h h
theorem mN {T : iA} (hk : (T.map (·.1)).Nodup) (r : aA) (w : ByteArray) : tI dA ((dE bB (mm T) r).getD []) w false = true ↔ (⟨r, w⟩ : aV) ∈ FS T := by
  rw [FP, IN, mu eA, uU hk]
theorem wF {C : List aB} (y : kj C) {T : iA} {k : List aV} {n : Int} (h : jM C T k n) (cs : List aB) (us : List (aA × List aB)) (ws : List (ByteArray × List aB)) {r : aA} {w : ByteArray} (z : iu C ⟨r, w⟩) :
    wu C T k (gp (mm T) cs us ws k n r w) (fun T' => (⟨r, w⟩ : aV) ∈ FS T') := by
  unfold gp
  have E := y.sq
  have I := h.len
  have F := h.KN
  by_cases g : (⟨r, w⟩ : aV) ∈ FS T
  · rw [if_pos ((mN h.keys r w).2 g)]
    exact ⟨T, k, n, rfl, h, tW.refl _ _, g⟩
  · rw [if_neg (fun t => g ((mN h.keys r w).1 t))]
    have D : jM C (yF T r w) (k ++ [⟨r, w⟩]) (n + 1) := by
      have hp := BO T r w
      refine ⟨Iu h.keys r w, (hp.nodup_iff).2 (List.nodup_append.2 ⟨h.nd, by simp, fun a ha b p e => ?_⟩), List.nodup_append.2 ⟨h.F0, by simp, fun a ha b p e => ?_⟩, fun f d => hp.mem_iff.2 ?_, ?_, fun f d => ?_⟩
      · simp at p; subst p; subst e; exact g ha
      · simp at p; subst p; subst e; exact g (h.sub _ ha)
      · rcases List.mem_append.1 d with d | d
        · exact List.mem_append_left _ (h.sub f d)
        · exact List.mem_append_right _ d
      · rw [hp.length_eq, h.num]; simp
      · rcases List.mem_append.1 (hp.mem_iff.1 d) with d | d
        · exact h.qR f d
        · simp at d; subst d; exact z
    have u : ((if (dE bB (mm T) r).isNone = true then ((Az bB (mm T) r []).bind fun l => some l) else some (mm T)) : Option _).bind (fun l => (AE bB dA l r w true)) = some (mm (yF T r w)) := by
      unfold yF kX
      rcases nE r T with j | ⟨A, x, B, rfl, s⟩
      · have q := pv bD (tm j)
        rw [q, pv bD j, wP bD j, yl]
        simp only [Option.isNone_none, if_true, Az, q, Option.bind_some]
        rw [wP bD (tm j)]
        unfold AE
        rw [km bD (tm j)]
        simp only [Option.map_some]
        rw [qj bD (tm j)]
        rfl
      · have m := tm s
        have v : dE bB (mm (A ++ (r, x) :: B)) r = some (tt x) := by rw [yl]; exact km bD m
        rw [v, km bD s, qj bD s]
        simp only [Option.isNone_some, Bool.false_eq_true, if_false, Option.bind_some, AE, v, Option.map_some, Option.getD_some]
        have G : w ∉ x := fun hw => g (by
          rw [uU h.keys, kX, km bD s]; exact hw)
        rw [JM eA]
        rw [show ins dA x w = x ++ [w] from by unfold ins; rw [if_neg (fun t => G ((mu eA x w).1 t))]]
        rw [yl, show mm ((r, x) :: B) = (r, tt x) :: mm B from rfl, qj bD m, yl]
        rfl
    refine ⟨yF T r w, k ++ [⟨r, w⟩], n + 1, ?_, D, ⟨fun f d => (BO T r w).mem_iff.2 (List.mem_append_left _ d), fun f d => List.mem_append_left _ d, fun f d => ?_, fun f d => ?_⟩, (BO T r w).mem_iff.2 (by simp)⟩
    · have i := u
      generalize ((if (dE bB (mm T) r).isNone = true then ((Az bB (mm T) r []).bind fun l => some l) else some (mm T)) : Option _) = o at i
      cases o with
      | none => cases i
      | some l =>
        simp only [Option.bind_some] at i ⊢
        rw [i]
        simp only [Option.bind_some]
        rw [eX (by simp; omega) (by simp; omega)]
        simp only [Option.bind_some]
        rw [cP (by rw [h.num]; omega) (by rw [h.num]; omega)]
    · rcases List.mem_append.1 ((BO T r w).mem_iff.1 d) with h1 | h1
      · exact .inl h1
      · exact .inr (List.mem_append_right _ h1)
    · rcases List.mem_append.1 d with h1 | h1
      · exact .inl h1
      · simp at h1; subst h1; exact .inr g
end Go.Proofs.YtmlncblocfcmiaaGreat
namespace Go.Proofs.YtmlncblocfcmiaaGreat
open Go.RowKit
theorem tE (l : List ByteArray) (x : ByteArray) : x ∈ oy l ↔ x ∈ l := by unfold oy; simp
def lO (C : List aB) : Prop := ∀ c ∈ C, dS c = true
theorem HT {c : aB} (h : dS c = true) (hk : c.Kind = 1) : c.cH.size ≤ 16 := by
  rcases ig h with h | h | h | h
  · exact (gO h.2.1).2
  · exact absurd (hk.symm.trans h.1) (by decide)
  · exact absurd (hk.symm.trans h.1) (by decide)
  · exact absurd (hk.symm.trans h.1) (by decide)
theorem Ii {T : iA} (r : aA) (hk : (T.map (·.1)).Nodup) : (kX T r).length ≤ (FS T).length := by
  unfold kX
  rcases nE r T with b | ⟨A, x, B, rfl, a⟩
  · rw [pv bD b]; simp
  · rw [km bD a]
    simp only [FS, List.flatMap_append, List.flatMap_cons, List.length_append, List.length_map, Option.getD_some]
    omega
theorem BV {C : List aB} (a : kj C) (b : lO C) {T : iA} {i : List aV} {n : Int} (h : jM C T i n) (cs : List aB) (us : List (aA × List aB)) (ws : List (ByteArray × List aB)) (q : List aV) (z : Int) (r : aA) :
    jU (mm T) cs us ws q z r = some (oy (kX T r)) := by
  unfold jU gY
  rw [FP]
  simp only [Option.bind_some, gi]
  have l := Ii r h.keys
  have j := h.len
  have k := a.sq
  unfold Bf
  rw [Ki, if_pos]
  refine ⟨Fl h.nd r, fun p hp => ?_, by rw [H7]; omega⟩
  simp only [tt, List.mem_map] at hp
  obtain ⟨w, hw, rfl⟩ := hp
  have g := h.qR ⟨r, w⟩ ((uU h.keys ⟨r, w⟩).2 hw)
  obtain ⟨c, d, hk, e⟩ := g.FO
  have := HT (b c d) hk
  simp only at e ⊢
  rw [← e]
  unfold maxLen
  omega
theorem GZ {C : List aB} (g : kj C) (cs : List aB) (us : List (aA × List aB)) (ws : List (ByteArray × List aB)) (head : aA) : ∀ (l : List ByteArray) {T : iA} {a : List aV} {n : Int}, jM C T a n → (∀ w ∈ l, iu C ⟨head, w⟩) →
    wu C T a (js cs us ws head l (mm T) a n) (fun T' => ∀ w ∈ l, (⟨head, w⟩ : aV) ∈ FS T')
  | [], T, a, n, h, _ => ⟨T, a, n, rfl, h, tW.refl _ _, fun _ hw => by cases hw⟩
  | w :: l, T, a, n, h, i => by
    rw [js]
    obtain ⟨T1, r, s, j, g1, x1, p⟩ := wF g h cs us ws (i w (by simp))
    rw [j]
    simp only [Option.bind_some]
    obtain ⟨T2, d, m, k, g2, x2, q⟩ := GZ g cs us ws head l g1 (fun w hw => i w (by simp [hw]))
    refine ⟨T2, d, m, k, g2, x1.trans x2, fun v b => ?_⟩
    rcases List.mem_cons.1 b with rfl | b
    · exact x2.eP _ p
    · exact q v b
theorem Lx {C : List aB} (b : kj C) (d : lO C) {T : iA} {a : List aV} {n : Int} (h : jM C T a n) (cs : List aB) (us : List (aA × List aB)) (ws : List (ByteArray × List aB)) (r head : aA) (g : ∀ w, (⟨r, w⟩ : aV) ∈ FS T → iu C ⟨head, w⟩) :
    wu C T a (nu (mm T) cs us ws a n r head) (fun T' => ∀ w, (⟨r, w⟩ : aV) ∈ FS T → (⟨head, w⟩ : aV) ∈ FS T') := by
  unfold nu
  rw [BV b d h]
  simp only [Option.bind_some]
  refine (GZ b cs us ws head _ h (fun w hw => g w ((uU h.keys ⟨r, w⟩).2 ((tE _ _).1 hw)))).mono (fun T' _ i w hw => i w ((tE _ _).2 ((uU h.keys ⟨r, w⟩).1 hw)))
def yL (c : aB) (f : aV) (T T' : iA) : Prop :=
  (c.Kind = 2 → f.aA = c.B → (⟨c.Head, f.cH⟩ : aV) ∈ FS T') ∧
  (c.Kind = 3 → f.aA = c.B → ∀ w, (⟨⟨f.cH, c.cO⟩, w⟩ : aV) ∈ FS T → (⟨c.Head, w⟩ : aV) ∈ FS T') ∧
  (c.Kind = 4 → (⟨c.B, f.cH⟩ : aV) ∈ FS T → (⟨c.C, f.cH⟩ : aV) ∈ FS T → (⟨c.Head, f.cH⟩ : aV) ∈ FS T')
theorem yL.mono {c : aB} {f : aV} {T T' T0 T1 : iA} (h : yL c f T T') (g : ∀ f ∈ FS T0, f ∈ FS T) (h1 : ∀ f ∈ FS T', f ∈ FS T1) : yL c f T0 T1 :=
  ⟨fun a b => h1 _ (h.1 a b), fun a b w hw => h1 _ (h.2.1 a b w (g _ hw)), fun a b d => h1 _ (h.2.2 a (g _ b) (g _ d))⟩
theorem Ju (x : Option (List (aA × List (ByteArray × Bool)) × List aV × Int)) : (x.bind fun r => some (r.1, r.2.1, r.2.2)) = x := by cases x <;> rfl
theorem Hl {C : List aB} (m : kj C) (t : lO C) {T : iA} {i : List aV} {n : Int} (h : jM C T i n) (cs : List aB) (us : List (aA × List aB)) (ws : List (ByteArray × List aB)) {c : aB} (p : c ∈ C) {f : aV} (r : f ∈ FS T) (s : f.aA ∈ gP c) :
    wu C T i (kR (mm T) cs us ws i n c f) (yL c f T) := by
  unfold kR
  simp only [Ju, xv]
  by_cases a : c.Kind = 2
  · have l : f.aA = c.B := by simpa [gP, a] using s
    rw [if_pos (by simp [a])]
    have q : iu C ⟨c.Head, f.cH⟩ := .inc c f.cH p a (by rw [← l]; exact h.qR f r)
    refine (wF m h cs us ws q).mono (fun T' _ g => ⟨fun _ _ => g, fun k => absurd (a.symm.trans k) (by decide), fun k => absurd (a.symm.trans k) (by decide)⟩)
  rw [if_neg (by simp [a])]
  by_cases b : c.Kind = 3
  · have l : f.aA = c.B := by simpa [gP, b] using s
    rw [if_pos (by simp [b])]
    refine (Lx m t h cs us ws ⟨f.cH, c.cO⟩ c.Head (fun w hw => .Bu c f.cH w p b (by rw [← l]; exact h.qR f r) (h.qR _ hw))).mono (fun T' _ g => ⟨fun k => absurd k a, fun _ _ w hw => g w hw, fun k => absurd (b.symm.trans k) (by decide)⟩)
  rw [if_neg (by simp [b])]
  by_cases j : c.Kind = 4
  · rw [if_pos (by simp [j])]
    simp only [Option.bind_some]
    by_cases d : (⟨c.B, f.cH⟩ : aV) ∈ FS T ∧ (⟨c.C, f.cH⟩ : aV) ∈ FS T
    · rw [if_pos (by rw [Bool.and_eq_true, mN h.keys, mN h.keys]; exact d)]
      have q : iu C ⟨c.Head, f.cH⟩ := .both c f.cH p j (h.qR _ d.1) (h.qR _ d.2)
      exact (wF m h cs us ws q).mono (fun T' _ g => ⟨fun k => absurd k a, fun k => absurd k b, fun _ _ _ => g⟩)
    · rw [if_neg (by rw [Bool.and_eq_true, mN h.keys, mN h.keys]; exact d)]
      exact ⟨T, i, n, rfl, h, tW.refl _ _, fun k => absurd k a, fun k => absurd k b, fun _ x y => absurd ⟨x, y⟩ d⟩
  · rw [if_neg (by simp [j])]
    exact ⟨T, i, n, rfl, h, tW.refl _ _, fun k => absurd k a, fun k => absurd k b, fun k => absurd k j⟩
theorem DU {C : List aB} (g : kj C) (i : lO C) (cs : List aB) (us : List (aA × List aB)) (ws : List (ByteArray × List aB)) {c : aB} (j : c ∈ C) (k : c.B ∈ gP c) : ∀ (l : List ByteArray) {T : iA} {a : List aV} {n : Int}, jM C T a n → (∀ w ∈ l, (⟨c.B, w⟩ : aV) ∈ FS T) →
    wu C T a (iR cs us ws c l (mm T) a n) (fun T' => ∀ w ∈ l, yL c ⟨c.B, w⟩ T T')
  | [], T, a, n, h, _ => ⟨T, a, n, rfl, h, tW.refl _ _, fun _ hw => by cases hw⟩
  | w :: l, T, a, n, h, hm => by
    rw [iR]
    obtain ⟨T1, t, u, m, g1, x1, r⟩ := Hl g i h cs us ws j (f := ⟨c.B, w⟩) (hm w (by simp)) k
    rw [m]
    simp only [Option.bind_some]
    obtain ⟨T2, d, q, p, g2, x2, s⟩ := DU g i cs us ws j k l g1 (fun w hw => x1.eP _ (hm w (by simp [hw])))
    refine ⟨T2, d, q, p, g2, x1.trans x2, fun v b => ?_⟩
    rcases List.mem_cons.1 b with rfl | b
    · exact r.mono (fun _ h => h) x2.eP
    · exact (s v b).mono x1.eP (fun _ h => h)
def Af (c : aB) (T : iA) (a : List aV) : Prop :=
  (c.Kind = 1 → (⟨c.Head, c.cH⟩ : aV) ∈ FS T) ∧
  (c.Kind = 2 → ∀ w, (⟨c.B, w⟩ : aV) ∈ FS T → (⟨c.B, w⟩ : aV) ∉ a → (⟨c.Head, w⟩ : aV) ∈ FS T) ∧
  (c.Kind = 3 → ∀ b w, (⟨c.B, b⟩ : aV) ∈ FS T → (⟨c.B, b⟩ : aV) ∉ a → (⟨⟨b, c.cO⟩, w⟩ : aV) ∈ FS T → (⟨⟨b, c.cO⟩, w⟩ : aV) ∉ a → (⟨c.Head, w⟩ : aV) ∈ FS T) ∧
  (c.Kind = 4 → ∀ w, (⟨c.B, w⟩ : aV) ∈ FS T → (⟨c.B, w⟩ : aV) ∉ a → (⟨c.C, w⟩ : aV) ∈ FS T → (⟨c.C, w⟩ : aV) ∉ a → (⟨c.Head, w⟩ : aV) ∈ FS T)
theorem Af.ext {c : aB} {T T' : iA} {i d : List aV} (h : Af c T i) (x : tW T i T' d) : Af c T' d := by
  have eP : ∀ f, f ∈ FS T' → f ∉ d → f ∈ FS T ∧ f ∉ i := fun f m j => by
    rcases x.new f m with h1 | h1
    · exact ⟨h1, fun l => j (x.todo f l)⟩
    · exact absurd h1 j
  refine ⟨fun k => x.eP _ (h.1 k), fun k w a b => ?_, fun k b w g a2 a3 a4 => ?_, fun k w g a2 a3 a4 => ?_⟩
  · exact x.eP _ (h.2.1 k w (eP _ a b).1 (eP _ a b).2)
  · exact x.eP _ (h.2.2.1 k b w (eP _ g a2).1 (eP _ g a2).2 (eP _ a3 a4).1 (eP _ a3 a4).2)
  · exact x.eP _ (h.2.2.2 k w (eP _ g a2).1 (eP _ g a2).2 (eP _ a3 a4).1 (eP _ a3 a4).2)
theorem IH {C : List aB} (l : kj C) (r : lO C) {T : iA} {p : List aV} {n : Int} (h : jM C T p n) (cs : List aB) (us : List (aA × List aB)) (ws : List (ByteArray × List aB)) {c : aB} (s : c ∈ C) :
    ∃ T' d i, lW (mm T) cs us ws p n c = some (mm T', d, i) ∧ jM C T' d i ∧ tW T p T' d ∧ Af c T' d := by
  unfold lW
  simp only [Ju]
  by_cases h1 : c.Kind = 1
  · rw [if_pos (by simp [h1])]
    obtain ⟨T', d, i, e, g, x, q⟩ := wF l h cs us ws (iu.mem c s h1)
    exact ⟨T', d, i, e, g, x, fun _ => q, fun k => absurd (h1.symm.trans k) (by decide), fun k => absurd (h1.symm.trans k) (by decide), fun k => absurd (h1.symm.trans k) (by decide)⟩
  · rw [if_neg (by simp [h1]), BV l r h]
    simp only [Option.bind_some]
    have v : c.B ∈ gP c := by unfold gP; rw [if_neg h1]; split <;> simp
    obtain ⟨T', d, i, e, g, x, q⟩ := DU l r cs us ws s v (oy (kX T c.B)) h (fun w hw => (uU h.keys ⟨c.B, w⟩).2 ((tE _ _).1 hw))
    have eP : ∀ f, f ∈ FS T' → f ∉ d → f ∈ FS T := fun f t u => by
      rcases x.new f t with h1 | h1
      · exact h1
      · exact absurd h1 u
    have m : ∀ w, (⟨c.B, w⟩ : aV) ∈ FS T → yL c ⟨c.B, w⟩ T T' := fun w hw => q w ((tE _ _).2 ((uU h.keys ⟨c.B, w⟩).1 hw))
    refine ⟨T', d, i, e, g, x, fun k => absurd k h1, fun k w a b => ?_, fun k b w j a2 a3 a4 => ?_, fun k w j a2 a3 a4 => ?_⟩
    · exact (m w (eP _ a b)).1 k rfl
    · exact (m b (eP _ j a2)).2.1 k rfl w (eP _ a3 a4)
    · exact (m w (eP _ j a2)).2.2 k (eP _ j a2) (eP _ a3 a4)
structure yQ (C : List aB) (us : List (aA × List aB)) (ws : List (ByteArray × List aB)) : Prop where
  IE : ∀ r c, c ∈ (dE bB us r).getD [] ↔ c ∈ C ∧ r ∈ gP c
  word : ∀ w c, c ∈ (dE dA ws w).getD [] ↔ c ∈ C ∧ c.Kind = 3 ∧ c.cO = w
  Kx : ∀ r, ((dE bB us r).getD []).length ≤ 2 * C.length
  LI : ∀ w, ((dE dA ws w).getD []).length ≤ C.length
theorem Dh {C : List aB} (g : kj C) (i : lO C) (cs : List aB) (us : List (aA × List aB)) (ws : List (ByteArray × List aB)) {f : aV} : ∀ (l : List aB) {T : iA} {a : List aV} {n : Int}, jM C T a n → f ∈ FS T → (∀ c ∈ l, c ∈ C ∧ f.aA ∈ gP c) →
    wu C T a (iD cs us ws f l (mm T) a n) (fun T' => ∀ c ∈ l, yL c f T T')
  | [], T, a, n, h, _, _ => ⟨T, a, n, rfl, h, tW.refl _ _, fun _ hw => by cases hw⟩
  | c :: l, T, a, n, h, j, hm => by
    rw [iD]
    obtain ⟨T1, t, u, k, g1, x1, r⟩ := Hl g i h cs us ws (hm c (by simp)).1 j (hm c (by simp)).2
    rw [k]
    simp only [Option.bind_some]
    obtain ⟨T2, d, q, m, g2, x2, s⟩ := Dh g i cs us ws l g1 (x1.eP _ j) (fun c p => hm c (by simp [p]))
    refine ⟨T2, d, q, m, g2, x1.trans x2, fun v b => ?_⟩
    rcases List.mem_cons.1 b with rfl | b
    · exact r.mono (fun _ h => h) x2.eP
    · exact (s v b).mono x1.eP (fun _ h => h)
theorem yg {C : List aB} (k : kj C) (t : lO C) (cs : List aB) (us : List (aA × List aB)) (ws : List (ByteArray × List aB)) {f : aV} : ∀ (l : List aB) {T : iA} {g : List aV} {n : Int}, jM C T g n → f ∈ FS T → (∀ c ∈ l, c ∈ C ∧ c.Kind = 3 ∧ c.cO = f.aA.aJ) →
    wu C T g (gx f cs us ws l (mm T) g n) (fun T' => ∀ c ∈ l, (⟨c.B, f.aA.aC⟩ : aV) ∈ FS T → (⟨c.Head, f.cH⟩ : aV) ∈ FS T')
  | [], T, g, n, h, _, _ => ⟨T, g, n, rfl, h, tW.refl _ _, fun _ hw => by cases hw⟩
  | c :: l, T, g, n, h, p, hm => by
    rw [gx]
    have hk := hm c (by simp)
    by_cases i : (⟨c.B, f.aA.aC⟩ : aV) ∈ FS T
    · rw [if_pos ((mN h.keys _ _).2 i)]
      have q : f = ⟨⟨f.aA.aC, c.cO⟩, f.cH⟩ := by rw [hk.2.2]
      have w : iu C ⟨c.Head, f.cH⟩ := .Bu c f.aA.aC f.cH hk.1 hk.2.1 (h.qR _ i) (by rw [← q]; exact h.qR f p)
      obtain ⟨T1, z, A, u, g1, x1, y⟩ := wF k h cs us ws w
      rw [u]
      simp only [Option.bind_some]
      obtain ⟨T2, d, r, j, g2, x2, s⟩ := yg k t cs us ws l g1 (x1.eP _ p) (fun c m => hm c (by simp [m]))
      refine ⟨T2, d, r, j, g2, x1.trans x2, fun v b a => ?_⟩
      rcases List.mem_cons.1 b with rfl | b
      · exact x2.eP _ y
      · exact s v b (x1.eP _ a)
    · rw [if_neg (fun x => i ((mN h.keys _ _).1 x))]
      obtain ⟨T2, d, r, j, g2, x2, s⟩ := yg k t cs us ws l h p (fun c m => hm c (by simp [m]))
      refine ⟨T2, d, r, j, g2, x2, fun v b a => ?_⟩
      rcases List.mem_cons.1 b with rfl | b
      · exact absurd a i
      · exact s v b a
theorem CF {C : List aB} (D : kj C) (E : lO C) {cs : List aB} {us : List (aA × List aB)} {ws : List (ByteArray × List aB)} (u : yQ C us ws) : ∀ (m : Nat) {T : iA} {l : List aV} {n : Int}, jM C T l n → (∀ c ∈ C, Af c T l) → C.length * C.length + l.length < m + (FS T).length →
    ∃ T' I, fP cs us ws m (mm T) l n = some (mm T', [], I) ∧ jM C T' [] I ∧ (∀ c ∈ C, Af c T' []) ∧ (∀ f ∈ FS T, f ∈ FS T')
  | 0, T, l, n, h, _, hm => by have := h.len; omega
  | m + 1, T, [], n, h, q, hm => by
    rw [fP]
    exact ⟨T, n, rfl, h, q, fun _ h => h⟩
  | m + 1, T, f :: l, n, h, q, hm => by
    rw [fP]
    rw [if_pos (by simp)]
    have G : f ∈ FS T := h.sub f (by simp)
    have P := (List.nodup_cons.1 h.F0)
    simp only [dU, Int.le_refl, if_true, Int.toNat_zero, List.getElem?_cons_zero, Option.bind_some]
    rw [show lV (decide ((0 : Nat) ≤ 1) && decide ((1 : Int) ≤ ((f :: l).length : Int))) = some () by simp [lV]; omega]
    simp only [Option.bind_some, show Int.toNat 1 = 1 from rfl, List.drop_one, List.tail_cons]
    have F : jM C T l n := ⟨h.keys, h.nd, P.2, fun g y => h.sub g (by simp [y]), h.num, h.qR⟩
    obtain ⟨T1, Z, n1, L, g1, x1, W⟩ := Dh D E cs us ws ((dE bB us f.aA).getD []) F G (fun c i => (u.IE _ c).1 i)
    rw [L]
    simp only [Option.bind_some]
    obtain ⟨T2, r, n2, M, g2, x2, Y⟩ := yg D E cs us ws ((dE dA ws f.aA.aJ).getD []) g1 (x1.eP _ G) (fun c i => (u.word _ c).1 i)
    rw [M]
    simp only [Option.bind_some]
    have x := x1.trans x2
    have eP : ∀ g, g ∈ FS T2 → g ∉ r → g ∈ FS T ∧ (g = f ∨ g ∉ f :: l) := fun g y z => by
      rcases x.new g y with h1 | h1
      · refine ⟨h1, ?_⟩
        by_cases he : g = f
        · exact .inl he
        · exact .inr (fun t => by
            rcases List.mem_cons.1 t with t | t
            · exact he t
            · exact z (x.todo g t))
      · exact absurd h1 z
    have d1 : ∀ c ∈ C, f.aA ∈ gP c → yL c f T T2 := fun c i Q => (W c ((u.IE _ c).2 ⟨i, Q⟩)).mono (fun _ h => h) x2.eP
    have v : ∀ c ∈ C, Af c T2 r := fun c i => by
      have k := q c i
      refine ⟨fun hk => x.eP _ (k.1 hk), fun hk w a b => ?_, fun hk b w A a2 a3 a4 => ?_, fun hk w A a2 a3 a4 => ?_⟩
      · obtain ⟨p, d⟩ := eP _ a b
        rcases d with d | d
        · subst d; exact (d1 c i (by simp [gP, hk])).1 hk rfl
        · exact x.eP _ (k.2.1 hk w p d)
      · obtain ⟨p, d⟩ := eP _ A a2
        obtain ⟨s, j⟩ := eP _ a3 a4
        rcases d with d | d
        · subst d; exact (d1 c i (by simp [gP, hk])).2.1 hk rfl w s
        · rcases j with j | j
          · subst j
            exact Y c ((u.word _ c).2 ⟨i, hk, rfl⟩) (x1.eP _ p)
          · exact x.eP _ (k.2.2.1 hk b w p d s j)
      · obtain ⟨p, d⟩ := eP _ A a2
        obtain ⟨s, j⟩ := eP _ a3 a4
        rcases d with d | d
        · subst d; exact (d1 c i (by simp [gP, hk])).2.2 hk p s
        · rcases j with j | j
          · subst j; exact (d1 c i (by simp [gP, hk])).2.2 hk p s
          · exact x.eP _ (k.2.2.2 hk w p d s j)
    have hlen : r.length + (FS T).length ≤ l.length + (FS T2).length := by
      exact g2.Ad F x
    obtain ⟨T3, R, O, g3, J, U⟩ := CF D E u m g2 v (by simp only [List.length_cons] at hm; omega)
    exact ⟨T3, R, O, g3, J, fun g y => U g (x.eP g y)⟩
end Go.Proofs.YtmlncblocfcmiaaGreat
namespace Go.Proofs.YtmlncblocfcmiaaGreat
open Go.RowKit
theorem FK (c : aB) : ∀ (l : List aB) (i : Nat), ∃ z, jx c l i = some z ∧ (z ≥ 0 ↔ c ∈ l)
  | [], i => ⟨-1, rfl, by simp⟩
  | x :: l, i => by
    rw [jx]
    by_cases h : bT c x = true
    · rw [if_pos h]
      exact ⟨_, rfl, by simp [eV.1 h]⟩
    · rw [if_neg h]
      obtain ⟨z, e, b⟩ := FK c l (i + 1)
      refine ⟨z, e, ?_⟩
      rw [b, List.mem_cons]
      exact ⟨.inr, fun a => a.resolve_left (fun e => h (eV.2 e))⟩
theorem El (c : aB) (l : List aB) : ∃ b, kk l c = some b ∧ (b = true ↔ c ∈ l) := by
  obtain ⟨z, e, a⟩ := FK c l 0
  refine ⟨decide (z ≥ 0), ?_, by simpa using a⟩
  unfold kk lJ pA
  rw [e]
  rfl
theorem F4 (c : aB) (ws : List (ByteArray × List aB)) (C : List aB) (hw : ∀ w, ((dE dA ws w).getD []).length ≤ 2000000) : ∀ (i : List aA) (us : List (aA × List aB)), (∀ r, ((dE bB us r).getD []).length + i.length ≤ 4000000) →
    ∃ d g, gQ c ws C i us = some (C, d, g) ∧ (∀ r x, x ∈ (dE bB d r).getD [] ↔ x ∈ (dE bB us r).getD [] ∨ (x = c ∧ r ∈ i)) ∧
      (∀ w x, x ∈ (dE dA g w).getD [] ↔ x ∈ (dE dA ws w).getD [] ∨ (x = c ∧ c.Kind = 3 ∧ w = c.cO)) ∧ (∀ r, ((dE bB d r).getD []).length ≤ ((dE bB us r).getD []).length + i.length) ∧
      (∀ w, ((dE dA g w).getD []).length ≤ ((dE dA ws w).getD []).length + 1)
  | [], us, _ => by
    rw [gQ]
    by_cases j : c.Kind = 3
    · rw [if_pos (by simp [j])]
      have h := hw c.cO
      rw [eX (by simp; omega) (by simp; omega)]
      simp only [Option.bind_some]
      refine ⟨us, _, rfl, by simp, fun w x => ?_, by simp, fun w => ?_⟩
      · rw [yE eA]
        by_cases hk : dA w c.cO = true
        · rw [if_pos hk, eA.1 hk]; simp [j]
        · rw [if_neg hk]
          have : w ≠ c.cO := fun e => hk (eA.2 e)
          simp [this]
      · rw [yE eA]
        by_cases hk : dA w c.cO = true
        · rw [if_pos hk, eA.1 hk]; simp
        · rw [if_neg hk]; exact Nat.le_succ _
    · rw [if_neg (by simp [j])]
      exact ⟨us, ws, rfl, by simp, by simp [j], by simp, by simp⟩
  | a :: i, us, k => by
    rw [gQ]
    have h := k a
    simp only [List.length_cons] at h
    rw [eX (by simp; omega) (by simp; omega)]
    simp only [Option.bind_some]
    have b : ∀ r, (dE bB (gG bB us a (((dE bB us a).getD []) ++ [c])) r).getD [] = if bB r a = true then ((dE bB us a).getD []) ++ [c] else (dE bB us r).getD [] := fun r => by
      rw [yE bD]; by_cases hk : bB r a = true
      · rw [if_pos hk, if_pos hk]; rfl
      · rw [if_neg hk, if_neg hk]
    obtain ⟨d, g, e, l, a2, a3, a4⟩ := F4 c ws C hw i (gG bB us a (((dE bB us a).getD []) ++ [c])) (fun r => by
      rw [b r]
      have m := k r
      simp only [List.length_cons] at m
      by_cases hk : bB r a = true
      · rw [if_pos hk]; simp; omega
      · rw [if_neg hk]; omega)
    refine ⟨d, g, e, fun r x => ?_, a2, fun r => ?_, a4⟩
    · rw [l, b]
      by_cases hk : bB r a = true
      · rw [if_pos hk, bD.1 hk]
        simp only [List.mem_append, List.mem_cons, List.not_mem_nil, or_false]
        constructor
        · rintro ((h | h) | h)
          · exact .inl h
          · exact .inr ⟨h, .inl trivial⟩
          · exact .inr ⟨h.1, .inr h.2⟩
        · rintro (h | h)
          · exact .inl (.inl h)
          · exact .inl (.inr h.1)
      · rw [if_neg hk]
        have : r ≠ a := fun e => hk (bD.2 e)
        simp [this]
    · have := a3 r
      rw [b r] at this
      by_cases hk : bB r a = true
      · rw [if_pos hk] at this; rw [bD.1 hk] at this ⊢; simp at this ⊢; omega
      · rw [if_neg hk] at this; simp; omega
theorem JW {C : List aB} {us : List (aA × List aB)} {ws : List (ByteArray × List aB)} (g : yQ C us ws) (p : C.length + 1 ≤ 1000000) {c : aB} (k : dS c = true) (i : List (aA × List (ByteArray × Bool))) (m : List aV) (n : Int) :
    ∃ a b, mK i C us ws m n c = some (C ++ [c], a, b) ∧ yQ (C ++ [c]) a b := by
  unfold mK
  rw [eX (by simp; omega) (by simp; omega)]
  simp only [Option.bind_some, Le k]
  rw [show lV (decide ((0 : Nat) ≤ 1) && decide ((1 : Int) ≤ ((c.Head :: gP c).length : Int))) = some () by simp [lV]; omega]
  simp only [Option.bind_some, show Int.toNat 1 = 1 from rfl, List.drop_one, List.tail_cons]
  have l : (gP c).length ≤ 2 := by unfold gP; split; simp; split <;> simp
  obtain ⟨a, b, e, j, a2, a3, a4⟩ := F4 c ws (C ++ [c]) (fun w => by have := g.LI w; omega) (gP c) us (fun r => by have := g.Kx r; omega)
  refine ⟨a, b, e, fun r x => ?_, fun w x => ?_, fun r => ?_, fun w => ?_⟩
  · rw [j, g.IE, List.mem_append, List.mem_singleton]
    constructor
    · rintro (h | h)
      · exact ⟨.inl h.1, h.2⟩
      · exact ⟨.inr h.1, by rw [h.1]; exact h.2⟩
    · rintro ⟨h | h, d⟩
      · exact .inl ⟨h, d⟩
      · exact .inr ⟨h, by rw [← h]; exact d⟩
  · rw [a2, g.word, List.mem_append, List.mem_singleton]
    constructor
    · rintro (h | h)
      · exact ⟨.inl h.1, h.2⟩
      · exact ⟨.inr h.1, by rw [h.1]; exact ⟨h.2.1, h.2.2.symm⟩⟩
    · rintro ⟨h | h, d⟩
      · exact .inl ⟨h, d⟩
      · subst h; exact .inr ⟨rfl, d.1, d.2.symm⟩
  · have := a3 r; have := g.Kx r; simp; omega
  · have := a4 w; have := g.LI w; simp; omega
structure MS (C : List aB) (T : iA) (us : List (aA × List aB)) (ws : List (ByteArray × List aB)) (n : Int) : Prop where
  yb : jM C T [] n
  cl : ∀ c ∈ C, Af c T []
  MO : yQ C us ws
  right : lO C
theorem MS.all {C : List aB} {T : iA} {us : List (aA × List aB)} {ws : List (ByteArray × List aB)} {n : Int} (h : MS C T us ws n) (f : aV) : f ∈ FS T ↔ iu C f := by
  refine ⟨h.yb.qR f, fun i => ?_⟩
  induction i with
  | mem c a hk => exact (h.cl c a).1 hk
  | inc c w a hk _ ih => exact (h.cl c a).2.1 hk w ih (by simp)
  | Bu c b w a hk _ _ d g => exact (h.cl c a).2.2.1 hk b w d (by simp) g (by simp)
  | both c w a hk _ _ d g => exact (h.cl c a).2.2.2 hk w d (by simp) g (by simp)
theorem D5 (q : Int) (y : 0 ≤ q ∧ q ≤ 1000000000000) : ∀ (l : List aB) {C : List aB} {T : iA} {p : List aV} {us : List (aA × List aB)} {ws : List (ByteArray × List aB)} {n : Int}, jM C T p n → (∀ c ∈ C, Af c T p) → yQ C us ws → lO C → C.length + l.length ≤ 1000000 →
    ∃ C' T' a d j, gr q l (mm T) C us ws p n = some (j - q, mm T', C', a, d, [], j) ∧ MS C' T' a d j ∧ (∀ c, c ∈ C' ↔ c ∈ C ∨ (c ∈ l ∧ dS c = true)) ∧ C'.length ≤ C.length + l.length ∧ (∀ f ∈ FS T, f ∈ FS T')
  | [], C, T, p, us, ws, n, g, i, t, r, I => by
    rw [gr]
    have Q : kj C := by unfold kj; simp at I; omega
    have a6 := Q.sq
    have hlen := g.len
    have a7 := g.KN
    obtain ⟨T', j, e, D, U, o⟩ := CF Q r t (cs := C) bL g i (by rw [qz]; omega)
    unfold nV
    rw [e]
    simp only [Option.bind_some]
    have J := D.len
    have R := D.num
    rw [cP (by omega) (by omega)]
    exact ⟨C, T', us, ws, j, rfl, ⟨D, U, t, r⟩, by simp, by simp, o⟩
  | x :: l, C, T, p, us, ws, n, g, i, t, r, I => by
    rw [gr, pI]
    simp only [List.length_cons] at I
    obtain ⟨b, Z, u⟩ := El x C
    simp only [Option.bind_some, Z, xv]
    by_cases k : dS x = true ∧ x ∉ C
    · have F : b = false := by cases b with | false => rfl | true => exact absurd (u.1 rfl) k.2
      rw [k.1, F]
      simp only [Bool.not_false, Bool.and_self, if_true]
      obtain ⟨O, P, W, U1⟩ := JW t (by omega) k.1 (mm T) p n
      rw [W]
      simp only [Option.bind_some]
      have E : kj (C ++ [x]) := by unfold kj; simp; omega
      have s : lO (C ++ [x]) := fun c v => by
        rcases List.mem_append.1 v with h | h
        · exact r c h
        · simp at h; subst h; exact k.1
      have g1 : jM (C ++ [x]) T p n := g.mono (fun c v => List.mem_append_left _ v)
      obtain ⟨T2, M, n2, Y, g2, x2, c2⟩ := IH E s g1 (C ++ [x]) O P (c := x) (by simp)
      rw [Y]
      simp only [Option.bind_some]
      have w : ∀ c ∈ C ++ [x], Af c T2 M := fun c v => by
        rcases List.mem_append.1 v with h | h
        · exact (i c h).ext x2
        · simp at h; subst h; exact c2
      obtain ⟨C', T', a, d, j, e, m, A, a2, a3⟩ := D5 q y l g2 w U1 s (by simp; omega)
      refine ⟨C', T', a, d, j, e, m, fun c => ?_, by simp at a2 ⊢; omega, fun f G => a3 f (x2.eP f G)⟩
      rw [A]
      simp only [List.mem_append, List.mem_cons, List.not_mem_nil, or_false]
      constructor
      · rintro ((h | h) | h)
        · exact .inl h
        · subst h; exact .inr ⟨.inl rfl, k.1⟩
        · exact .inr ⟨.inr h.1, h.2⟩
      · rintro (h | ⟨h | h, z⟩)
        · exact .inl (.inl h)
        · exact .inl (.inr h)
        · exact .inr ⟨h, z⟩
    · have G : (dS x && !b) = false := by
        cases hr : dS x with
        | false => rfl
        | true =>
          have : x ∈ C := Classical.byContradiction fun L => k ⟨hr, L⟩
          rw [u.2 this]; rfl
      rw [G]
      simp only [Bool.false_eq_true, if_false]
      obtain ⟨C', T', a, d, j, e, m, A, a2, a3⟩ := D5 q y l g i t r (by omega)
      refine ⟨C', T', a, d, j, e, m, fun c => ?_, by simp; omega, a3⟩
      rw [A, List.mem_cons]
      constructor
      · rintro (h | h)
        · exact .inl h
        · exact .inr ⟨.inr h.1, h.2⟩
      · rintro (h | ⟨h | h, z⟩)
        · exact .inl h
        · subst h
          exact .inl (Classical.byContradiction fun L => k ⟨z, L⟩)
        · exact .inr ⟨h, z⟩
theorem LL {C : List aB} {T : iA} {us : List (aA × List aB)} {ws : List (ByteArray × List aB)} {n : Int} (h : MS C T us ws n) (l : List aB) (i : C.length + l.length ≤ 1000000) :
    ∃ C' T' a b d, nt (mm T) C us ws [] n l = some (d - n, mm T', C', a, b, [], d) ∧ MS C' T' a b d ∧ (∀ c, c ∈ C' ↔ c ∈ C ∨ (c ∈ l ∧ dS c = true)) ∧ C'.length ≤ C.length + l.length ∧ (∀ f ∈ FS T, f ∈ FS T') := by
  have g : kj C := by unfold kj; omega
  have h1 := h.yb.len
  have j := g.sq
  have k := h.yb.num
  exact D5 n ⟨by omega, by omega⟩ l h.yb h.cl h.MO h.right i
theorem yQ.zero : yQ [] [] [] := ⟨fun r c => by simp [dE], fun w c => by simp [dE], fun r => by simp [dE], fun w => by simp [dE]⟩
theorem jM.zero : jM [] [] [] 0 := ⟨by simp, by simp [FS], by simp, by simp, by simp [FS], by simp [FS]⟩
theorem MS.zero : MS [] [] [] [] 0 := ⟨jM.zero, fun c a => (by cases a), yQ.zero, fun c a => (by cases a)⟩
theorem GG (l : List aB) (g : l.length ≤ 1000000) : ∃ C T us ws n, sr l = some (mm T, C, us, ws, [], n) ∧ MS C T us ws n ∧ (∀ c, c ∈ C ↔ c ∈ l ∧ dS c = true) ∧ C.length ≤ l.length := by
  unfold sr
  obtain ⟨C', T', a, b, h, e, m, d, a2, a3⟩ := LL MS.zero l (by simpa using g)
  rw [show nt [] [] [] [] [] 0 l = _ from e]
  exact ⟨C', T', a, b, h, rfl, m, by simpa using d, by simpa using a2⟩
theorem iu.congr {C C' : List aB} (h : ∀ c, c ∈ C ↔ c ∈ C') (f : aV) : iu C f ↔ iu C' f := ⟨fun d => d.mono (fun c a => (h c).1 a), fun d => d.mono (fun c a => (h c).2 a)⟩
end Go.Proofs.YtmlncblocfcmiaaGreat
namespace Go.Proofs.YtmlncblocfcmiaaGreat
open Go.RowKit
def sN (a b : aV) : Bool := vO a.aA b.aA || (bB a.aA b.aA && jB a.cH b.cH)
theorem uL {a b : aV} : sN a b = true ↔ vO a.aA b.aA = true ∨ (a.aA = b.aA ∧ jB a.cH b.cH = true) := by simp [sN, bD]
def xo (_ : aV) : Bool := true
theorem AW : uk (fun a b => sN a b = true) (fun x => xo x = true) := by
  have H := Mo (fun _ => True)
  refine ⟨fun x _ => ?_, fun x y z _ _ _ h1 d => ?_, fun x y _ _ => ?_⟩
  · rw [uL]
    rintro (h | ⟨_, h⟩)
    · exact H.irrefl _ trivial h
    · rw [mM] at h; cases h
  · rw [uL] at *
    rcases h1 with h1 | ⟨i, h1⟩
    · rcases d with d | ⟨g, d⟩
      · exact .inl (H.trans _ _ _ trivial trivial trivial h1 d)
      · exact .inl (by rw [← g]; exact h1)
    · rcases d with d | ⟨g, d⟩
      · exact .inl (by rw [i]; exact d)
      · exact .inr ⟨i.trans g, tP h1 d⟩
  · simp only [uL]
    rcases H.total x.aA y.aA trivial trivial with h | h | h
    · exact .inl (.inl h)
    · rcases tV x.cH y.cH with d | d | d
      · exact .inl (.inr ⟨h, d⟩)
      · refine .inr (.inl ?_)
        cases x; cases y; simp at h d; simp [h, d]
      · exact .inr (.inr (.inr ⟨h.symm, d⟩))
    · exact .inr (.inr (.inl h))
theorem BJ (a b : ByteArray) : iM a b = 0 ↔ a = b := by unfold iM; rw [AG]; exact ⟨tS, fun h => by rw [h]⟩
theorem Mq (a b : ByteArray) : iM a b < 0 ↔ jB a b = true := by rw [rO]; exact wK _ _
theorem H5 (a b : aA) : ∃ c, ll a b = some c ∧ (c < 0 ↔ vO a b = true) ∧ (c = 0 ↔ a = b) := by
  obtain ⟨c, e, h⟩ := uo a b
  refine ⟨c, e, h, ?_⟩
  unfold ll at e
  simp only [jd, fZ, Option.bind_some, oq, me, gi] at e
  by_cases d : iM a.aC b.aC = 0
  · rw [if_neg (by simp [d])] at e
    have h1 := (BJ _ _).1 d
    by_cases g : iM a.aJ b.aJ = 0
    · rw [if_neg (by simp [g])] at e
      have i := (BJ _ _).1 g
      cases e
      refine ⟨fun _ => ?_, fun _ => rfl⟩
      cases a; cases b; simp at h1 i; simp [h1, i]
    · rw [if_pos (by simp [g])] at e
      cases e
      exact ⟨fun k => absurd k g, fun k => by rw [k] at g; exact absurd ((BJ _ _).2 rfl) g⟩
  · rw [if_pos (by simp [d])] at e
    cases e
    exact ⟨fun k => absurd k d, fun k => by rw [k] at d; exact absurd ((BJ _ _).2 rfl) d⟩
theorem IS (a b : aV) : ∃ c, jy a b = some c ∧ (c < 0 ↔ sN a b = true) := by
  unfold jy
  obtain ⟨c, e, h1, i⟩ := H5 a.aA b.aA
  rw [e]
  simp only [jd, fZ, Option.bind_some, oq, me, gi]
  by_cases g : c = 0
  · rw [if_neg (by simp [g])]
    have l := i.1 g
    have d : ¬ vO a.aA b.aA = true := fun j => by have := h1.2 j; omega
    by_cases h : iM a.cH b.cH = 0
    · rw [if_neg (by simp [h])]
      refine ⟨0, rfl, ?_⟩
      rw [uL]
      simp [d, (BJ _ _).1 h, mM]
    · rw [if_pos (by simp [h])]
      refine ⟨_, rfl, ?_⟩
      rw [uL, Mq]
      exact ⟨fun k => .inr ⟨l, k⟩, fun k => k.elim (fun k => absurd k d) (·.2)⟩
  · rw [if_pos (by simp [g])]
    refine ⟨c, rfl, ?_⟩
    rw [uL, h1]
    have : a.aA ≠ b.aA := fun k => g (i.2 k)
    simp [this]
theorem F7 {α : Type} {eq : α → α → Bool} (he : ∀ x y, eq x y = true ↔ x = y) : ∀ (l : List α) (p : α), (p :: l).Nodup → fw eq p l = l
  | [], p, _ => rfl
  | y :: l, p, h => by
    have h1 := List.nodup_cons.1 h
    rw [fw, if_neg (fun e => h1.1 (by rw [← (he _ _).1 e]; simp)), F7 he l y h1.2]
theorem Mi {α : Type} {eq : α → α → Bool} (he : ∀ x y, eq x y = true ↔ x = y) : ∀ l : List α, l.Nodup → dd eq l = l
  | [], _ => rfl
  | x :: l, h => by rw [dd, F7 he l x h]
def uX (P : aV → Prop) (s : List aV) : Prop := s.Pairwise (fun a b => sN a b = true) ∧ ∀ f, f ∈ s ↔ P f
theorem uX.unique {P : aV → Prop} {s t : List aV} (h : uX P s) (k : uX P t) : s = t :=
  oI.unique (l := s) AW ⟨h.1, fun x => ⟨fun a => ⟨a, rfl⟩, fun a => a.1⟩⟩ ⟨k.1, fun x => by rw [k.2, h.2]; exact ⟨fun a => ⟨a, rfl⟩, fun a => a.1⟩⟩
theorem BL {l : List aV} (g : l.Nodup) (k : l.length ≤ 1000000000000) : ∃ s, tD (fun (x : aV × aV) => jy x.1 x.2) l = some s ∧ uX (fun f => f ∈ l) s := by
  obtain ⟨s, h1, j, d⟩ := zQ (eq := uH) (lt := fun a b => sN a b = true) (P := fun x => xo x = true) (cf := fun (x : aV × aV) => jy x.1 x.2) (l := l) (fun x y => tG) AW (fun _ _ => rfl) (by omega) (fun x y _ _ => IS x y)
  have i : s.Nodup := by
    have := (Bq h1).2
    rw [this]
    unfold ni
    exact (List.mergeSort_perm l _).nodup_iff.2 g
  rw [Mi (fun x y => tG) s i] at d
  exact ⟨s, h1, d.1, fun f => by rw [d.2]; exact ⟨fun h => h.1, fun h => ⟨h, rfl⟩⟩⟩
theorem Jy (T : iA) : (mm T).flatMap (fun p => p.2.map (fun q => (fun (a : aA) (b : ByteArray) => (⟨a, b⟩ : aV)) p.1 q.1)) = FS T := by
  unfold mm FS tt
  rw [List.flatMap_map]
  congr 1
  funext p
  simp [Function.comp_def]
theorem IY {C : List aB} (j : kj C) {T : iA} {us : List (aA × List aB)} {ws : List (ByteArray × List aB)} {n : Int} (h : MS C T us ws n) (cs : List aB) (u : List (aA × List aB)) (w : List (ByteArray × List aB)) (l : List aV) (z : Int) :
    ∃ s, pz (mm T) cs u w l z = some s ∧ uX (iu C) s := by
  have k := j.sq
  have hlen := h.yb.len
  obtain ⟨s, m, i⟩ := BL h.yb.nd (by omega)
  have g : uX (iu C) s := ⟨i.1, fun f => (i.2 f).trans (h.all f)⟩
  refine ⟨s, ?_, g⟩
  unfold pz Ha
  rw [Jy]
  rw [if_pos ⟨by omega, by unfold maxLen; omega⟩]
  simp only [Option.bind_some, gi]
  refine Bm (fun o b => ?_)
  obtain ⟨p, d, a⟩ := BL ((b.nodup_iff).2 h.yb.nd) (by rw [b.length_eq]; omega)
  rw [d]
  congr 1
  exact uX.unique ⟨a.1, fun f => (a.2 f).trans (b.mem_iff.trans (h.all f))⟩ g
theorem Jo (r : aA) (w : ByteArray) : ∀ l : List aV, ∃ b, pj r w l = some b ∧ (b = true ↔ (⟨r, w⟩ : aV) ∈ l)
  | [] => ⟨false, rfl, by simp⟩
  | x :: l => by
    rw [pj]
    simp only [xv, Option.bind_some]
    obtain ⟨b, e, g⟩ := Jo r w l
    by_cases h : (bB x.aA r && dA x.cH w) = true
    · rw [if_pos h]
      have a : x = ⟨r, w⟩ := by
        rw [Bool.and_eq_true, bD, eA] at h
        cases x; simp at h; simp [h]
      exact ⟨true, rfl, by simp [a]⟩
    · rw [if_neg h]
      refine ⟨b, e, ?_⟩
      rw [g, List.mem_cons]
      refine ⟨.inr, fun d => d.resolve_left (fun e => h ?_)⟩
      rw [← e]; simp [pQ, oD]
theorem sT (l : List aV) (r : aA) (w : ByteArray) : ∃ b, nF l r w = some b ∧ (b = true ↔ (⟨r, w⟩ : aV) ∈ l) := Jo r w l
def qt (l : List aV) (c : aB) (names : List ByteArray) (w : ByteArray) : Prop :=
  (c.Kind = 1 ∧ c.cH = w) ∨ (c.Kind = 2 ∧ (⟨c.B, w⟩ : aV) ∈ l) ∨ (c.Kind = 4 ∧ (⟨c.B, w⟩ : aV) ∈ l ∧ (⟨c.C, w⟩ : aV) ∈ l) ∨
  (c.Kind ≠ 1 ∧ c.Kind ≠ 2 ∧ c.Kind ≠ 4 ∧ ∃ b ∈ names, (⟨c.B, b⟩ : aV) ∈ l ∧ (⟨⟨b, c.cO⟩, w⟩ : aV) ∈ l)
theorem BU (l : List aV) (c : aB) (w : ByteArray) : ∀ names : List ByteArray, ∃ b, nN l c w names = some b ∧ (b = true ↔ ∃ b ∈ names, (⟨c.B, b⟩ : aV) ∈ l ∧ (⟨⟨b, c.cO⟩, w⟩ : aV) ∈ l)
  | [] => ⟨false, rfl, by simp⟩
  | x :: names => by
    rw [nN]
    obtain ⟨g, j, h1⟩ := sT l c.B x
    obtain ⟨i, k, d⟩ := sT l ⟨x, c.cO⟩ w
    obtain ⟨b, e, m⟩ := BU l c w names
    rw [j, k, e]
    simp only [Option.bind_some, xv]
    by_cases h : (g && i) = true
    · rw [if_pos h]
      rw [Bool.and_eq_true, h1, d] at h
      exact ⟨true, rfl, by simp [h]⟩
    · rw [if_neg h]
      rw [Bool.and_eq_true, h1, d] at h
      refine ⟨b, rfl, ?_⟩
      rw [m]
      constructor
      · rintro ⟨y, a, q⟩; exact ⟨y, by simp [a], q⟩
      · rintro ⟨y, a, q⟩
        rcases List.mem_cons.1 a with rfl | a
        · exact absurd q h
        · exact ⟨y, a, q⟩
theorem JY (l : List aV) (c : aB) (names : List ByteArray) (w : ByteArray) : ∃ b, sJ l c names w = some b ∧ (b = true ↔ qt l c names w) := by
  unfold sJ qt
  simp only [gi]
  by_cases h1 : c.Kind = 1
  · rw [if_pos (by simp [h1])]; exact ⟨_, rfl, by simp [h1, eA]⟩
  rw [if_neg (by simp [h1])]
  by_cases a : c.Kind = 2
  · rw [if_pos (by simp [a])]
    obtain ⟨b, e, g⟩ := sT l c.B w
    exact ⟨b, e, by simp [a, g]⟩
  rw [if_neg (by simp [a])]
  by_cases d : c.Kind = 4
  · rw [if_pos (by simp [d])]
    obtain ⟨m, j, h⟩ := sT l c.B w
    obtain ⟨n, k, i⟩ := sT l c.C w
    rw [j, k]
    simp only [Option.bind_some, xv]
    exact ⟨_, rfl, by simp [d, h, i]⟩
  rw [if_neg (by simp [d])]
  obtain ⟨b, e, g⟩ := BU l c w names
  exact ⟨b, e, by rw [g]; simp [h1, a, d]⟩
theorem qt.qR {C : List aB} {l : List aV} (a : ∀ f ∈ l, iu C f) {c : aB} (d : c ∈ C) (hk : c.Kind = 1 ∨ c.Kind = 2 ∨ c.Kind = 3 ∨ c.Kind = 4) {names : List ByteArray} {w : ByteArray} (h : qt l c names w) : iu C ⟨c.Head, w⟩ := by
  rcases h with ⟨k, rfl⟩ | ⟨k, h⟩ | ⟨k, h1, g⟩ | ⟨i, j, m, b, _, h1, g⟩
  · exact .mem c d k
  · exact .inc c w d k (a _ h)
  · exact .both c w d k (a _ h1) (a _ g)
  · exact .Bu c b w d (by omega) (a _ h1) (a _ g)
theorem Gq {c : aB} (h : dS c = true) : c.Kind = 1 ∨ c.Kind = 2 ∨ c.Kind = 3 ∨ c.Kind = 4 := by rcases ig h with h | h | h | h <;> simp [h.1]
structure zi (C : List aB) (out : List aV) : Prop where
  nd : out.Nodup
  qR : ∀ f ∈ out, iu C f
theorem zi.len {C : List aB} {out : List aV} (h : zi C out) : out.length ≤ C.length * C.length := by
  rw [← xD]; exact eH h.nd (fun f a => (h.qR f a).zX)
theorem Av {C : List aB} (s : kj C) (t : lO C) {c : aB} (m : c ∈ C) (names : List ByteArray) : ∀ (l : List ByteArray) (out : List aV) (i : Bool), zi C out →
    ∃ g d, nz c names l out i = some (g, d) ∧ zi C g ∧ (d = true → i = true ∨ out.length < g.length) ∧ (d = false → i = false ∧ g = out ∧ ∀ w ∈ l, qt out c names w → (⟨c.Head, w⟩ : aV) ∈ out) ∧ out.length ≤ g.length
  | [], out, i, h => ⟨out, i, rfl, h, .inl, fun h => ⟨h, rfl, fun _ hw => by cases hw⟩, Nat.le_refl _⟩
  | w :: l, out, i, h => by
    rw [nz]
    obtain ⟨y, E, h1⟩ := sT out c.Head w
    obtain ⟨D, F, z⟩ := JY out c names w
    rw [E, F]
    simp only [Option.bind_some, xv]
    by_cases j : (!y && D) = true
    · rw [if_pos j]
      rw [Bool.and_eq_true] at j
      have u : (⟨c.Head, w⟩ : aV) ∉ out := fun I => by have := h1.2 I; rw [this] at j; exact absurd j.1 (by decide)
      have L := h.len
      have J := s.sq
      rw [eX (by simp; omega) (by simp; omega)]
      simp only [Option.bind_some]
      have G : zi C (out ++ [⟨c.Head, w⟩]) := ⟨List.nodup_append.2 ⟨h.nd, by simp, fun a ha b j e => by simp at j; subst j; subst e; exact u ha⟩, fun f k => by
        rcases List.mem_append.1 k with k | k
        · exact h.qR f k
        · simp at k; subst k; exact (z.1 j.2).qR h.qR m (Gq (t c m))⟩
      obtain ⟨g, d, e, n, a2, a3, a4⟩ := Av s t m names l _ true G
      simp at a4
      exact ⟨g, d, e, n, fun _ => .inr (by omega), fun k => (by cases (a3 k).1), by omega⟩
    · rw [if_neg j]
      obtain ⟨g, d, e, n, a2, a3, a4⟩ := Av s t m names l out i h
      refine ⟨g, d, e, n, a2, fun k => ?_, a4⟩
      obtain ⟨p, q, r⟩ := a3 k
      refine ⟨p, q, fun v x A => ?_⟩
      rcases List.mem_cons.1 x with rfl | x
      · refine Classical.byContradiction fun u => j ?_
        rw [Bool.and_eq_true, z.2 A]
        cases y with
        | false => exact ⟨rfl, rfl⟩
        | true => exact absurd (h1.1 rfl) u
      · exact r v x A
theorem D0 {C : List aB} (m : kj C) (n : lO C) (names : List ByteArray) : ∀ (l : List aB) (out : List aV) (a : Bool), (∀ c ∈ l, c ∈ C) → zi C out →
    ∃ b g, pe names l out a = some (b, g) ∧ zi C b ∧ (g = true → a = true ∨ out.length < b.length) ∧ (g = false → a = false ∧ b = out ∧ ∀ c ∈ l, ∀ w ∈ names, qt out c names w → (⟨c.Head, w⟩ : aV) ∈ out) ∧ out.length ≤ b.length
  | [], out, a, _, h => ⟨out, a, rfl, h, .inl, fun h => ⟨h, rfl, fun _ hw => by cases hw⟩, Nat.le_refl _⟩
  | c :: l, out, a, p, h => by
    rw [pe]
    obtain ⟨x, c1, u, q, a2, a3, a4⟩ := Av m n (p c (by simp)) names names out a h
    rw [u]
    simp only [Option.bind_some]
    obtain ⟨y, c2, v, r, s, t, I⟩ := D0 m n names l x c1 (fun d i => p d (by simp [i])) q
    refine ⟨y, c2, v, r, fun j => ?_, fun j => ?_, by omega⟩
    · rcases s j with h1 | h1
      · rcases a2 h1 with k | k
        · exact .inl k
        · exact .inr (by omega)
      · exact .inr (by omega)
    · obtain ⟨z, A, D⟩ := t j
      obtain ⟨E, F, G⟩ := a3 z
      subst F
      refine ⟨E, A, fun d i => ?_⟩
      rcases List.mem_cons.1 i with rfl | i
      · exact G
      · exact D d i
end Go.Proofs.YtmlncblocfcmiaaGreat
namespace Go.Proofs.YtmlncblocfcmiaaGreat
open Go.RowKit
def zF : aV := ⟨⟨zS, zS⟩, zS⟩
theorem Ea (a b : aV) : nh a b = some (sN a b) := by
  unfold nh sN
  simp only [vv, Option.bind_some, xv, KJ]
def Lw (a : List aV) (b : Int) (p : Bool × aV) : Prop := (p.1 = false ∧ b = -1) ∨ (p.1 = true ∧ 0 ≤ b ∧ dU a b = some p.2)
theorem vI (out a : List aV) (i : out.length < 4611686018427387904) : ∀ (rest A : List aV) (b : Int) (p : Bool × aV), a = A ++ rest → Lw a b p →
    ∃ d, iw out a rest A.length b = some d ∧ Lw a d (kL xo sN out.getLast? rest p.1 p.2)
  | [], A, b, p, ha, j => ⟨b, rfl, j⟩
  | x :: rest, A, b, p, ha, j => by
    rw [iw, kL]
    simp only [xo, Bool.true_and]
    have h1 : ((if ((out.length : Int) == 0) = true then some true else (dU out (IntKind.i64.wrap ((out.length : Int) - 1))).bind fun y => (nh y x).bind fun r => some r) : Option Bool) = some (out.getLast?.all fun y => sN y x) := by
      rcases List.eq_nil_or_concat out with h | ⟨B, z, h⟩
      · subst h; rfl
      · subst h
        rw [if_neg (by simp; omega)]
        rw [List.concat_eq_append] at i ⊢
        rw [AJ B z (by simp at i; omega)]
        simp [Ea]
    have n : ((if decide (b < 0) = true then some true else (dU a b).bind fun y => (nh x y).bind fun r => some r) : Option Bool) = some (!p.1 || sN x p.2) := by
      rcases j with ⟨k, l⟩ | ⟨k, l, m⟩
      · rw [if_pos (by simp [l]), k]; rfl
      · rw [if_neg (by simpa using l), m, k]
        simp [Ea]
    rw [h1]
    simp only [Option.bind_some]
    rw [n]
    simp only [Option.bind_some, xv]
    have q : dU a (A.length : Int) = some x := by rw [ha]; exact fk A x rest _ rfl
    by_cases g : ((out.getLast?.all fun y => sN y x) && (!p.1 || sN x p.2)) = true
    · rw [if_pos g, if_pos g]
      have := vI out a i rest (A ++ [x]) (A.length : Int) (true, x) (by rw [ha]; simp) (.inr ⟨rfl, by simp, q⟩)
      simpa using this
    · rw [if_neg g, if_neg g]
      have := vI out a i rest (A ++ [x]) b p (by rw [ha]; simp) j
      simpa using this
theorem zN {out a : List aV} (g : out.length < 4611686018427387904) (h : (kL xo sN out.getLast? a false zF).1 = false) : ∀ Ad : List aV, iv a Ad out = some out
  | [] => rfl
  | x :: Ad => by
    rw [iv]
    obtain ⟨b, e, j⟩ := vI out a g a [] (-1) (false, zF) rfl (.inl ⟨rfl, rfl⟩)
    rw [show iw out a a 0 (-1) = some b from e]
    simp only [Option.bind_some]
    rcases j with ⟨_, i⟩ | ⟨d, _⟩
    · rw [if_neg (by simp [i])]; exact zN g h Ad
    · rw [h] at d; cases d
theorem CL (a : List aV) : ∀ (Ad : List aV) (out s : List aV), ua 48 xo sN zF a (Ad.length + 1) out = some s → s.length < 4611686018427387904 → iv a Ad out = some s ∧ out.length ≤ s.length
  | [], out, s, h, j => by
    rw [ua] at h
    cases hp : (kL xo sN out.getLast? a false zF).1 with
    | false =>
      rw [hp] at h
      simp only [Bool.not_false, if_true] at h
      cases h
      exact ⟨rfl, Nat.le_refl _⟩
    | true =>
      rw [hp] at h
      simp only [Bool.not_true, Bool.false_eq_true, if_false] at h
      obtain ⟨o, d, h⟩ := bind_some h
      replace h : ua 48 xo sN zF a 0 o = some s := h
      rw [ua] at h
      cases h
  | x :: Ad, out, s, h, j => by
    rw [ua] at h
    cases hp : (kL xo sN out.getLast? a false zF).1 with
    | false =>
      rw [hp] at h
      simp only [Bool.not_false, if_true] at h
      cases h
      exact ⟨zN j hp _, Nat.le_refl _⟩
    | true =>
      rw [hp] at h
      simp only [Bool.not_true, Bool.false_eq_true, if_false] at h
      obtain ⟨o, d, h⟩ := bind_some h
      have i := d
      unfold eT at d
      split at d
      case isFalse => cases d
      cases d
      obtain ⟨n, p⟩ := CL a Ad _ s h j
      simp at p
      rw [iv]
      obtain ⟨b, e, m⟩ := vI out a (by omega) a [] (-1) (false, zF) rfl (.inl ⟨rfl, rfl⟩)
      rw [show iw out a a 0 (-1) = some b from e]
      simp only [Option.bind_some]
      rcases m with ⟨g, _⟩ | ⟨g, k, l⟩
      · rw [hp] at g; cases g
      · rw [if_pos (by simpa using k), l]
        simp only [Option.bind_some]
        rw [i]
        exact ⟨n, by omega⟩
theorem Hq (l : List aV) (d : l.length ≤ 1000000000) : ∃ s, ta l = some s ∧ uX (fun f => f ∈ l) s := by
  obtain ⟨s, h1, a⟩ := vu AW (w := 48) (by omega) zF l d (l.length + 1) [] (by simp) (by simp) (fun x b => by cases b) (fun x _ _ => .inr rfl)
  have hlen : s.length ≤ l.length := eH (nW AW (fun _ _ => rfl) a.1) (fun x b => ((a.2 x).1 b).1)
  exact ⟨s, (CL l l [] s h1 (by omega)).1, a.1, fun f => by rw [a.2]; exact ⟨fun h => h.1, fun h => ⟨h, rfl⟩⟩⟩
theorem DT : ∀ (l : List aB) (acc : List ByteArray), acc.length + 4 * l.length ≤ 1000000000 → lA l acc = tL (acc ++ l.flatMap fun c => [c.cH, c.Head.aC, c.B.aC, c.C.aC])
  | [], acc, _ => by rw [lA]; simp [gi]
  | c :: l, acc, h => by
    rw [lA]
    simp only [List.length_cons] at h
    rw [eX (by simp; omega) (by simp; omega)]
    simp only [Option.bind_some]
    rw [DT l _ (by simp; omega)]
    simp
def SM (C : List aB) : Prop := C.length ≤ 30000
theorem SM.small {C : List aB} (h : SM C) : kj C := by unfold SM at h; unfold kj; omega
theorem SM.sq {C : List aB} (h : SM C) : C.length * C.length ≤ 900000000 := Nat.mul_le_mul h h
theorem H9 {C : List aB} (b : SM C) (g : lO C) : ∃ names, rc C = some names ∧ ∀ c ∈ C, c.Kind = 1 → c.cH ∈ names := by
  have d : C.length ≤ 30000 := b
  unfold rc
  rw [DT C [] (by simp; omega)]
  obtain ⟨s, e, i⟩ := JV ([] ++ C.flatMap fun c => [c.cH, c.Head.aC, c.B.aC, c.C.aC]) (by
    have : ∀ l : List aB, (l.flatMap fun c => [c.cH, c.Head.aC, c.B.aC, c.C.aC]).length = 4 * l.length := fun l => by
      induction l with
      | nil => rfl
      | cons x l ih => simp [ih]; omega
    rw [List.nil_append, this]; omega)
  refine ⟨s, e, fun c a hk => (i.2 _).2 ⟨?_, ?_⟩⟩
  · rw [List.nil_append]; exact List.mem_flatMap.2 ⟨c, a, by simp⟩
  · rcases ig (g c a) with h | h | h | h
    · exact h.2.1
    · exact absurd (hk.symm.trans h.1) (by decide)
    · exact absurd (hk.symm.trans h.1) (by decide)
    · exact absurd (hk.symm.trans h.1) (by decide)
theorem Gy {C : List aB} (n : lO C) {names : List ByteArray} (l : ∀ c ∈ C, c.Kind = 1 → c.cH ∈ names) {out : List aV} (h : ∀ c ∈ C, ∀ w ∈ names, qt out c names w → (⟨c.Head, w⟩ : aV) ∈ out) {f : aV} (k : iu C f) : f ∈ out := by
  have hw : ∀ f, iu C f → f.cH ∈ names := fun f k => by
    obtain ⟨c, a, hk, e⟩ := k.FO
    rw [← e]; exact l c a hk
  induction k with
  | mem c a hk => exact h c a _ (l c a hk) (.inl ⟨hk, rfl⟩)
  | inc c w a hk m ih => exact h c a w (hw _ m) (.inr (.inl ⟨hk, ih⟩))
  | Bu c b w a hk d j g i => exact h c a w (hw _ j) (.inr (.inr (.inr ⟨by omega, by omega, by omega, b, hw _ d, g, i⟩)))
  | both c w a hk d j g i => exact h c a w (hw _ d) (.inr (.inr (.inl ⟨hk, g, i⟩)))
theorem EO {C : List aB} (a : SM C) (b : lO C) {names : List ByteArray} (g : ∀ c ∈ C, c.Kind = 1 → c.cH ∈ names) : ∀ (m : Nat) (out : List aV), zi C out → C.length * C.length < m + out.length →
    ∃ s, nB names C m out = some s ∧ uX (iu C) s
  | 0, out, h, hm => by have := h.len; omega
  | m + 1, out, h, hm => by
    rw [nB]
    obtain ⟨o, c, e, i, a2, a3, a4⟩ := D0 a.small b names C out false (fun _ h => h) h
    rw [e]
    simp only [Option.bind_some, gi]
    cases c with
    | false =>
      simp only [Bool.not_false, if_true]
      obtain ⟨_, j, k⟩ := a3 rfl
      subst j
      have p := h.len
      have n := a.sq
      obtain ⟨s, l, d⟩ := Hq o (by omega)
      exact ⟨s, l, d.1, fun f => (d.2 f).trans ⟨h.qR f, Gy b g k⟩⟩
    | true =>
      simp only [Bool.not_true, Bool.false_eq_true, if_false]
      rcases a2 rfl with h1 | h1
      · cases h1
      · exact EO a b g m o i (by omega)
theorem Kf (l : List aB) (p : l.length ≤ 30000) : ∃ C s, qm l = some s ∧ uX (iu C) s ∧ ∀ c, c ∈ C ↔ c ∈ l ∧ dS c = true := by
  unfold qm
  obtain ⟨C, e, b⟩ := Cp l (by omega)
  have hlen := uS vB b
  have a : SM C := by unfold SM; omega
  have d : lO C := fun c j => ((b.2 c).1 j).2
  obtain ⟨names, g, m⟩ := H9 a d
  rw [e]
  simp only [Option.bind_some]
  rw [g]
  simp only [Option.bind_some]
  have n := a.sq
  obtain ⟨s, h, i⟩ := EO a d m bL [] ⟨by simp, fun f k => by cases k⟩ (by rw [qz]; simp; omega)
  exact ⟨C, s, h, i, b.2⟩
theorem wk (w : ByteArray) : ∀ (l : List aV) (acc : List aA), acc.length + l.length ≤ 1000000000 → jG w l acc = some (acc ++ (l.filter fun f => dA f.cH w).map (·.aA))
  | [], acc, _ => by rw [jG]; simp
  | x :: l, acc, h => by
    rw [jG]
    simp only [List.length_cons] at h
    by_cases a : dA x.cH w = true
    · rw [if_pos a, eX (by simp; omega) (by simp; omega)]
      simp only [Option.bind_some]
      rw [wk w l _ (by simp; omega)]
      simp [a]
    · rw [if_neg a, wk w l acc (by omega)]
      simp [a]
end Go.Proofs.YtmlncblocfcmiaaGreat
namespace Go.Proofs.YtmlncblocfcmiaaGreat
open Go.RowKit
theorem JQ {P : aV → Prop} {s t : List aV} (h : uX P s) (b : ∀ f, P f → f ∈ t) : s.length ≤ t.length := eH (nW AW (fun _ _ => rfl) h.1) (fun f a => b f ((h.2 f).1 a))
theorem JJ {C : List aB} {s : List aV} (h : uX (iu C) s) (a : SM C) : s.length ≤ 900000000 := by
  have := JQ h (t := zX C) (fun f b => b.zX)
  rw [xD] at this
  have := a.sq
  omega
theorem HA {C : List aB} {T : iA} {us : List (aA × List aB)} {ws : List (ByteArray × List aB)} {n : Int} (h : MS C T us ws n) (cs : List aB) (u : List (aA × List aB)) (w : List (ByteArray × List aB)) (a : List aV) (z : Int) (r : aA) (FO : ByteArray) :
    ∃ b, oP (mm T) cs u w a z r FO = some b ∧ (b = true ↔ iu C ⟨r, FO⟩) :=
  ⟨_, rfl, by rw [mN h.yb.keys, h.all]⟩
def qA : aA := ⟨⟨#[97]⟩, ⟨#[114]⟩⟩
def qB : aA := ⟨⟨#[98]⟩, ⟨#[115]⟩⟩
def qd : ByteArray := ⟨#[100]⟩
def j1 : aB := ⟨2, qA, zS, qB, ⟨zS, zS⟩, zS⟩
def j2 : aB := ⟨1, qB, qd, ⟨zS, zS⟩, ⟨zS, zS⟩, zS⟩
end Go.Proofs.YtmlncblocfcmiaaGreat
namespace Go.Proofs.YtmlncblocfcmiaaGreat
open Go.RowKit
theorem qt.own {l : List aV} {c : aB} {names : List ByteArray} {w : ByteArray} (h : qt l c names w) : qt l c (l.map (·.cH)) w := by
  rcases h with h | h | h | ⟨d, g, i, b, _, a, j⟩
  · exact .inl h
  · exact .inr (.inl h)
  · exact .inr (.inr (.inl h))
  · exact .inr (.inr (.inr ⟨d, g, i, b, List.mem_map.2 ⟨_, a, rfl⟩, a, j⟩))
theorem qt.subset {a b : List aV} {c : aB} {names : List ByteArray} {w : ByteArray} (h : qt a c names w) (d : ∀ f ∈ a, f ∈ b) : qt b c names w := by
  rcases h with h | h | h | ⟨i, j, k, g, l, m, n⟩
  · exact .inl h
  · exact .inr (.inl ⟨h.1, d _ h.2⟩)
  · exact .inr (.inr (.inl ⟨h.1, d _ h.2.1, d _ h.2.2⟩))
  · exact .inr (.inr (.inr ⟨i, j, k, g, l, d _ m, d _ n⟩))
end Go.Proofs.YtmlncblocfcmiaaGreat
namespace Go.Proofs.YtmlncblocfcmiaaGreat
open Go.RowKit
def tot {α : Type} (a : List (List α)) : Nat := (a.map List.length).sum
end Go.Proofs.YtmlncblocfcmiaaGreat
namespace Go.Proofs.YtmlncblocfcmiaaGreat
open Go.RowKit
def up (w : ByteArray) (g : ByteArray → Nat) : ByteArray → Nat := fun x => if dA w x = true then g x + 1 else g x
end Go.Proofs.YtmlncblocfcmiaaGreat
namespace Go.Proofs.YtmlncblocfcmiaaGreat
open Go.RowKit
theorem KH (F : List aV) (w : ByteArray) (a : F.length ≤ 1000000000) : oU F w = some ((F.filter fun f => dA f.cH w).map (·.aA)) := by
  unfold oU
  rw [wk w F [] (by simp; omega)]
  simp
end Go.Proofs.YtmlncblocfcmiaaGreat
namespace Go.Proofs.YtmlncblocfcmiaaGreat
open Go.RowKit
instance decRole : DecidableEq aA := fun a b => decidable_of_iff (bB a b = true) bD
def En (F : List aV) (w : ByteArray) : List aA := (F.filter fun f => dA f.cH w).map (·.aA)
structure KE (l : List aB) (F : List aV) : Prop where
  len : l.length ≤ 30000
  C : ∃ C : List aB, uX (iu C) F ∧ (∀ c, c ∈ C ↔ c ∈ l ∧ dS c = true) ∧ SM C
  ref : qm l = some F
theorem Li (l : List aB) (g : l.length ≤ 30000) : ∃ F, KE l F := by
  obtain ⟨C, F, e, h1, h⟩ := Kf l g
  obtain ⟨C1, T, us, ws, n, i, m1, a, d⟩ := GG l (by omega)
  have b : ∀ c, c ∈ C ↔ c ∈ C1 := fun c => by rw [h, a]
  exact ⟨F, g, ⟨C1, ⟨h1.1, fun f => (h1.2 f).trans (iu.congr b f)⟩, a, by unfold SM; omega⟩, e⟩
theorem KE.M4 {l : List aB} {F : List aV} (h : KE l F) : F.length ≤ 900000000 := by
  obtain ⟨C, h1, b, a⟩ := h.C
  exact JJ h1 a
end Go.Proofs.YtmlncblocfcmiaaGreat
namespace Go.Proofs.YtmlncblocfcmiaaGreat
open Go.RowKit
def B8 (l : List Int) : Prop := ∀ x ∈ l, 0 ≤ x ∧ x < 256
end Go.Proofs.YtmlncblocfcmiaaGreat
namespace Go.Proofs.YtmlncblocfcmiaaGreat
open Go.RowKit
def Gc : List ByteArray → List Key → Int
  | _, [] => 0
  | seen, k :: l => if fY k.cH = false then 30 else if k.Key.length < 1 ∨ 32 < k.Key.length then 21 else if eQ dA seen k.cH = true then 41 else Gc (seen ++ [k.cH]) l
def IR (l : List Key) : List (ByteArray × List Int) := l.map fun k => (k.cH, k.Key)
def IM (l : List Key) (o : ByteArray) : Option (List Int) := dE dA (IR l) o
theorem Lg {l : List Int} (h : l.length ≤ 1000000) : nD l = some l := by
  unfold nD
  rw [AL (by simpa using h)]; rfl
theorem FY : ∀ (l : List Key) (seen : List ByteArray), Gc seen l = 0 → ∀ k ∈ l, 1 ≤ k.Key.length ∧ k.Key.length ≤ 32
  | [], _, _, _, hk => by cases hk
  | x :: l, seen, h, k, hk => by
    unfold Gc at h
    split at h
    · cases h
    split at h
    · cases h
    split at h
    · cases h
    rcases List.mem_cons.1 hk with rfl | hk
    · omega
    · exact FY l _ h k hk
theorem An : ∀ (l : List Key) (o : ByteArray) (b : List Int), IM l o = some b → ∃ k ∈ l, k.Key = b
  | [], o, b, h => by cases h
  | x :: l, o, b, h => by
    unfold IM at h
    rw [show IR (x :: l) = (x.cH, x.Key) :: IR l from rfl, vC] at h
    split at h
    · cases h; exact ⟨x, by simp, rfl⟩
    · obtain ⟨k, hk, e⟩ := An l o b h
      exact ⟨k, by simp [hk], e⟩
def K8 (l : List Key) : Prop := ∀ k ∈ l, B8 k.Key
structure Mk (ks : List Key) (c : aB) (k : List Int) : Prop where
  ok : Gc [] ks = 0
  rt : dS c = true
  lk : IM ks c.Head.aC = some k
theorem Mk.len {ks : List Key} {c : aB} {k : List Int} (h : Mk ks c k) : 1 ≤ k.length ∧ k.length ≤ 32 := by
  obtain ⟨q, a, rfl⟩ := An _ _ _ h.lk
  exact FY ks [] h.ok q a
theorem Mk.b8 {ks : List Key} {c : aB} {k : List Int} (h : Mk ks c k) (hk : K8 ks) : B8 k := by
  obtain ⟨q, a, rfl⟩ := An _ _ _ h.lk
  exact hk q a
theorem Mk.unique {ks : List Key} {c : aB} {k k' : List Int} (h : Mk ks c k) (a : Mk ks c k') : k = k' := by
  have := h.lk; rw [a.lk] at this; cases this; rfl
end Go.Proofs.YtmlncblocfcmiaaGreat
namespace Go.Proofs.YtmlncblocfcmiaaGreat
open Go.RowKit
def S8 (l : List Signed) : Prop := ∀ s ∈ l, B8 s.Tag
end Go.Proofs.YtmlncblocfcmiaaGreat
namespace Go.Proofs.YtmlncblocfcmiaaGreat
open Go.RowKit
theorem AB (b : List aB) (x : aB) : lJ b x = some (eQ bT b x) := by
  obtain ⟨q, e, h⟩ := El x b
  unfold kk at e
  rw [gi] at e
  rw [e, show q = eQ bT b x from by rw [Bool.eq_iff_iff, h, mu eV]]
structure I9 (l : List aB) (F : List aV) : Prop where
  len : F.length ≤ 900000000
  ref : qm l = some F
  Np : ∃ m, sr l = some m ∧ pz m.1 m.2.1 m.2.2.1 m.2.2.2.1 m.2.2.2.2.1 m.2.2.2.2.2 = some F ∧ ∀ r w, oP m.1 m.2.1 m.2.2.1 m.2.2.2.1 m.2.2.2.2.1 m.2.2.2.2.2 r w = some (eQ uH F ⟨r, w⟩)
  qR : ∀ C : List aB, (∀ c, c ∈ C ↔ c ∈ l ∧ dS c = true) → uX (iu C) F
theorem MN (l : List aB) (v : l.length ≤ 30000) : ∃ F, I9 l F := by
  obtain ⟨F, h⟩ := Li l v
  refine ⟨F, h.M4, h.ref, ?_, fun C s => ?_⟩
  · obtain ⟨C, h1, d, q⟩ := h.C
    obtain ⟨C1, T, us, ws, n, m, m1, g, j⟩ := GG l (by omega)
    have a : ∀ c, c ∈ C1 ↔ c ∈ C := fun c => by rw [d, g]
    have k : uX (iu C1) F := ⟨h1.1, fun f => (h1.2 f).trans (iu.congr a f).symm⟩
    have t : SM C1 := by unfold SM; omega
    refine ⟨_, m, ?_, fun r w => ?_⟩
    · obtain ⟨F1, p, i⟩ := IY t.small m1 C1 us ws [] n
      rw [← i.unique k]; exact p
    · obtain ⟨b, e, u⟩ := HA m1 C1 us ws [] n r w
      rw [e, show b = eQ uH F ⟨r, w⟩ from by rw [Bool.eq_iff_iff, u, mu tG, k.2]]
  · obtain ⟨C', h1, d, q⟩ := h.C
    have a : ∀ c, c ∈ C' ↔ c ∈ C := fun c => by rw [d, s]
    exact ⟨h1.1, fun f => (h1.2 f).trans (iu.congr a f)⟩
end Go.Proofs.YtmlncblocfcmiaaGreat
namespace Go.Proofs.YtmlncblocfcmiaaGreat
open Go.RowKit
section
variable {α : Type}
structure SWO (lt : α → α → Bool) : Prop where
  Jl : ∀ x, lt x x = false
  tr : ∀ x y z, lt x y = true → lt y z = true → lt x z = true
  Hh : ∀ x y z, lt x z = true → lt x y = true ∨ lt y z = true
variable {lt : α → α → Bool}
theorem SWO.asym (h : SWO lt) {x y : α} (a : lt x y = true) : lt y x = false := by
  cases e : lt y x
  · rfl
  · have := h.tr _ _ _ a e; rw [h.Jl] at this; cases this
def tl (lt : α → α → Bool) (p q : α × Nat) : Prop := lt p.1 q.1 = true ∨ (lt q.1 p.1 = false ∧ p.2 < q.2)
theorem wW (h : SWO lt) {p q r : α × Nat} (a : tl lt p q) (b : tl lt q r) : tl lt p r := by
  unfold tl at *
  rcases a with a | ⟨a, a2⟩ <;> rcases b with b | ⟨b, d⟩
  · exact .inl (h.tr _ _ _ a b)
  · rcases h.Hh _ r.1 _ a with c | c
    · exact .inl c
    · rw [b] at c; cases c
  · rcases h.Hh _ p.1 _ b with c | c
    · rw [a] at c; cases c
    · exact .inl c
  · refine .inr ⟨?_, by omega⟩
    cases e : lt r.1 p.1
    · rfl
    · rcases h.Hh _ q.1 _ e with c | c
      · rw [b] at c; cases c
      · rw [a] at c; cases c
theorem JT (h : SWO lt) {p q : α × Nat} (a : tl lt p q) (b : tl lt q p) : False := by
  have c := wW h a b
  rcases c with c | ⟨_, c⟩
  · rw [h.Jl] at c; cases c
  · omega
abbrev gN (lt : α → α → Bool) (t : List (α × Nat)) : Prop := t.Pairwise (tl lt)
theorem Bg (h : SWO lt) : ∀ {t u : List (α × Nat)}, gN lt t → gN lt u → t.Perm u → t = u
  | [], u, _, _, hp => by rw [List.nil_perm] at hp; exact hp.symm
  | p :: t, [], _, _, hp => by simp at hp
  | p :: t, q :: u, h1, b, hp => by
    have e : p = q := by
      rcases List.mem_cons.1 (hp.mem_iff.1 (.head _)) with e | d
      · exact e
      · rcases List.mem_cons.1 (hp.mem_iff.2 (.head _)) with e | a
        · exact e.symm
        · exact (JT h ((List.pairwise_cons.1 h1).1 _ a) ((List.pairwise_cons.1 b).1 _ d)).elim
    subst e
    rw [Bg h (List.pairwise_cons.1 h1).2 (List.pairwise_cons.1 b).2 (List.Perm.cons_inv hp)]
def vj (lt : α → α → Bool) (l : List α) (k : α) : List α := l.filter (fun x => !lt k x) ++ k :: l.filter (fun x => lt k x)
def ET (lt : α → α → Bool) (l : List α) : List α := l.foldl (vj lt) []
def AQ (lt : α → α → Bool) (t : List (α × Nat)) (k : α × Nat) : List (α × Nat) := t.filter (fun x => !lt k.1 x.1) ++ k :: t.filter (fun x => lt k.1 x.1)
theorem Im (t : List (α × Nat)) (k : α × Nat) : (AQ lt t k).map (·.1) = vj lt (t.map (·.1)) k.1 := by
  simp [AQ, vj, List.filter_map, Function.comp_def]
theorem Hm (t : List (α × Nat)) (k : α × Nat) : (AQ lt t k).Perm (t ++ [k]) := by
  unfold AQ
  refine List.perm_middle.trans ?_
  refine (List.Perm.cons _ ?_).trans (List.perm_append_singleton k t).symm
  have := List.filter_append_perm (fun x : α × Nat => !lt k.1 x.1) t
  simpa using this
theorem IL (h : SWO lt) {t : List (α × Nat)} {k : α × Nat} (i : gN lt t) (hk : ∀ x ∈ t, x.2 < k.2) : gN lt (AQ lt t k) := by
  unfold AQ gN
  rw [List.pairwise_append, List.pairwise_cons]
  refine ⟨i.filter _, ⟨fun x b => ?_, i.filter _⟩, fun x b y d => ?_⟩
  · exact .inl (List.mem_filter.1 b).2
  · obtain ⟨h1, g⟩ := List.mem_filter.1 b
    simp only [Bool.not_eq_true', ] at g
    have a : tl lt x k := .inr ⟨g, hk x h1⟩
    rcases List.mem_cons.1 d with rfl | d
    · exact a
    · exact wW h a (.inl (List.mem_filter.1 d).2)
theorem LP (h : SWO lt) (l : List α) : ∃ t, gN lt t ∧ t.Perm l.zipIdx ∧ t.map (·.1) = ET lt l := by
  suffices H : ∀ (l r : List α) (t : List (α × Nat)), gN lt t → t.Perm r.zipIdx → ∃ u, gN lt u ∧ u.Perm (r ++ l).zipIdx ∧ u.map (·.1) = l.foldl (vj lt) (t.map (·.1)) by
    obtain ⟨u, h1, d, i⟩ := H l [] [] .nil (by simp)
    exact ⟨u, h1, by simpa using d, i⟩
  intro l
  induction l with
  | nil => intro r t h1 d; exact ⟨t, h1, by simpa using d, rfl⟩
  | cons k l ih =>
    intro r t h1 d
    obtain ⟨u, g, a2, a3⟩ := ih (r ++ [k]) (AQ lt t (k, r.length)) (IL h h1 (fun x j => by
      obtain ⟨a, b⟩ := x
      have := List.snd_lt_of_mem_zipIdx (d.mem_iff.1 j)
      simpa using this)) ((Hm t _).trans (by rw [List.zipIdx_append]; simpa using d.append_right _))
    refine ⟨u, g, by simpa using a2, ?_⟩
    rw [a3, Im]
    rfl
theorem Jw (h : SWO lt) {l : List α} {t : List (α × Nat)} (h1 : gN lt t) (b : t.Perm l.zipIdx) : t.map (·.1) = ET lt l := by
  obtain ⟨u, a, a2, a3⟩ := LP h l
  rw [← a3, Bg h h1 a (b.trans a2.symm)]
end
end Go.Proofs.YtmlncblocfcmiaaGreat
namespace Go.Proofs.YtmlncblocfcmiaaGreat
open Go.RowKit
section
variable {α : Type} {lt : α → α → Bool}
abbrev Lk (lt : α → α → Bool) (A B : List (α × Nat)) : Prop := ∀ A' a b B', A = A' ++ [a] → B = b :: B' → tl lt a b
theorem tQ (h : SWO lt) {A B : List (α × Nat)} (k : gN lt A) (m : gN lt B) (l : Lk lt A B) : ∀ a ∈ A, ∀ b ∈ B, tl lt a b := by
  intro a ha b d
  rcases List.eq_nil_or_concat A with rfl | ⟨A', z, rfl⟩
  · cases ha
  cases B with
  | nil => cases d
  | cons y B' =>
    have h1 : tl lt z y := l A' z y B' (by simp) rfl
    have g : a = z ∨ tl lt a z := by
      simp only [List.concat_eq_append, List.mem_append, List.mem_singleton] at ha
      rcases ha with ha | ha
      · refine .inr ?_
        simp only [List.concat_eq_append, gN, List.pairwise_append] at k
        exact k.2.2 a ha z (by simp)
      · exact .inl ha
    have i : b = y ∨ tl lt y b := by
      rcases List.mem_cons.1 d with d | d
      · exact .inl d
      · exact .inr ((List.pairwise_cons.1 m).1 b d)
    have j : tl lt a y := by
      rcases g with rfl | g
      · exact h1
      · exact wW h g h1
    rcases i with rfl | i
    · exact j
    · exact wW h j i
theorem Eh (h : SWO lt) {A B : List (α × Nat)} (a : gN lt A) (b : gN lt B) (l : Lk lt A B) : gN lt (A ++ B) :=
  List.pairwise_append.2 ⟨a, b, tQ h a b l⟩
theorem gN.left {A B : List (α × Nat)} (h : gN lt (A ++ B)) : gN lt A := (List.pairwise_append.1 h).1
theorem gN.right {A B : List (α × Nat)} (h : gN lt (A ++ B)) : gN lt B := (List.pairwise_append.1 h).2.1
theorem gN.two {A B : List (α × Nat)} (h : gN lt (A ++ B)) : ∀ a ∈ A, ∀ b ∈ B, tl lt a b := (List.pairwise_append.1 h).2.2
theorem Ct (h : SWO lt) {A B : List (α × Nat)} {x : α × Nat} (g : gN lt (A ++ B)) (j : Lk lt A [x]) (k : Lk lt [x] B) : gN lt (A ++ x :: B) := by
  have h1 := tQ h g.left (List.pairwise_singleton _ x) j
  have i := tQ h (List.pairwise_singleton _ x) g.right k
  refine List.pairwise_append.2 ⟨g.left, List.pairwise_cons.2 ⟨fun b d => i x (by simp) b d, g.right⟩, fun a ha b d => ?_⟩
  rcases List.mem_cons.1 d with rfl | d
  · exact h1 a ha _ (by simp)
  · exact g.two a ha b d
theorem Kh (h : SWO lt) {A1 A2 B1 B2 C1 C2 : List (α × Nat)} (g : gN lt (A1 ++ A2)) (i : gN lt (B1 ++ B2)) (k : Lk lt A1 B2) (l : Lk lt B1 A2) (m : C1.Perm (A1 ++ B1)) (n : C2.Perm (A2 ++ B2)) (h1 : gN lt C1) (j : gN lt C2) : gN lt (C1 ++ C2) := by
  have x1 := tQ h g.left i.right k
  have x2 := tQ h i.left g.right l
  refine List.pairwise_append.2 ⟨h1, j, fun a ha b d => ?_⟩
  rcases List.mem_append.1 (m.mem_iff.1 ha) with ha | ha <;> rcases List.mem_append.1 (n.mem_iff.1 d) with d | d
  · exact g.two a ha b d
  · exact x1 a ha b d
  · exact x2 a ha b d
  · exact i.two a ha b d
end
section
variable {α : Type}
theorem zz (p q : List α) (x y : α) : (p ++ x :: q).set p.length y = p ++ y :: q := by simp
theorem EL (p q : List α) (x y : α) (n : Nat) (h : n = p.length) : (p ++ x :: q).set n y = p ++ y :: q := by subst h; simp
theorem AM (p m q : List α) (x y : α) : ((p ++ x :: (m ++ y :: q)).set p.length y).set (p.length + 1 + m.length) x = p ++ y :: (m ++ x :: q) := by
  rw [zz]
  have : p ++ y :: (m ++ y :: q) = (p ++ y :: m) ++ y :: q := by simp
  rw [this, show p.length + 1 + m.length = (p ++ y :: m).length by simp; omega, zz]
  simp
theorem Hr (p m q : List α) (x y : α) : ((p ++ x :: (m ++ y :: q)).set (p.length + 1 + m.length) x).set p.length y = p ++ y :: (m ++ x :: q) := by
  rw [List.set_comm _ _ (by omega), AM]
theorem qg {l : List α} {n : Nat} (h : n ≤ l.length) : ∃ a b, l = a ++ b ∧ a.length = n := ⟨l.take n, l.drop n, (List.take_append_drop n l).symm, by simp [h]⟩
end
end Go.Proofs.YtmlncblocfcmiaaGreat
namespace Go.Proofs.YtmlncblocfcmiaaGreat
open Go.RowKit
section
variable {c : Formula → Formula → Int} {G : Formula → Prop} {f : Formula × Formula → Option Int}
theorem GF (x : Formula) : (⟨x.Op, x.K, x.aA, x.Kids⟩ : Formula) = x := by cases x; rfl
abbrev fV (c : Formula → Formula → Int) (x y : Formula) : Bool := decide (c x y < 0)
abbrev wL (f : Formula × Formula → Option Int) (c : Formula → Formula → Int) (G : Formula → Prop) : Prop := ∀ x y, G x → G y → f (x, y) = some (c x y)
theorem MZ (u : wL f c G) (pre : List Formula) (x : Formula) (w : G x) : ∀ (k : Nat) (P S : List Formula) (n : Nat) (j a : Int), P.length = k → k < n → (∀ y ∈ P, G y) → (pre ++ (P ++ x :: S)).length ≤ 1000000 → j = ((pre.length + P.length : Nat) : Int) → a = (pre.length : Int) →
    ∃ P1 P2, P = P1 ++ P2 ∧ dX a f n (pre ++ (P ++ x :: S)) j = some (pre ++ (P1 ++ x :: (P2 ++ S))) ∧ (∀ P' z, P1 = P' ++ [z] → fV c x z = false) ∧ (∀ y P', P2 = y :: P' → fV c x y = true) := by
  intro k
  induction k with
  | zero =>
    intro P S n j a hk v d l h ha
    obtain rfl := List.eq_nil_of_length_eq_zero hk
    obtain ⟨n, rfl⟩ := Nat.exists_eq_succ_of_ne_zero (by omega : n ≠ 0)
    refine ⟨[], [], rfl, ?_, by simp, by simp⟩
    rw [dX]
    have : ¬ (j > a) := by rw [h, ha]; simp
    simp [this]
  | succ k ih =>
    intro P S n j a hk v d l h ha
    rcases List.eq_nil_or_concat P with rfl | ⟨P', z, rfl⟩
    · simp at hk
    simp only [List.concat_eq_append, List.length_append, List.length_cons, List.length_nil] at hk h l d ⊢
    obtain ⟨n, rfl⟩ := Nat.exists_eq_succ_of_ne_zero (by omega : n ≠ 0)
    have i : j > a := by omega
    have m : pre ++ (P' ++ [z] ++ x :: S) = (pre ++ P') ++ z :: x :: S := by simp
    have hw : IntKind.i64.wrap (j - 1) = ((pre.length + P'.length : Nat) : Int) := by rw [cP (by omega) (by omega)]; omega
    have i1 : dU ((pre ++ P') ++ z :: x :: S) j = some x := by
      rw [show (pre ++ P') ++ z :: x :: S = (pre ++ P' ++ [z]) ++ x :: S by simp]
      exact fk _ _ _ _ (by simp; omega)
    have i2 : dU ((pre ++ P') ++ z :: x :: S) ((pre.length + P'.length : Nat) : Int) = some z := fk _ _ _ _ (by simp)
    have D : G z := d z (by simp)
    have t : ∀ y ∈ P', G y := fun y A => d y (by simp [A])
    have F : j.toNat = pre.length + P'.length + 1 := by omega
    rw [dX, m]
    simp only [i, decide_true, if_true, i1, hw, i2, Option.bind_some, u x z w D]
    by_cases g : c x z < 0
    · simp only [g, decide_true, if_true]
      have s1 : ((pre ++ P') ++ z :: x :: S).set j.toNat z = (pre ++ P') ++ z :: z :: S := by
        have := EL (pre ++ P' ++ [z]) S x z j.toNat (by simp; omega)
        simpa only [List.append_assoc, List.singleton_append, List.cons_append, List.nil_append] using this
      have s2 : ((pre ++ P') ++ z :: z :: S).set (pre.length + P'.length) x = (pre ++ P') ++ x :: z :: S := by
        exact EL (pre ++ P') (z :: S) z x _ (by simp)
      have i3 : dU ((pre ++ P') ++ z :: z :: S) ((pre.length + P'.length : Nat) : Int) = some z := fk _ _ _ _ (by simp)
      rw [s1, i3, Option.bind_some, Int.toNat_natCast, GF, s2]
      have p : (pre ++ P') ++ x :: z :: S = pre ++ (P' ++ x :: (z :: S)) := by simp
      obtain ⟨P1, P2, h1, q, r, s⟩ := ih P' (z :: S) n ((pre.length + P'.length : Nat) : Int) a (by omega) (by omega) t (by simp; omega) rfl ha
      rw [p, q]
      refine ⟨P1, P2 ++ [z], by rw [h1]; simp, by simp, r, ?_⟩
      intro y Q b
      cases P2 with
      | nil =>
        simp only [List.nil_append, List.cons.injEq] at b
        rw [← b.1]; simp [fV, g]
      | cons E P2 =>
        simp only [List.cons_append, List.cons.injEq] at b
        rw [← b.1]; exact s E P2 rfl
    · simp only [g, decide_false, Bool.false_eq_true, if_false]
      refine ⟨P' ++ [z], [], by simp, by simp, ?_, by simp⟩
      intro Q y b
      have := List.append_inj' b rfl
      simp only [List.cons.injEq, and_true] at this
      rw [← this.2]; simp [fV, g]
theorem Jp (h : SWO (fV c)) (I : wL f c G) (pre post : List Formula) (a b : Int) (ha : a = (pre.length : Int)) : ∀ (S t : List (Formula × Nat)) (n : Nat) (i : Int),
    S.length < n → gN (fV c) t → (∀ x ∈ t, ∀ y ∈ S, x.2 < y.2) → S.Pairwise (fun x y => x.2 < y.2) → (∀ x ∈ t ++ S, G x.1) → (pre ++ (t.map (·.1) ++ (S.map (·.1) ++ post))).length ≤ 1000000 →
    i = ((pre.length + t.length : Nat) : Int) → b = ((pre.length + t.length + S.length : Nat) : Int) →
    ∃ u, dO b a f n (pre ++ (t.map (·.1) ++ (S.map (·.1) ++ post))) i = some (pre ++ (u.map (·.1) ++ post)) ∧ gN (fV c) u ∧ u.Perm (t ++ S)
  | [], t, n, i, D, E, h1, F, r, A, J, v => by
    obtain ⟨n, rfl⟩ := Nat.exists_eq_succ_of_ne_zero (by simp at D; omega : n ≠ 0)
    rw [dO]
    simp only [List.length_nil] at v
    have : ¬ (i < b) := by omega
    simp only [this, decide_false, Bool.false_eq_true, if_false]
    exact ⟨t, by simp, E, by simp⟩
  | s :: S, t, n, i, D, E, h1, F, r, A, J, v => by
    simp only [List.length_cons] at D v
    obtain ⟨n, rfl⟩ := Nat.exists_eq_succ_of_ne_zero (by omega : n ≠ 0)
    rw [dO]
    have w : i < b := by omega
    simp only [w, decide_true, if_true]
    have k := A
    simp only [List.length_append, List.length_map, List.length_cons] at k
    obtain ⟨P1, P2, O, P, Q, R⟩ := MZ I pre s.1 (r s (by simp)) (t.map (·.1)).length (t.map (·.1)) (S.map (·.1) ++ post) bL i a rfl (by rw [eG]; simp; omega)
      (fun y m => by obtain ⟨p, hp, rfl⟩ := List.mem_map.1 m; exact r p (by simp [hp])) (by simpa using A) (by simp; omega) ha
    simp only [List.map_cons, List.cons_append]
    rw [P, Option.bind_some]
    obtain ⟨t1, t2, rfl, L, M⟩ := List.map_eq_append_iff.1 O
    have hlen : t1.length + t2.length = (t1 ++ t2).length := by simp
    have hw : IntKind.i64.wrap (i + 1) = ((pre.length + (t1 ++ s :: t2).length : Nat) : Int) := by rw [cP (by omega) (by omega)]; simp at J ⊢; omega
    rw [hw]
    have l : gN (fV c) (t1 ++ s :: t2) := Ct h E
      (fun A' z b B' j q => by
        simp only [List.cons.injEq] at q
        rw [← q.1]
        refine .inr ⟨Q (A'.map (·.1)) z.1 (by rw [← L, j]; simp), h1 z (by rw [j]; simp) s (by simp)⟩)
      (fun A' z b B' j q => by
        have U : z = s := by
          cases A' with
          | nil => simpa using j.symm
          | cons _ A' => simp at j
        rw [U]
        exact .inl (R b.1 (B'.map (·.1)) (by rw [← M, q]; simp)))
    have g := List.pairwise_cons.1 F
    have T : pre ++ (P1 ++ s.1 :: (P2 ++ (S.map (·.1) ++ post))) = pre ++ ((t1 ++ s :: t2).map (·.1) ++ (S.map (·.1) ++ post)) := by rw [← L, ← M]; simp
    rw [T]
    obtain ⟨u, W, Y, Z⟩ := Jp h I pre post a b ha S (t1 ++ s :: t2) n _ (by omega) l
      (fun x d y m => by
        rcases List.mem_append.1 d with d | d
        · exact h1 x (by simp [d]) y (by simp [m])
        · rcases List.mem_cons.1 d with rfl | d
          · exact g.1 y m
          · exact h1 x (by simp [d]) y (by simp [m]))
      g.2 (fun x d => r x (by
        simp only [List.mem_append, List.mem_cons] at d ⊢
        rcases d with (d | d | d) | d
        · exact .inl (.inl d)
        · exact .inr (.inl d)
        · exact .inl (.inr d)
        · exact .inr (.inr d))) (by simp at k ⊢; omega) rfl (by simp at v ⊢; omega)
    refine ⟨u, W, Y, Z.trans ?_⟩
    simp only [List.append_assoc, List.cons_append]
    exact List.Perm.append_left t1 (List.perm_middle.symm)
theorem Fv (h : SWO (fV c)) (p : wL f c G) (pre post : List Formula) (S : List (Formula × Nat)) (a b : Int) (l : S.Pairwise (fun x y => x.2 < y.2)) (m : ∀ x ∈ S, G x.1) (k : (pre ++ (S.map (·.1) ++ post)).length ≤ 1000000) (ha : a = (pre.length : Int)) (j : b = ((pre.length + S.length : Nat) : Int)) :
    ∃ u, fE (pre ++ (S.map (·.1) ++ post)) a b f = some (pre ++ (u.map (·.1) ++ post)) ∧ gN (fV c) u ∧ u.Perm S := by
  unfold fE
  have g := k
  simp only [List.length_append, List.length_map] at g
  cases S with
  | nil =>
    refine ⟨[], ?_, .nil, .nil⟩
    obtain ⟨n, q⟩ := Nat.exists_eq_succ_of_ne_zero (by rw [eG]; omega : bL ≠ 0)
    rw [q, dO]
    have : ¬ (IntKind.i64.wrap (a + 1) < b) := by rw [cP (by omega) (by omega)]; simp at j; omega
    simp [this]
  | cons s S =>
    simp only [List.length_cons] at j g
    have d := List.pairwise_cons.1 l
    obtain ⟨u, t, v, w⟩ := Jp h p pre post a b ha S [s] bL (IntKind.i64.wrap (a + 1)) (by rw [eG]; omega) (List.pairwise_singleton _ _) (fun x i y r => by simp at i; rw [i]; exact d.1 y r) d.2
      (fun x i => m x (by simpa using i)) (by simp at k ⊢; omega) (by rw [cP (by omega) (by omega)]; simp; omega) (by simp; omega)
    exact ⟨u, by simpa using t, v, by simpa using w⟩
end
end Go.Proofs.YtmlncblocfcmiaaGreat
namespace Go.Proofs.YtmlncblocfcmiaaGreat
open Go.RowKit
section
variable {c : Formula → Formula → Int} {G : Formula → Prop} {f : Formula × Formula → Option Int}
theorem fU {x : Int} (n : Nat) (h : x = (n : Int)) (a : n ≤ 4000000) : IntKind.i64.wrap x = (n : Int) := by rw [h, cP (by omega) (by omega)]
theorem KQ (p m q : List Formula) (a b N : Int) : ∀ (k : Nat) (X1 X2 Y1 Y2 : List Formula) (n : Nat) (i : Int), X2.length = k → Y2.length = k → X1.length = Y1.length → k < n → (p ++ (Y1 ++ (X2 ++ (m ++ (X1 ++ (Y2 ++ q)))))).length ≤ 1000000 →
    i = (X1.length : Int) → N = ((X1.length + k : Nat) : Int) → a = (p.length : Int) → b = ((p.length + X1.length + k + m.length : Nat) : Int) →
    ey N b a n (p ++ (Y1 ++ (X2 ++ (m ++ (X1 ++ (Y2 ++ q)))))) i = some (p ++ ((Y1 ++ Y2) ++ (m ++ ((X1 ++ X2) ++ q)))) := by
  intro k
  induction k with
  | zero =>
    intro X1 X2 Y1 Y2 n i h1 d u w r v j ha l
    obtain rfl := List.eq_nil_of_length_eq_zero h1
    obtain rfl := List.eq_nil_of_length_eq_zero d
    obtain ⟨n, rfl⟩ := Nat.exists_eq_succ_of_ne_zero (by omega : n ≠ 0)
    rw [ey]
    have : ¬ (i < N) := by omega
    simp [this]
  | succ k ih =>
    intro X1 X2 Y1 Y2 n i h1 d u w r v j ha l
    cases X2 with
    | nil => simp at h1
    | cons x X2 =>
    cases Y2 with
    | nil => simp at d
    | cons y Y2 =>
    simp only [List.length_cons, Nat.add_right_cancel_iff] at h1 d
    obtain ⟨n, rfl⟩ := Nat.exists_eq_succ_of_ne_zero (by omega : n ≠ 0)
    have h := r
    simp only [List.length_append, List.length_cons] at h
    have g : i < N := by omega
    have z : IntKind.i64.wrap (b + i) = (((p ++ Y1).length + 1 + (X2 ++ (m ++ X1)).length : Nat) : Int) := fU _ (by simp; omega) (by simp; omega)
    have A : IntKind.i64.wrap (a + i) = ((p ++ Y1).length : Int) := fU _ (by simp; omega) (by simp; omega)
    have D : IntKind.i64.wrap (i + 1) = ((X1 ++ [x]).length : Int) := fU _ (by simp; omega) (by simp; omega)
    have s : p ++ (Y1 ++ (x :: X2 ++ (m ++ (X1 ++ (y :: Y2 ++ q))))) = (p ++ Y1) ++ x :: ((X2 ++ (m ++ X1)) ++ y :: (Y2 ++ q)) := by simp
    have i1 : dU ((p ++ Y1) ++ x :: ((X2 ++ (m ++ X1)) ++ y :: (Y2 ++ q))) (((p ++ Y1).length + 1 + (X2 ++ (m ++ X1)).length : Nat) : Int) = some y := by
      have := fk ((p ++ Y1) ++ x :: (X2 ++ (m ++ X1))) y (Y2 ++ q) (((p ++ Y1).length + 1 + (X2 ++ (m ++ X1)).length : Nat) : Int) (by simp; omega)
      simpa using this
    have i2 : dU ((p ++ Y1) ++ x :: ((X2 ++ (m ++ X1)) ++ y :: (Y2 ++ q))) ((p ++ Y1).length : Int) = some x := fk _ _ _ _ rfl
    rw [ey, s]
    simp only [g, decide_true, if_true, z, A, i1, i2, Option.bind_some, Int.toNat_natCast, D]
    have i3 : dU (((p ++ Y1) ++ x :: ((X2 ++ (m ++ X1)) ++ y :: (Y2 ++ q))).set (p ++ Y1).length y) (((p ++ Y1).length + 1 + (X2 ++ (m ++ X1)).length : Nat) : Int) = some y := by
      rw [zz]
      have := fk ((p ++ Y1) ++ y :: (X2 ++ (m ++ X1))) y (Y2 ++ q) (((p ++ Y1).length + 1 + (X2 ++ (m ++ X1)).length : Nat) : Int) (by simp; omega)
      simpa using this
    rw [i3, Option.bind_some, GF, AM]
    have t : (p ++ Y1) ++ y :: ((X2 ++ (m ++ X1)) ++ x :: (Y2 ++ q)) = p ++ ((Y1 ++ [y]) ++ (X2 ++ (m ++ ((X1 ++ [x]) ++ (Y2 ++ q))))) := by simp
    rw [t, ih (X1 ++ [x]) X2 (Y1 ++ [y]) Y2 n _ h1 d (by simp; omega) (by omega) (by simp; omega) rfl (by rw [j]; simp; omega) ha (by rw [l]; simp; omega)]
    simp
theorem GY (p m q X Y : List Formula) (a b N : Int) (h : X.length = Y.length) (g : (p ++ (X ++ (m ++ (Y ++ q)))).length ≤ 1000000) (i : N = (X.length : Int)) (ha : a = (p.length : Int)) (j : b = ((p.length + X.length + m.length : Nat) : Int)) :
    ft (p ++ (X ++ (m ++ (Y ++ q)))) a b N f = some (p ++ (Y ++ (m ++ (X ++ q)))) := by
  unfold ft
  have d := g
  simp only [List.length_append] at d
  have := KQ p m q a b N X.length [] X [] Y bL 0 rfl h.symm rfl (by rw [eG]; omega) (by simpa using g) rfl (by simpa using i) ha (by rw [j]; simp)
  simpa using this
theorem Mm (M : Int) : ∀ (k : Nat) (A B p q : List Formula) (n : Nat) (i j : Int), A.length + B.length ≤ k → 0 < A.length → 0 < B.length → k < n → (p ++ (A ++ (B ++ q))).length ≤ 1000000 → i = (A.length : Int) → j = (B.length : Int) → M = ((p.length + A.length : Nat) : Int) →
    eO M f n (p ++ (A ++ (B ++ q))) i j = some (p ++ (B ++ (A ++ q))) := by
  intro k
  induction k with
  | zero => intro A B p q n i j h h1 u; omega
  | succ k ih =>
    intro A B p q n i j h h1 u G x b m v
    obtain ⟨n, rfl⟩ := Nat.exists_eq_succ_of_ne_zero (by omega : n ≠ 0)
    have a := x
    simp only [List.length_append] at a
    rw [eO]
    by_cases he : A.length = B.length
    · have : (i != j) = false := by rw [b, m, he]; simp
      simp only [this, Bool.false_eq_true, if_false]
      have d : IntKind.i64.wrap (M - i) = (p.length : Int) := fU _ (by omega) (by omega)
      have := GY (f := f) p [] q A B (p.length : Int) M i he (by simpa using x) b rfl (by rw [v]; simp)
      simp only [List.nil_append] at this
      rw [d, this]; rfl
    · have r : (i != j) = true := by rw [b, m]; simp; omega
      simp only [r, if_true]
      by_cases w : i > j
      · simp only [w, decide_true, if_true]
        obtain ⟨X, Y, rfl, F⟩ := qg (l := A) (n := B.length) (by omega)
        simp only [List.length_append] at b h v a
        have d : IntKind.i64.wrap (M - i) = (p.length : Int) := fU _ (by omega) (by omega)
        have s := GY (f := f) p Y q X B (p.length : Int) M j (by omega) (by simp; omega) (by omega) rfl (by omega)
        have g : p ++ (X ++ Y ++ (B ++ q)) = p ++ (X ++ (Y ++ (B ++ q))) := by simp
        have t : IntKind.i64.wrap (i - j) = (Y.length : Int) := fU _ (by omega) (by omega)
        rw [g, d, s, Option.bind_some, t]
        have y : p ++ (B ++ (Y ++ (X ++ q))) = (p ++ B) ++ (Y ++ (X ++ q)) := by simp
        rw [y, ih Y X (p ++ B) q n _ j (by omega) (by omega) (by omega) (by omega) (by simp; omega) rfl (by omega) (by simp; omega)]
        simp
      · simp only [w, decide_false, Bool.false_eq_true, if_false]
        obtain ⟨Z, V, rfl, z⟩ := qg (l := B) (n := B.length - A.length) (by omega)
        simp only [List.length_append] at m h a z u he
        have d : IntKind.i64.wrap (M - i) = (p.length : Int) := fU _ (by omega) (by omega)
        have D : IntKind.i64.wrap (M + j) = ((p.length + A.length + (Z.length + V.length) : Nat) : Int) := fU _ (by omega) (by omega)
        have E : IntKind.i64.wrap (((p.length + A.length + (Z.length + V.length) : Nat) : Int) - i) = ((p.length + A.length + Z.length : Nat) : Int) := fU _ (by omega) (by omega)
        have s := GY (f := f) p Z q A V (p.length : Int) ((p.length + A.length + Z.length : Nat) : Int) i (by omega) (by simp; omega) b rfl rfl
        have g : p ++ (A ++ (Z ++ V ++ q)) = p ++ (A ++ (Z ++ (V ++ q))) := by simp
        have t : IntKind.i64.wrap (j - i) = (Z.length : Int) := fU _ (by omega) (by omega)
        rw [g, d, D, E, s, Option.bind_some, t]
        rw [show p ++ (V ++ (Z ++ (A ++ q))) = p ++ (V ++ (Z ++ ((A ++ q)))) from rfl, ih V Z p (A ++ q) n i _ (by omega) (by omega) (by omega) (by omega) (by simp; omega) (by omega) rfl (by omega)]
        simp
theorem Ni (A B p q : List Formula) (a m b : Int) (h1 : 0 < A.length) (h : 0 < B.length) (g : (p ++ (A ++ (B ++ q))).length ≤ 1000000) (ha : a = (p.length : Int)) (hm : m = ((p.length + A.length : Nat) : Int)) (i : b = ((p.length + A.length + B.length : Nat) : Int)) :
    fj (p ++ (A ++ (B ++ q))) a m b f = some (p ++ (B ++ (A ++ q))) := by
  unfold fj
  have d := g
  simp only [List.length_append] at d
  rw [fU A.length (by omega) (by omega), fU B.length (by omega) (by omega)]
  exact Mm m (A.length + B.length) A B p q bL _ _ (Nat.le_refl _) h1 h (by rw [eG]; omega) g rfl rfl hm
end
end Go.Proofs.YtmlncblocfcmiaaGreat
namespace Go.Proofs.YtmlncblocfcmiaaGreat
open Go.RowKit
section
variable {c : Formula → Formula → Int} {G : Formula → Prop} {f : Formula × Formula → Option Int}
theorem xg {x : Int} (n : Nat) (h : x = (n : Int)) (b : n ≤ 4000000) : IntKind.i64.wrap (Int.fdiv (IntKind.u64.wrap (IntKind.i64.wrap x)) (2 ^ min (Int.toNat 1) (IntKind.bits .u64))) = ((n / 2 : Nat) : Int) := by
  rw [fU n h b]
  have a : IntKind.u64.wrap (n : Int) = (n : Int) := by
    simp only [IntKind.wrap, IntKind.signed, IntKind.bits]
    simp
    omega
  rw [a, show (2 ^ min (Int.toNat 1) (IntKind.bits .u64) : Int) = 2 from by decide, Int.fdiv_eq_ediv_of_nonneg _ (by decide), cP (by omega) (by omega)]
  omega
abbrev Ask (a0 : List Formula) (f : Formula × Formula → Option Int) (p q : Int) (b : Bool) : Prop := ∃ x y r, dU a0 p = some x ∧ dU a0 q = some y ∧ f (x, y) = some r ∧ decide (r < 0) = b
theorem Nl (a0 : List Formula) (p : Int) (b : Nat → Bool) (lo a : Nat) (F : a ≤ 1000000) (u : ∀ h, lo ≤ h → h < a → Ask a0 f (h : Int) p (b h)) : ∀ (d n i j : Nat), j - i ≤ d → d < n → lo ≤ i → i ≤ j → j ≤ a → (i = lo ∨ b (i - 1) = true) → (j = a ∨ b j = false) →
    ∃ t I, lo ≤ t ∧ t ≤ a ∧ (t = lo ∨ b (t - 1) = true) ∧ (t = a ∨ b t = false) ∧ dD a0 p f n (i : Int) (j : Int) = dD a0 p f (I + 1) (t : Int) (t : Int) := by
  intro d
  induction d with
  | zero =>
    intro n i j h1 G g D k l m
    obtain ⟨n, rfl⟩ := Nat.exists_eq_succ_of_ne_zero (by omega : n ≠ 0)
    obtain rfl : i = j := by omega
    exact ⟨i, n, g, k, l, m, rfl⟩
  | succ d ih =>
    intro n i j h1 G g D k l m
    obtain ⟨n, rfl⟩ := Nat.exists_eq_succ_of_ne_zero (by omega : n ≠ 0)
    by_cases q : i = j
    · subst q; exact ⟨i, n, g, k, l, m, rfl⟩
    have E := xg (i + j) (x := (i : Int) + (j : Int)) (by omega) (by omega)
    obtain ⟨x, y, r, v, w, z, A⟩ := u ((i + j) / 2) (by omega) (by omega)
    rw [dD]
    have s : ((i : Int) < (j : Int)) := by omega
    simp only [s, decide_true, if_true, E, v, w, z, A, Option.bind_some]
    cases hp : b ((i + j) / 2)
    · simp only [Bool.false_eq_true, if_false]
      exact ih n i ((i + j) / 2) (by omega) (by omega) g (by omega) (by omega) l (.inr hp)
    · simp only [if_true]
      rw [fU ((i + j) / 2 + 1) (by omega) (by omega)]
      exact ih n ((i + j) / 2 + 1) j (by omega) (by omega) (by omega) (by omega) k (.inr (by simpa using hp)) m
theorem Nc (a0 : List Formula) (a2 : Int) (b : Nat → Bool) (lo a : Nat) (E : a ≤ 1000000) (s : ∀ h, lo ≤ h → h < a → Ask a0 f a2 (h : Int) (!b h)) : ∀ (d n i j : Nat), j - i ≤ d → d < n → lo ≤ i → i ≤ j → j ≤ a → (i = lo ∨ b (i - 1) = true) → (j = a ∨ b j = false) →
    ∃ t G, lo ≤ t ∧ t ≤ a ∧ (t = lo ∨ b (t - 1) = true) ∧ (t = a ∨ b t = false) ∧ dC a0 a2 f n (i : Int) (j : Int) = dC a0 a2 f (G + 1) (t : Int) (t : Int) := by
  intro d
  induction d with
  | zero =>
    intro n i j h1 F g A k l m
    obtain ⟨n, rfl⟩ := Nat.exists_eq_succ_of_ne_zero (by omega : n ≠ 0)
    obtain rfl : i = j := by omega
    exact ⟨i, n, g, k, l, m, rfl⟩
  | succ d ih =>
    intro n i j h1 F g A k l m
    obtain ⟨n, rfl⟩ := Nat.exists_eq_succ_of_ne_zero (by omega : n ≠ 0)
    by_cases p : i = j
    · subst p; exact ⟨i, n, g, k, l, m, rfl⟩
    have D := xg (i + j) (x := (i : Int) + (j : Int)) (by omega) (by omega)
    obtain ⟨x, y, r, u, v, w, z⟩ := s ((i + j) / 2) (by omega) (by omega)
    rw [dC]
    have q : ((i : Int) < (j : Int)) := by omega
    simp only [q, decide_true, if_true, D, u, v, w, z, Option.bind_some, Bool.not_not]
    cases hp : b ((i + j) / 2)
    · simp only [Bool.false_eq_true, if_false]
      exact ih n i ((i + j) / 2) (by omega) (by omega) g (by omega) (by omega) l (.inr hp)
    · simp only [if_true]
      rw [fU ((i + j) / 2 + 1) (by omega) (by omega)]
      exact ih n ((i + j) / 2 + 1) j (by omega) (by omega) (by omega) (by omega) k (.inr (by simpa using hp)) m
theorem My (x : Formula) : ∀ (P Q R : List Formula) (n : Nat) (k i : Int), P.length < n → (Q ++ x :: (P ++ R)).length ≤ 1000000 → k = (Q.length : Int) → i = ((Q.length + P.length + 1 : Nat) : Int) → eB i n (Q ++ x :: (P ++ R)) k = some (Q ++ (P ++ x :: R))
  | [], Q, R, n, k, i, b, d, hk, a => by
    obtain ⟨n, rfl⟩ := Nat.exists_eq_succ_of_ne_zero (by simp at b; omega : n ≠ 0)
    simp only [List.length_append, List.length_cons, List.length_nil] at d a
    rw [eB, fU Q.length (by omega) (by omega)]
    have : ¬ (k < (Q.length : Int)) := by omega
    simp [this]
  | y :: P, Q, R, n, k, i, b, d, hk, a => by
    obtain ⟨n, rfl⟩ := Nat.exists_eq_succ_of_ne_zero (by simp at b; omega : n ≠ 0)
    simp only [List.length_append, List.length_cons] at d a b
    have h : Q ++ x :: (y :: P ++ R) = Q ++ x :: ([] ++ y :: (P ++ R)) := rfl
    have j : IntKind.i64.wrap (k + 1) = ((Q.length + 1 + ([] : List Formula).length : Nat) : Int) := fU _ (by simp; omega) (by simp; omega)
    have i1 : dU (Q ++ x :: ([] ++ y :: (P ++ R))) ((Q.length + 1 + ([] : List Formula).length : Nat) : Int) = some y := by
      have := fk (Q ++ [x]) y (P ++ R) ((Q.length + 1 + ([] : List Formula).length : Nat) : Int) (by simp)
      simpa using this
    have i2 : dU (Q ++ x :: ([] ++ y :: (P ++ R))) k = some x := fk _ _ _ _ hk
    rw [eB, fU (Q.length + P.length + 1) (by omega) (by omega), h]
    have g : k < ((Q.length + P.length + 1 : Nat) : Int) := by omega
    have kn : k.toNat = Q.length := by omega
    simp only [g, decide_true, if_true, j, i1, i2, Option.bind_some, kn]
    have i3 : dU ((Q ++ x :: ([] ++ y :: (P ++ R))).set Q.length y) ((Q.length + 1 + ([] : List Formula).length : Nat) : Int) = some y := by
      rw [zz]
      have := fk (Q ++ [y]) y (P ++ R) ((Q.length + 1 + ([] : List Formula).length : Nat) : Int) (by simp)
      simpa using this
    rw [i3, Option.bind_some, Int.toNat_natCast, GF, AM]
    have := My x P (Q ++ [y]) R n ((Q.length + 1 + ([] : List Formula).length : Nat) : Int) i (by omega) (by simp; omega) (by simp) (by rw [a]; simp; omega)
    simpa using this
theorem Nd (x : Formula) : ∀ (k : Nat) (S Q R : List Formula) (n : Nat) (j i : Int), S.length = k → k < n → (Q ++ (S ++ x :: R)).length ≤ 1000000 → j = ((Q.length + S.length : Nat) : Int) → i = (Q.length : Int) → eC i n (Q ++ (S ++ x :: R)) j = some (Q ++ x :: (S ++ R)) := by
  intro k
  induction k with
  | zero =>
    intro S Q R n j i hk m h a g
    obtain ⟨n, rfl⟩ := Nat.exists_eq_succ_of_ne_zero (by omega : n ≠ 0)
    obtain rfl := List.eq_nil_of_length_eq_zero hk
    rw [eC]
    simp only [List.length_nil, Nat.add_zero] at a
    have : ¬ (j > i) := by omega
    simp [this]
  | succ k ih =>
    intro S Q R n j i hk m h a g
    obtain ⟨n, rfl⟩ := Nat.exists_eq_succ_of_ne_zero (by omega : n ≠ 0)
    rcases List.eq_nil_or_concat S with rfl | ⟨S, z, rfl⟩
    · simp at hk
    simp only [List.concat_eq_append, List.length_append, List.length_cons, List.length_nil] at hk a h ⊢
    have l : Q ++ (S ++ [z] ++ x :: R) = (Q ++ S) ++ z :: ([] ++ x :: R) := by simp
    have q : IntKind.i64.wrap (j - 1) = ((Q ++ S).length : Int) := fU _ (by simp; omega) (by simp; omega)
    have b : j = (((Q ++ S).length + 1 + ([] : List Formula).length : Nat) : Int) := by rw [a]; simp; omega
    have i1 : dU ((Q ++ S) ++ z :: ([] ++ x :: R)) j = some x := by
      have := fk (Q ++ S ++ [z]) x R j (by rw [b]; simp; omega)
      simpa using this
    have i2 : dU ((Q ++ S) ++ z :: ([] ++ x :: R)) ((Q ++ S).length : Int) = some z := fk _ _ _ _ rfl
    rw [eC, l]
    have d : j > i := by omega
    have p : j.toNat = (Q ++ S).length + 1 + ([] : List Formula).length := by omega
    simp only [d, decide_true, if_true, q, i1, i2, Option.bind_some, p]
    have i3 : dU (((Q ++ S) ++ z :: ([] ++ x :: R)).set ((Q ++ S).length + 1 + ([] : List Formula).length) z) ((Q ++ S).length : Int) = some z := by
      have : ((Q ++ S) ++ z :: ([] ++ x :: R)).set ((Q ++ S).length + 1 + ([] : List Formula).length) z = (Q ++ S) ++ z :: (z :: R) := by
        have := EL (Q ++ S ++ [z]) R x z ((Q ++ S).length + 1 + ([] : List Formula).length) (by simp; omega)
        simpa using this
      rw [this]; exact fk _ _ _ _ rfl
    rw [i3, Option.bind_some, Int.toNat_natCast, GF, Hr]
    have := ih S Q (z :: R) n ((Q ++ S).length : Int) i (by omega) (by omega) (by simp; omega) (by simp) g
    simpa using this
end
end Go.Proofs.YtmlncblocfcmiaaGreat
namespace Go.Proofs.YtmlncblocfcmiaaGreat
open Go.RowKit
section
variable {c : Formula → Formula → Int} {G : Formula → Prop} {f : Formula × Formula → Option Int}
theorem ME (a0 : List Formula) (k a3 a2 : Int) (rec : List Formula → Int → Int → Int → ((Formula × Formula) → Option Int) → Option (List Formula)) (mid m p : Nat) (l : k + a3 = ((2 * mid : Nat) : Int) ∨ k + a3 = ((2 * mid + 1 : Nat) : Int)) (hm : a2 = (m : Int)) (hp : p + 1 = mid + m) (g : Nat → Bool) (lo a : Nat) (M : a ≤ 1000000) (P : mid ≤ 1000000) (O : mid + m ≤ 2000000) (hle : a ≤ p + 1) (D : ∀ h, lo ≤ h → h < a → Ask a0 f ((p - h : Nat) : Int) (h : Int) (!g h)) : ∀ (d n i j : Nat), j - i ≤ d → d < n → lo ≤ i → i ≤ j → j ≤ a → (i = lo ∨ g (i - 1) = true) → (j = a ∨ g j = false) →
    ∃ t R, lo ≤ t ∧ t ≤ a ∧ (t = lo ∨ g (t - 1) = true) ∧ (t = a ∨ g t = false) ∧ cQ a0 k a3 a2 f rec n (i : Int) (j : Int) = cQ a0 k a3 a2 f rec (R + 1) (t : Int) (t : Int) := by
  have b : IntKind.i64.wrap (Int.fdiv (IntKind.u64.wrap (IntKind.i64.wrap (k + a3))) (2 ^ min (Int.toNat 1) (IntKind.bits .u64))) = (mid : Int) := by
    rcases l with h | h
    · rw [xg _ h (by omega), show 2 * mid / 2 = mid by omega]
    · rw [xg _ h (by omega), show (2 * mid + 1) / 2 = mid by omega]
  intro d
  induction d with
  | zero =>
    intro n i j h1 Q s J u v w
    obtain ⟨n, rfl⟩ := Nat.exists_eq_succ_of_ne_zero (by omega : n ≠ 0)
    obtain rfl : i = j := by omega
    exact ⟨i, n, s, u, v, w, rfl⟩
  | succ d ih =>
    intro n i j h1 Q s J u v w
    obtain ⟨n, rfl⟩ := Nat.exists_eq_succ_of_ne_zero (by omega : n ≠ 0)
    by_cases z : i = j
    · subst z; exact ⟨i, n, s, u, v, w, rfl⟩
    have L := xg (i + j) (x := (i : Int) + (j : Int)) (by omega) (by omega)
    obtain ⟨x, y, r, E, F, G, I⟩ := D ((i + j) / 2) (by omega) (by omega)
    have T : IntKind.i64.wrap ((mid : Int) + a2) = ((mid + m : Nat) : Int) := fU _ (by omega) (by omega)
    have U : IntKind.i64.wrap (((mid + m : Nat) : Int) - 1) = (p : Int) := fU _ (by omega) (by omega)
    have W : IntKind.i64.wrap ((p : Int) - (((i + j) / 2 : Nat) : Int)) = ((p - (i + j) / 2 : Nat) : Int) := fU _ (by omega) (by omega)
    rw [cQ]
    have A : ((i : Int) < (j : Int)) := by omega
    simp only [A, decide_true, if_true, L, b, T, U, W, E, F, G, I, Option.bind_some, Bool.not_not]
    cases q : g ((i + j) / 2)
    · simp only [Bool.false_eq_true, if_false]
      exact ih n i ((i + j) / 2) (by omega) (by omega) s (by omega) (by omega) v (.inr q)
    · simp only [if_true]
      rw [fU ((i + j) / 2 + 1) (by omega) (by omega)]
      exact ih n ((i + j) / 2 + 1) j (by omega) (by omega) (by omega) (by omega) u (.inr (by simpa using q)) w
theorem KS (a0 : List Formula) (b a3 a2 : Int) (rec : List Formula → Int → Int → Int → ((Formula × Formula) → Option Int) → Option (List Formula)) (mid m t n : Nat) (d : b + a3 = ((2 * mid : Nat) : Int) ∨ b + a3 = ((2 * mid + 1 : Nat) : Int)) (hm : a2 = (m : Int)) (s : mid ≤ 1000000) (r : mid + m ≤ 2000000) (y : t ≤ mid + m) :
    cQ a0 b a3 a2 f rec (n + 1) (t : Int) (t : Int) =
      ((if t < m ∧ m < mid + m - t then fj a0 (t : Int) a2 ((mid + m - t : Nat) : Int) f else some a0).bind fun l => ((if b < (t : Int) ∧ t < mid then rec l b (t : Int) (mid : Int) f else some l).bind fun l => if mid < mid + m - t ∧ ((mid + m - t : Nat) : Int) < a3 then rec l (mid : Int) ((mid + m - t : Nat) : Int) a3 f else some l)) := by
  have a : IntKind.i64.wrap (Int.fdiv (IntKind.u64.wrap (IntKind.i64.wrap (b + a3))) (2 ^ min (Int.toNat 1) (IntKind.bits .u64))) = (mid : Int) := by
    rcases d with h | h
    · rw [xg _ h (by omega), show 2 * mid / 2 = mid by omega]
    · rw [xg _ h (by omega), show (2 * mid + 1) / 2 = mid by omega]
  have v : IntKind.i64.wrap ((mid : Int) + a2) = ((mid + m : Nat) : Int) := fU _ (by omega) (by omega)
  have w : IntKind.i64.wrap (((mid + m : Nat) : Int) - (t : Int)) = ((mid + m - t : Nat) : Int) := fU _ (by omega) (by omega)
  rw [cQ]
  simp only [Int.lt_irrefl, decide_false, Bool.false_eq_true, if_false, a, v, w, gi]
  subst hm
  have g : ((t : Int) < (m : Int)) = (t < m) := by simp
  have i : ((m : Int) < ((mid + m - t : Nat) : Int)) = (m < mid + m - t) := by rw [eq_iff_iff]; omega
  have j : ((t : Int) < (mid : Int)) = (t < mid) := by simp
  have k : ((mid : Int) < ((mid + m - t : Nat) : Int)) = (mid < mid + m - t) := by rw [eq_iff_iff]; omega
  simp only [g, i, j, k]
  have key : ∀ (p q : Prop) [Decidable p] [Decidable q] (A B : Option (List Formula)), ((if decide p = true then some (decide q) else some false : Option Bool).bind fun x => if x = true then A else B) = if p ∧ q then A else B := by
    intro p q _ _ A B
    by_cases hp : p <;> by_cases u : q <;> simp [hp, u]
  simp only [key]
theorem Gl (p A q : List Formula) (h : Nat) (b : p.length ≤ h) (h1 : h < p.length + A.length) : ∃ x, A[h - p.length]? = some x ∧ dU (p ++ (A ++ q)) (h : Int) = some x := by
  obtain ⟨x, a⟩ : ∃ x, A[h - p.length]? = some x := ⟨_, List.getElem?_eq_getElem (by omega)⟩
  refine ⟨x, a, ?_⟩
  rw [zt, List.getElem?_append_right b, List.getElem?_append_left (by omega), a]
end
end Go.Proofs.YtmlncblocfcmiaaGreat
namespace Go.Proofs.YtmlncblocfcmiaaGreat
open Go.RowKit
section
variable {c : Formula → Formula → Int} {G : Formula → Prop} {f : Formula × Formula → Option Int}
theorem xu {α : Type} {P A' : List α} {z : α} (S : List α) (h : P = A' ++ [z]) : (P ++ S)[P.length - 1]? = some z := by subst h; simp
theorem xw {α : Type} {S B' : List α} {z : α} (P : List α) (h : S = z :: B') : (P ++ S)[P.length]? = some z := by subst h; simp
theorem rE {A : List (Formula × Nat)} {i : Nat} {z : Formula × Nat} (h : A[i]? = some z) : (A.map (·.1))[i]? = some z.1 := by simp [h]
theorem LQ (h : SWO (fV c)) (Q : wL f c G) (x : Formula × Nat) (B : List (Formula × Nat)) (pre post : List Formula) (a m b : Int) (I : gN (fV c) B) (U : ∀ y ∈ B, x.2 < y.2) (w : ∀ y ∈ x :: B, G y.1) (R : (pre ++ x.1 :: (B.map (·.1) ++ post)).length ≤ 400000) (ha : a = (pre.length : Int)) (hm : m = ((pre.length + 1 : Nat) : Int)) (O : b = ((pre.length + 1 + B.length : Nat) : Int)) :
    ∃ u, dD (pre ++ x.1 :: (B.map (·.1) ++ post)) a f bL m b = some (pre ++ (u.map (·.1) ++ post)) ∧ gN (fV c) u ∧ u.Perm (x :: B) := by
  have r := R
  simp only [List.length_append, List.length_cons, List.length_map] at r
  let g : Nat → Bool := fun k => match (B.map (·.1))[k - (pre.length + 1)]? with | some y => fV c y x.1 | none => false
  have j : ∀ k, pre.length + 1 ≤ k → k < pre.length + 1 + B.length → Ask (pre ++ x.1 :: (B.map (·.1) ++ post)) f (k : Int) a (g k) := by
    intro k h1 Z
    obtain ⟨y, s, A⟩ := Gl (pre ++ [x.1]) (B.map (·.1)) post k (by simp; omega) (by simp; omega)
    have D : dU (pre ++ x.1 :: (B.map (·.1) ++ post)) (k : Int) = some y := by simpa using A
    have E : dU (pre ++ x.1 :: (B.map (·.1) ++ post)) a = some x.1 := fk _ _ _ _ ha
    have W : G y := by
      obtain ⟨q, T, rfl⟩ := List.mem_map.1 (List.mem_of_getElem? s)
      exact w q (by simp [T])
    refine ⟨y, x.1, _, D, E, Q y x.1 W (w x (by simp)), ?_⟩
    simp only [List.length_append, List.length_cons, List.length_nil] at s
    simp only [g, s]
  obtain ⟨t, n', t1, t2, t3, t4, e⟩ := Nl (f := f) _ a g (pre.length + 1) (pre.length + 1 + B.length) (by omega) j B.length bL (pre.length + 1) (pre.length + 1 + B.length) (by omega) (by rw [eG]; omega) (Nat.le_refl _) (by omega) (Nat.le_refl _) (.inl rfl) (.inl rfl)
  rw [hm, O, e, dD]
  simp only [Int.lt_irrefl, decide_false, Bool.false_eq_true, if_false, gi]
  obtain ⟨P, S, rfl, J⟩ := qg (l := B) (n := t - (pre.length + 1)) (by omega)
  simp only [List.length_append] at r t2 t4
  have F : pre ++ x.1 :: ((P ++ S).map (·.1) ++ post) = pre ++ x.1 :: (P.map (·.1) ++ (S.map (·.1) ++ post)) := by simp
  rw [F, My x.1 (P.map (·.1)) pre (S.map (·.1) ++ post) bL a (t : Int) (by rw [eG]; simp; omega) (by simp; omega) ha (by simp; omega)]
  refine ⟨P ++ x :: S, by simp, Ct h I ?_ ?_, List.perm_middle⟩
  · intro A' z v B' i d
    simp only [List.cons.injEq] at d
    rw [← d.1]
    have L : 0 < P.length := by rw [i]; simp
    have hp : g (t - 1) = true := by
      rcases t3 with t3 | t3
      · omega
      · exact t3
    have p := rE (xu S i)
    rw [show P.length - 1 = t - 1 - (pre.length + 1) by omega] at p
    simp only [g, p] at hp
    exact .inl hp
  · intro A' z v B' i d
    have Y : z = x := by
      cases A' with
      | nil => simpa using i.symm
      | cons _ A' => simp at i
    rw [Y]
    have M : 0 < S.length := by rw [d]; simp
    have hp : g t = false := by
      rcases t4 with t4 | t4
      · omega
      · exact t4
    have p := rE (xw P d)
    rw [J] at p
    simp only [g, p] at hp
    exact .inr ⟨hp, U v (by rw [d]; simp)⟩
theorem Mp (h : SWO (fV c)) (M : wL f c G) (y : Formula × Nat) (A : List (Formula × Nat)) (pre post : List Formula) (a m : Int) (F : gN (fV c) A) (R : ∀ x ∈ A, x.2 < y.2) (s : ∀ x ∈ y :: A, G x.1) (O : (pre ++ (A.map (·.1) ++ y.1 :: post)).length ≤ 400000) (ha : a = (pre.length : Int)) (hm : m = ((pre.length + A.length : Nat) : Int)) :
    ∃ u, dC (pre ++ (A.map (·.1) ++ y.1 :: post)) m f bL a m = some (pre ++ (u.map (·.1) ++ post)) ∧ gN (fV c) u ∧ u.Perm (A ++ [y]) := by
  have p := O
  simp only [List.length_append, List.length_cons, List.length_map] at p
  let g : Nat → Bool := fun k => match (A.map (·.1))[k - pre.length]? with | some x => !fV c y.1 x | none => false
  have i : ∀ k, pre.length ≤ k → k < pre.length + A.length → Ask (pre ++ (A.map (·.1) ++ y.1 :: post)) f m (k : Int) (!g k) := by
    intro k h1 W
    obtain ⟨x, r, w⟩ := Gl pre (A.map (·.1)) (y.1 :: post) k h1 (by simp; omega)
    have D : dU (pre ++ (A.map (·.1) ++ y.1 :: post)) m = some y.1 := by
      have := fk (pre ++ A.map (·.1)) y.1 post m (by rw [hm]; simp)
      simpa using this
    have T : G x := by
      obtain ⟨q, Q, rfl⟩ := List.mem_map.1 (List.mem_of_getElem? r)
      exact s q (by simp [Q])
    refine ⟨y.1, x, _, D, w, M y.1 x (s y (by simp)) T, ?_⟩
    simp only [g, r, Bool.not_not]
  obtain ⟨t, Y, t1, t2, t3, t4, e⟩ := Nc (f := f) _ m g pre.length (pre.length + A.length) (by omega) i A.length bL pre.length (pre.length + A.length) (by omega) (by rw [eG]; omega) (Nat.le_refl _) (by omega) (Nat.le_refl _) (.inl rfl) (.inl rfl)
  rw [← hm, ← ha] at e
  rw [e, dC]
  simp only [Int.lt_irrefl, decide_false, Bool.false_eq_true, if_false, gi]
  obtain ⟨P, S, rfl, I⟩ := qg (l := A) (n := t - pre.length) (by omega)
  simp only [List.length_append] at p t2 t4 hm
  have E : pre ++ ((P ++ S).map (·.1) ++ y.1 :: post) = (pre ++ P.map (·.1)) ++ (S.map (·.1) ++ y.1 :: post) := by simp
  rw [E, Nd y.1 S.length (S.map (·.1)) (pre ++ P.map (·.1)) post bL m (t : Int) (by simp) (by rw [eG]; omega) (by simp; omega) (by rw [hm]; simp; omega) (by simp; omega)]
  refine ⟨P ++ y :: S, by simp, Ct h F ?_ ?_, List.perm_middle.trans (List.perm_append_singleton y (P ++ S)).symm⟩
  · intro A' z v B' b d
    simp only [List.cons.injEq] at d
    rw [← d.1]
    have J : 0 < P.length := by rw [b]; simp
    have hp : g (t - 1) = true := by
      rcases t3 with t3 | t3
      · omega
      · exact t3
    have j := rE (xu S b)
    rw [show P.length - 1 = t - 1 - pre.length by omega] at j
    simp only [g, j, Bool.not_eq_true'] at hp
    exact .inr ⟨hp, R z (by rw [b]; simp)⟩
  · intro A' z v B' b d
    have U : z = y := by
      cases A' with
      | nil => simpa using b.symm
      | cons _ A' => simp at b
    rw [U]
    have L : 0 < S.length := by rw [d]; simp
    have hp : g t = false := by
      rcases t4 with t4 | t4
      · omega
      · exact t4
    have j := rE (xw P d)
    rw [I] at j
    simp only [g, j, Bool.not_eq_false'] at hp
    exact .inl hp
theorem I7 {α : Type} {A1 A2 B1 B2 C1 C2 : List α} (a : C1.Perm (A1 ++ B1)) (b : C2.Perm (A2 ++ B2)) : (C1 ++ C2).Perm ((A1 ++ A2) ++ (B1 ++ B2)) := by
  refine (a.append b).trans ?_
  simp only [List.append_assoc]
  refine List.Perm.append_left A1 ?_
  exact List.perm_append_comm_assoc B1 A2 B2
def Jv (c : Formula → Formula → Int) (A B : List Formula) (a b p q : Nat) : Bool := match A[q - a]?, B[p - q - b]? with | some x, some y => !fV c y x | _, _ => false
theorem ES {A B : List Formula} {a b p q : Nat} {x y : Formula} (h1 : A[q - a]? = some x) (d : B[p - q - b]? = some y) : Jv c A B a b p q = !fV c y x := by simp only [Jv, h1, d]
theorem MR (l : wL f c G) (A B : List (Formula × Nat)) (pre post : List Formula) (a p : Nat) (m : a = pre.length + A.length) (h : ∀ x ∈ A ++ B, G x.1) (q : Nat) (s : pre.length ≤ q) (t : q < a) (u : a ≤ p - q) (v : p - q < a + B.length) :
    Ask (pre ++ (A.map (·.1) ++ (B.map (·.1) ++ post))) f ((p - q : Nat) : Int) (q : Int) (!Jv c (A.map (·.1)) (B.map (·.1)) pre.length a p q) := by
  obtain ⟨x, g, i⟩ := Gl pre (A.map (·.1)) (B.map (·.1) ++ post) q s (by simp; omega)
  obtain ⟨y, b, j⟩ := Gl (pre ++ A.map (·.1)) (B.map (·.1)) post (p - q) (by simp; omega) (by simp; omega)
  have n : G x := by
    obtain ⟨z, d, rfl⟩ := List.mem_map.1 (List.mem_of_getElem? g)
    exact h z (by simp [d])
  have r : G y := by
    obtain ⟨z, d, rfl⟩ := List.mem_map.1 (List.mem_of_getElem? b)
    exact h z (by simp [d])
  have k : dU (pre ++ (A.map (·.1) ++ (B.map (·.1) ++ post))) ((p - q : Nat) : Int) = some y := by simpa using j
  refine ⟨y, x, _, k, i, l y x r n, ?_⟩
  rw [show p - q - (pre ++ A.map (·.1)).length = p - q - a by simp; omega] at b
  rw [ES g b, Bool.not_not]
abbrev M5 (c : Formula → Formula → Int) (G : Formula → Prop) (f : Formula × Formula → Option Int) (rec : List Formula → Int → Int → Int → ((Formula × Formula) → Option Int) → Option (List Formula)) (k : Nat) : Prop :=
  ∀ (A B : List (Formula × Nat)) (pre post : List Formula) (a m b : Int), A.length + B.length ≤ k → 0 < A.length → 0 < B.length → gN (fV c) A → gN (fV c) B →
    (∀ x ∈ A, ∀ y ∈ B, x.2 < y.2) → (∀ x ∈ A ++ B, G x.1) → (pre ++ (A.map (·.1) ++ (B.map (·.1) ++ post))).length ≤ 400000 → a = (pre.length : Int) → m = ((pre.length + A.length : Nat) : Int) → b = ((pre.length + A.length + B.length : Nat) : Int) →
    ∃ u, rec (pre ++ (A.map (·.1) ++ (B.map (·.1) ++ post))) a m b f = some (pre ++ (u.map (·.1) ++ post)) ∧ gN (fV c) u ∧ u.Perm (A ++ B)
theorem KA (h : SWO (fV c)) {rec : List Formula → Int → Int → Int → ((Formula × Formula) → Option Int) → Option (List Formula)} {k : Nat} (ih : M5 c G f rec k) (A1 A2 B1 B2 : List (Formula × Nat)) (pre post : List Formula) (a m b : Int) (mid d t : Nat) (M : d = pre.length + (A1.length + A2.length)) (P : mid = (pre.length + (d + (B1.length + B2.length))) / 2) (J : A1.length = t - pre.length) (L : B1.length = mid - t) (Q : pre.length ≤ t) (R : t ≤ mid) (T : t ≤ d) (hk : A1.length + A2.length + (B1.length + B2.length) ≤ k + 1) (O : 2 ≤ A1.length + A2.length + (B1.length + B2.length)) (p : gN (fV c) (A1 ++ A2)) (q : gN (fV c) (B1 ++ B2)) (I : ∀ x ∈ A1 ++ A2, ∀ y ∈ B1 ++ B2, x.2 < y.2) (F : ∀ x ∈ (A1 ++ A2) ++ (B1 ++ B2), G x.1) (hl : pre.length + (A1.length + A2.length + (B1.length + B2.length + post.length)) ≤ 400000) (ha : a = (pre.length : Int)) (hm : m = (d : Int)) (hb : b = ((d + (B1.length + B2.length) : Nat) : Int)) (U : Lk (fV c) A1 B2) (W : Lk (fV c) B1 A2) :
    ∃ u, ((if t < d ∧ d < mid + d - t then fj (pre ++ ((A1 ++ A2).map (·.1) ++ ((B1 ++ B2).map (·.1) ++ post))) (t : Int) m ((mid + d - t : Nat) : Int) f else some (pre ++ ((A1 ++ A2).map (·.1) ++ ((B1 ++ B2).map (·.1) ++ post)))).bind fun l =>
      ((if a < (t : Int) ∧ t < mid then rec l a (t : Int) (mid : Int) f else some l).bind fun l => if mid < mid + d - t ∧ ((mid + d - t : Nat) : Int) < b then rec l (mid : Int) ((mid + d - t : Nat) : Int) b f else some l)) = some (pre ++ (u.map (·.1) ++ post)) ∧ gN (fV c) u ∧ u.Perm ((A1 ++ A2) ++ (B1 ++ B2)) := by
  have Y : (if t < d ∧ d < mid + d - t then fj (pre ++ ((A1 ++ A2).map (·.1) ++ ((B1 ++ B2).map (·.1) ++ post))) (t : Int) m ((mid + d - t : Nat) : Int) f else some (pre ++ ((A1 ++ A2).map (·.1) ++ ((B1 ++ B2).map (·.1) ++ post)))) =
      some (pre ++ (A1.map (·.1) ++ (B1.map (·.1) ++ (A2.map (·.1) ++ (B2.map (·.1) ++ post))))) := by
    by_cases i : t < d ∧ d < mid + d - t
    · rw [if_pos i]
      have := Ni (f := f) (A2.map (·.1)) (B1.map (·.1)) (pre ++ A1.map (·.1)) (B2.map (·.1) ++ post) (t : Int) m ((mid + d - t : Nat) : Int) (by simp; omega) (by simp; omega) (by simp; omega) (by simp; omega) (by simp; omega) (by simp; omega)
      simpa using this
    · rw [if_neg i]
      have : A2 = [] ∨ B1 = [] := by
        by_cases h1 : A2.length = 0
        · exact .inl (List.eq_nil_of_length_eq_zero h1)
        · exact .inr (List.eq_nil_of_length_eq_zero (by omega))
      rcases this with rfl | rfl <;> simp
  rw [Y, Option.bind_some]
  have Z : ∃ C1, (if a < (t : Int) ∧ t < mid then rec (pre ++ (A1.map (·.1) ++ (B1.map (·.1) ++ (A2.map (·.1) ++ (B2.map (·.1) ++ post))))) a (t : Int) (mid : Int) f else some (pre ++ (A1.map (·.1) ++ (B1.map (·.1) ++ (A2.map (·.1) ++ (B2.map (·.1) ++ post)))))) =
      some (pre ++ (C1.map (·.1) ++ (A2.map (·.1) ++ (B2.map (·.1) ++ post)))) ∧ gN (fV c) C1 ∧ C1.Perm (A1 ++ B1) := by
    by_cases i : a < (t : Int) ∧ t < mid
    · rw [if_pos i]
      exact ih A1 B1 pre (A2.map (·.1) ++ (B2.map (·.1) ++ post)) a t mid (by omega) (by omega) (by omega) p.left q.left (fun x g y A => I x (by simp [g]) y (by simp [A])) (fun x g => F x (by simp at g ⊢; rcases g with g | g <;> simp [g]))
        (by simp; omega) ha (by omega) (by omega)
    · rw [if_neg i]
      refine ⟨A1 ++ B1, by simp, Eh h p.left q.left (fun A' x y B' D E => ?_), .refl _⟩
      have g1 : 0 < A1.length := by rw [D]; simp
      have g2 : 0 < B1.length := by rw [E]; simp
      omega
  obtain ⟨C1, r, v, j⟩ := Z
  have s := j.length_eq
  simp only [List.length_append] at s
  rw [r, Option.bind_some]
  have r3 : ∃ C2, (if mid < mid + d - t ∧ ((mid + d - t : Nat) : Int) < b then rec (pre ++ (C1.map (·.1) ++ (A2.map (·.1) ++ (B2.map (·.1) ++ post)))) (mid : Int) ((mid + d - t : Nat) : Int) b f else some (pre ++ (C1.map (·.1) ++ (A2.map (·.1) ++ (B2.map (·.1) ++ post))))) =
      some ((pre ++ C1.map (·.1)) ++ (C2.map (·.1) ++ post)) ∧ gN (fV c) C2 ∧ C2.Perm (A2 ++ B2) := by
    by_cases i : mid < mid + d - t ∧ ((mid + d - t : Nat) : Int) < b
    · rw [if_pos i]
      have := ih A2 B2 (pre ++ C1.map (·.1)) post mid ((mid + d - t : Nat) : Int) b (by omega) (by omega) (by omega) p.right q.right (fun x g y A => I x (by simp [g]) y (by simp [A])) (fun x g => F x (by simp at g ⊢; rcases g with g | g <;> simp [g]))
        (by simp; omega) (by simp; omega) (by simp; omega) (by simp; omega)
      simpa using this
    · rw [if_neg i]
      refine ⟨A2 ++ B2, by simp, Eh h p.right q.right (fun A' x y B' D E => ?_), .refl _⟩
      have g1 : 0 < A2.length := by rw [D]; simp
      have g2 : 0 < B2.length := by rw [E]; simp
      omega
  obtain ⟨C2, w, z, n⟩ := r3
  rw [w]
  exact ⟨C1 ++ C2, by simp, Kh h p q U W j n v z, I7 j n⟩
theorem IG (F : Nat) (I : 1000000 < F) (L : List Formula) (rec : List Formula → Int → Int → Int → ((Formula × Formula) → Option Int) → Option (List Formula)) (pl g h mid d p : Nat) (a b m : Int) (r : Nat → Bool) (w : 0 < g) (y : 0 < h) (D : pl + (g + h) ≤ 400000) (A : mid = (pl + (pl + g + h)) / 2) (z : d = pl + g) (hp : p + 1 = mid + d) (l : a + b = ((2 * mid : Nat) : Int) ∨ a + b = ((2 * mid + 1 : Nat) : Int)) (ha : a = (pl : Int)) (k : m = (d : Int)) (J : b = ((pl + g + h : Nat) : Int)) (i : ∀ q, pl ≤ q → q < d → d ≤ p - q → p - q < d + h → Ask L f ((p - q : Nat) : Int) (q : Int) (!r q)) :
    ∃ t n lo s : Nat, (lo = pl ∧ s = d ∧ d ≤ mid ∨ lo + (pl + g + h) = mid + d ∧ s = mid ∧ mid < d) ∧ lo ≤ t ∧ t ≤ s ∧ (t = lo ∨ r (t - 1) = true) ∧ (t = s ∨ r t = false) ∧
        ((if decide (m > (mid : Int)) then some (IntKind.i64.wrap (((mid + d : Nat) : Int) - b), (mid : Int)) else some (a, m) : Option (Int × Int)).bind fun x => cQ L a b m f rec F x.1 x.2) =
          cQ L a b m f rec (n + 1) (t : Int) (t : Int) := by
  by_cases v : mid < d
  · obtain ⟨lo, u⟩ : ∃ lo : Nat, lo + (pl + g + h) = mid + d := ⟨mid + d - (pl + g + h), by omega⟩
    obtain ⟨t, n, t1, t2, t3, t4, e⟩ := ME (f := f) L a b m rec mid d p l k hp r lo mid (by omega) (by omega) (by omega) (by omega) (fun q E G => i q (by omega) (by omega) (by omega) (by omega))
      (mid - lo) F lo mid (Nat.le_refl _) (by omega) (Nat.le_refl _) (by omega) (Nat.le_refl _) (.inl rfl) (.inl rfl)
    refine ⟨t, n, lo, mid, .inr ⟨u, rfl, v⟩, t1, t2, t3, t4, ?_⟩
    have j : m > (mid : Int) := by omega
    simp only [j, decide_true, if_true, Option.bind_some]
    rw [fU lo (by omega) (by omega), e]
  · obtain ⟨t, n, t1, t2, t3, t4, e⟩ := ME (f := f) L a b m rec mid d p l k hp r pl d (by omega) (by omega) (by omega) (by omega) (fun q E G => i q (by omega) (by omega) (by omega) (by omega))
      (d - pl) F pl d (Nat.le_refl _) (by omega) (Nat.le_refl _) (by omega) (Nat.le_refl _) (.inl rfl) (.inl rfl)
    refine ⟨t, n, pl, d, .inl ⟨rfl, rfl, by omega⟩, t1, t2, t3, t4, ?_⟩
    have j : ¬ (m > (mid : Int)) := by omega
    simp only [j, decide_false, Bool.false_eq_true, if_false, Option.bind_some]
    rw [← e, ← ha, ← k]
set_option maxHeartbeats 2000000 in
theorem M3 (h : SWO (fV c)) (hf : wL f c G) : ∀ (k : Nat) (A B : List (Formula × Nat)) (pre post : List Formula) (n : Nat) (a m b : Int), A.length + B.length ≤ k → 0 < A.length → 0 < B.length → k < n → gN (fV c) A → gN (fV c) B →
    (∀ x ∈ A, ∀ y ∈ B, x.2 < y.2) → (∀ x ∈ A ++ B, G x.1) → (pre ++ (A.map (·.1) ++ (B.map (·.1) ++ post))).length ≤ 400000 → a = (pre.length : Int) → m = ((pre.length + A.length : Nat) : Int) → b = ((pre.length + A.length + B.length : Nat) : Int) →
    ∃ u, dQ n (pre ++ (A.map (·.1) ++ (B.map (·.1) ++ post))) a m b f = some (pre ++ (u.map (·.1) ++ post)) ∧ gN (fV c) u ∧ u.Perm (A ++ B) := by
  intro k
  induction k with
  | zero => intro A B pre post n a m b h0 h1 h2; omega
  | succ k ih =>
    intro A B pre post n a m b h0 h1 h2 hn hA hB U T hl ha hm O
    obtain ⟨n, rfl⟩ := Nat.exists_eq_succ_of_ne_zero (by omega : n ≠ 0)
    have P := hl
    simp only [List.length_append, List.length_map] at P
    rw [dQ]
    unfold iE
    by_cases c1 : A.length = 1
    · obtain ⟨x, rfl⟩ := List.length_eq_one_iff.1 c1
      have : (IntKind.i64.wrap (m - a) == 1) = true := by rw [fU 1 (by simp at hm; omega) (by omega)]; rfl
      simp only [this, if_true]
      obtain ⟨u, u1, u2, u3⟩ := LQ h hf x B pre post a m b hB (fun y hy => U x (by simp) y hy) (fun y hy => T y (by simpa using hy)) (by simpa using hl) ha (by simpa using hm) (by simpa using O)
      exact ⟨u, by simpa using u1, u2, by simpa using u3⟩
    have n1 : (IntKind.i64.wrap (m - a) == 1) = false := by rw [fU A.length (by omega) (by omega)]; simp; omega
    simp only [n1, Bool.false_eq_true, if_false]
    by_cases c2 : B.length = 1
    · obtain ⟨y, rfl⟩ := List.length_eq_one_iff.1 c2
      have : (IntKind.i64.wrap (b - m) == 1) = true := by rw [fU 1 (by simp at O; omega) (by omega)]; rfl
      simp only [this, if_true]
      obtain ⟨u, u1, u2, u3⟩ := Mp h hf y A pre post a m hA (fun x W => U x W y (by simp)) (fun x W => T x (by simp at W ⊢; exact W.symm)) (by simpa using hl) ha hm
      exact ⟨u, by simpa using u1, u2, u3⟩
    have n2 : (IntKind.i64.wrap (b - m) == 1) = false := by rw [fU B.length (by omega) (by omega)]; simp; omega
    simp only [n2, Bool.false_eq_true, if_false]
    obtain ⟨F, hF, Z⟩ : ∃ F, F = bL ∧ 1000000 < F := ⟨bL, rfl, by rw [eG]; omega⟩
    rw [← hF]
    obtain ⟨mid, E⟩ : ∃ mid : Nat, mid = (pre.length + (pre.length + A.length + B.length)) / 2 := ⟨_, rfl⟩
    obtain ⟨d, j⟩ : ∃ d : Nat, d = pre.length + A.length := ⟨_, rfl⟩
    obtain ⟨p, hp⟩ : ∃ p : Nat, p + 1 = mid + d := ⟨mid + d - 1, by omega⟩
    have w : a + b = ((2 * mid : Nat) : Int) ∨ a + b = ((2 * mid + 1 : Nat) : Int) := by omega
    have I : IntKind.i64.wrap (Int.fdiv (IntKind.u64.wrap (IntKind.i64.wrap (a + b))) (2 ^ min (Int.toNat 1) (IntKind.bits .u64))) = (mid : Int) := by
      rcases w with h | h
      · rw [xg _ h (by omega), show 2 * mid / 2 = mid by omega]
      · rw [xg _ h (by omega), show (2 * mid + 1) / 2 = mid by omega]
    have D : m = (d : Int) := by omega
    have w1 : IntKind.i64.wrap ((mid : Int) + m) = ((mid + d : Nat) : Int) := fU _ (by omega) (by omega)
    obtain ⟨J, r⟩ : ∃ J : Nat → Bool, J = Jv c (A.map (·.1)) (B.map (·.1)) pre.length d p := ⟨_, rfl⟩
    have M : ∀ q, pre.length ≤ q → q < d → d ≤ p - q → p - q < d + B.length → Ask (pre ++ (A.map (·.1) ++ (B.map (·.1) ++ post))) f ((p - q : Nat) : Int) (q : Int) (!J q) := fun q g i q3 q4 => by rw [r]; exact MR hf A B pre post d p j T q g i q3 q4
    obtain ⟨t, n', lo, hi, a1, t1, t2, t3, t4, e⟩ := IG (f := f) F Z (pre ++ (A.map (·.1) ++ (B.map (·.1) ++ post))) (dQ n) pre.length A.length B.length mid d p a b m J (by omega) (by omega) (by omega) E j hp w ha D O M
    simp only [I, w1]
    rw [e, KS (f := f) _ a b m _ mid d t n' w D (by omega) (by omega) (by omega)]
    obtain ⟨A1, A2, rfl, L⟩ := qg (l := A) (n := t - pre.length) (by omega)
    obtain ⟨B1, B2, rfl, Y⟩ := qg (l := B) (n := mid - t) (by omega)
    simp only [List.length_append] at h0 h1 h2 P t1 t2 t3 t4 a1 hm O j E
    have Q : ∀ q x y, ((A1 ++ A2).map (·.1))[q - pre.length]? = some x → ((B1 ++ B2).map (·.1))[p - q - d]? = some y → J q = !fV c y x := fun q x y s v => by rw [r]; exact ES s v
    have l1 : Lk (fV c) A1 B2 := by
      intro A' z b' B' g i
      have g1 : 0 < A1.length := by rw [g]; simp
      have g2 : 0 < B2.length := by rw [i]; simp
      have R : J (t - 1) = true := by
        rcases t3 with t3 | t3
        · omega
        · exact t3
      have s := rE (xu A2 g)
      have v := rE (xw B1 i)
      rw [show A1.length - 1 = t - 1 - pre.length by omega] at s
      rw [show B1.length = p - (t - 1) - d by omega] at v
      rw [Q _ _ _ s v, Bool.not_eq_true'] at R
      exact .inr ⟨R, U z (by rw [g]; simp) b' (by rw [i]; simp)⟩
    have l2 : Lk (fV c) B1 A2 := by
      intro A' z b' B' g i
      have g1 : 0 < B1.length := by rw [g]; simp
      have g2 : 0 < A2.length := by rw [i]; simp
      have R : J t = false := by
        rcases t4 with t4 | t4
        · omega
        · exact t4
      have s := rE (xu B2 g)
      have v := rE (xw A1 i)
      rw [show B1.length - 1 = p - t - d by omega] at s
      rw [L] at v
      rw [Q _ _ _ v s, Bool.not_eq_false'] at R
      exact .inl R
    exact KA h (fun A B pre post a m b g i q3 => ih A B pre post n a m b g i q3 (by omega)) A1 A2 B1 B2 pre post a m b mid d t j (by rw [E]; congr 1; omega) L Y (by omega) (by omega) (by omega) (by omega) (by omega) hA hB U T (by omega) ha D (by rw [O]; congr 1; omega) l1 l2
end
end Go.Proofs.YtmlncblocfcmiaaGreat
namespace Go.Proofs.YtmlncblocfcmiaaGreat
open Go.RowKit
section
variable {c : Formula → Formula → Int} {G : Formula → Prop} {f : Formula × Formula → Option Int}
def qG (c : Formula → Formula → Int) : Nat → List (List (Formula × Nat)) → Prop
  | _, [] => True
  | o, A :: bs => gN (fV c) A ∧ (∀ x ∈ A, o ≤ x.2 ∧ x.2 < o + A.length) ∧ qG c (o + A.length) bs
def WB (s : Nat) : List (List (Formula × Nat)) → Prop
  | [] => True
  | A :: bs => A.length ≤ s ∧ (bs ≠ [] → A.length = s) ∧ WB s bs
theorem qG.append : ∀ {ds bs : List (List (Formula × Nat))} {o : Nat}, qG c o (ds ++ bs) ↔ qG c o ds ∧ qG c (o + ds.flatten.length) bs
  | [], bs, o => by simp [qG]
  | A :: ds, bs, o => by
    simp only [List.cons_append, qG, qG.append (ds := ds), List.flatten_cons, List.length_append, and_assoc, Nat.add_assoc]
def fm (bs : List (List (Formula × Nat))) : List Formula := bs.flatten.map (·.1)
theorem Da (a b : List (List (Formula × Nat))) : fm (a ++ b) = fm a ++ fm b := by simp [fm]
theorem FI (A : List (Formula × Nat)) (b : List (List (Formula × Nat))) : fm (A :: b) = A.map (·.1) ++ fm b := by simp [fm]
theorem kE (a : List (List (Formula × Nat))) : (fm a).length = a.flatten.length := by unfold fm; rw [List.length_map]
theorem H0 (ds : List (List (Formula × Nat))) (C : List (Formula × Nat)) : (ds ++ [C]).flatten.length = ds.flatten.length + C.length := by rw [List.flatten_append, List.length_append]; simp only [List.flatten_cons, List.flatten_nil, List.append_nil]
theorem Lu (C : List (Formula × Nat)) (bs : List (List (Formula × Nat))) : fm ([C] ++ bs) = C.map (·.1) ++ fm bs := by simp [fm]
theorem zo {R : List Formula} {o : Nat} {x : Formula × Nat} (h : x ∈ R.zipIdx o) : x.1 ∈ R := List.fst_mem_of_mem_zipIdx h
theorem WB.two {s : Nat} {A : List (Formula × Nat)} {bs : List (List (Formula × Nat))} (g : 0 < s) (h : WB s (A :: bs)) (d : s < (A :: bs).flatten.length) : A.length = s ∧ ∃ B a, bs = B :: a ∧ (B.length = s ∨ a = []) ∧ B.length ≤ s ∧ WB s a := by
  cases bs with
  | nil => simp at d; have := h.1; omega
  | cons B a =>
    refine ⟨h.2.1 (by simp), B, a, rfl, ?_, h.2.2.1, h.2.2.2.2⟩
    by_cases b : a = []
    · exact .inr b
    · exact .inl (h.2.2.2.1 b)
theorem E2 (h : SWO (fV c)) (u : wL f c G) {ds bs : List (List (Formula × Nat))} {A B : List (Formula × Nat)} (hO : qG c 0 (ds ++ A :: B :: bs)) (s : ∀ x ∈ (ds ++ A :: B :: bs).flatten, G x.1) (i : (fm (ds ++ A :: B :: bs)).length ≤ 400000) (q : 0 < A.length) (r : 0 < B.length) (a m b : Int) (ha : a = (ds.flatten.length : Int)) (hm : m = ((ds.flatten.length + A.length : Nat) : Int)) (t : b = ((ds.flatten.length + A.length + B.length : Nat) : Int)) :
    ∃ C, dQ bL (fm (ds ++ A :: B :: bs)) a m b f = some (fm ((ds ++ [C]) ++ bs)) ∧ qG c 0 ((ds ++ [C]) ++ bs) ∧ C.Perm (A ++ B) := by
  obtain ⟨h1, p⟩ := qG.append.1 hO
  obtain ⟨E, l, F, n, v⟩ := p
  have e : fm (ds ++ A :: B :: bs) = fm ds ++ (A.map (·.1) ++ (B.map (·.1) ++ fm bs)) := by rw [Da, FI, FI]
  rw [e] at i ⊢
  have j := i
  simp only [List.length_append, List.length_map, kE] at j
  obtain ⟨C, z, D, k⟩ := M3 h u (A.length + B.length) A B (fm ds) (fm bs) bL a m b (Nat.le_refl _) q r (by rw [eG]; omega) E F (fun x d y w => by have := (l x d).2; have := (n y w).1; omega)
    (fun x d => s x (by
      rw [List.flatten_append, List.flatten_cons, List.flatten_cons, List.mem_append, List.mem_append, List.mem_append]
      rcases List.mem_append.1 d with d | d
      · exact .inr (.inl d)
      · exact .inr (.inr (.inl d)))) i (by rw [ha, kE]) (by rw [hm, kE]) (by rw [t, kE])
  have g := k.length_eq
  simp only [List.length_append] at g
  refine ⟨C, by rw [z, List.append_assoc, Da, Lu], ?_, k⟩
  · rw [List.append_assoc, qG.append]
    refine ⟨h1, D, fun x d => ?_, ?_⟩
    · rcases List.mem_append.1 (k.mem_iff.1 d) with d | d
      · have := l x d; omega
      · have := n x d; omega
    · rw [g, ← Nat.add_assoc]; exact v
theorem Er {ds bs : List (List (Formula × Nat))} {A B C : List (Formula × Nat)} (h : C.Perm (A ++ B)) : ((ds ++ [C]) ++ bs).flatten.Perm (ds ++ A :: B :: bs).flatten := by
  simp only [List.flatten_append, List.flatten_cons, List.flatten_nil, List.append_nil, List.append_assoc]
  refine List.Perm.append_left _ ?_
  rw [← List.append_assoc]
  exact h.append_right _
theorem Ke (h : SWO (fV c)) (O : wL f c G) (s : Nat) (Q : 0 < s) (R : s ≤ 1000000) (N : Nat) (hN : N ≤ 400000) : ∀ (k : Nat) (bs ds : List (List (Formula × Nat))) (n : Nat) (a b : Int), bs.length ≤ k → k < n → qG c 0 (ds ++ bs) → (∀ x ∈ (ds ++ bs).flatten, G x.1) → (ds ++ bs).flatten.length = N → WB s bs → (∀ A ∈ ds, A.length = 2 * s) →
    a = (ds.flatten.length : Int) → b = ((ds.flatten.length + 2 * s : Nat) : Int) →
    ∃ es r, eL (N : Int) (s : Int) f n (fm (ds ++ bs)) a b = some (fm (es ++ r), (es.flatten.length : Int)) ∧ qG c 0 (es ++ r) ∧ (es ++ r).flatten.Perm (ds ++ bs).flatten ∧ WB s r ∧ r.flatten.length < 2 * s ∧ (∀ A ∈ es, A.length = 2 * s) := by
  intro k
  induction k with
  | zero =>
    intro bs ds n a b hk P hO q j t l ha L
    obtain ⟨n, rfl⟩ := Nat.exists_eq_succ_of_ne_zero (by omega : n ≠ 0)
    obtain rfl := List.eq_nil_of_length_eq_zero (Nat.le_zero.1 hk)
    simp only [List.append_nil] at j
    rw [eL]
    have : ¬ (b ≤ (N : Int)) := by omega
    simp only [this, decide_false, Bool.false_eq_true, if_false]
    exact ⟨ds, [], by rw [ha], hO, .refl _, trivial, by simp only [List.flatten_nil, List.length_nil]; omega, l⟩
  | succ k ih =>
    intro bs ds n a b hk P hO q j t l ha L
    obtain ⟨n, rfl⟩ := Nat.exists_eq_succ_of_ne_zero (by omega : n ≠ 0)
    rw [eL]
    by_cases hle : b ≤ (N : Int)
    · simp only [hle, decide_true, if_true]
      have d := j
      rw [List.flatten_append, List.length_append] at d
      cases bs with
      | nil => simp only [List.flatten_nil, List.length_nil] at d; omega
      | cons A bs =>
        obtain ⟨hA, B, i, rfl, m, I, u⟩ := WB.two Q t (by omega)
        have J : B.length = s := by
          rcases m with m | rfl
          · exact m
          · simp only [List.flatten_cons, List.flatten_nil, List.append_nil, List.length_append] at d; omega
        have Y : IntKind.i64.wrap (a + (s : Int)) = ((ds.flatten.length + A.length : Nat) : Int) := fU _ (by omega) (by omega)
        obtain ⟨C, U, W, v⟩ := E2 h O hO q (by rw [kE]; omega) (by omega) (by omega) a _ b ha Y (by omega)
        rw [U, Option.bind_some]
        have p := v.length_eq
        simp only [List.length_append] at p
        have Z : IntKind.i64.wrap (2 * (s : Int)) = ((2 * s : Nat) : Int) := fU _ (by omega) (by omega)
        have M : (ds ++ [C]).flatten.length = ds.flatten.length + 2 * s := by rw [H0]; omega
        have w3 : IntKind.i64.wrap (b + ((2 * s : Nat) : Int)) = (((ds ++ [C]).flatten.length + 2 * s : Nat) : Int) := fU _ (by omega) (by omega)
        have hp := Er (ds := ds) (bs := i) v
        rw [Z, w3]
        obtain ⟨es, r, w, y, z, D, E, F⟩ := ih i (ds ++ [C]) n b _ (by simp at hk; omega) (by omega) W (fun x T => q x (hp.mem_iff.1 T)) (by rw [hp.length_eq, j]) u (fun X g => by
          rcases List.mem_append.1 g with g | g
          · exact l X g
          · simp at g; rw [g]; omega) (by rw [M]; omega) rfl
        exact ⟨es, r, w, y, z.trans hp, D, E, F⟩
    · simp only [hle, decide_false, Bool.false_eq_true, if_false]
      refine ⟨ds, bs, by rw [ha], hO, .refl _, t, ?_, l⟩
      rw [List.flatten_append, List.length_append] at j
      omega
theorem WB.BW {t : Nat} : ∀ {es : List (List (Formula × Nat))} {C : List (Formula × Nat)}, (∀ A ∈ es, A.length = t) → C.length ≤ t → WB t (es ++ [C])
  | [], C, _, a => ⟨a, fun h => absurd rfl h, trivial⟩
  | E :: es, C, h, a => ⟨by rw [h E (by simp)]; omega, fun _ => h E (by simp), WB.BW (fun A b => h A (by simp [b])) a⟩
theorem G7 {s : Nat} {r : List (List (Formula × Nat))} {o : Nat} (b : WB s r) (d : r.flatten.length ≤ s) (hO : qG c o r) : gN (fV c) r.flatten ∧ ∀ x ∈ r.flatten, o ≤ x.2 ∧ x.2 < o + r.flatten.length := by
  cases r with
  | nil => exact ⟨.nil, fun x g => by cases g⟩
  | cons A r =>
    have : r.flatten = [] := by
      by_cases a : r = []
      · rw [a]; rfl
      · have := b.2.1 a
        rw [List.flatten_cons, List.length_append] at d
        exact List.eq_nil_of_length_eq_zero (by omega)
    rw [List.flatten_cons, this, List.append_nil]
    exact ⟨hO.1, hO.2.1⟩
theorem IA (h : SWO (fV c)) (R : wL f c G) (N : Nat) (hN : N ≤ 400000) : ∀ (k s : Nat) (bs : List (List (Formula × Nat))) (n : Nat), N - s ≤ k → k < n → 0 < s → s ≤ 1000000 → qG c 0 bs → (∀ x ∈ bs.flatten, G x.1) → bs.flatten.length = N → WB s bs →
    ∃ u, eo (N : Int) f n (fm bs) (s : Int) = some (u.map (·.1)) ∧ gN (fV c) u ∧ u.Perm bs.flatten := by
  intro k
  induction k with
  | zero =>
    intro s bs n hk hn E m hO l i b
    obtain ⟨n, rfl⟩ := Nat.exists_eq_succ_of_ne_zero (by omega : n ≠ 0)
    rw [eo]
    have : ¬ ((s : Int) < (N : Int)) := by omega
    simp only [this, decide_false, Bool.false_eq_true, if_false]
    refine ⟨bs.flatten, rfl, ?_, .refl _⟩
    cases bs with
    | nil => exact .nil
    | cons A bs =>
      have : bs.flatten = [] := by
        by_cases d : bs = []
        · rw [d]; rfl
        · have := b.2.1 d
          rw [List.flatten_cons, List.length_append] at i
          exact List.eq_nil_of_length_eq_zero (by omega)
      rw [List.flatten_cons, this, List.append_nil]
      exact hO.1
  | succ k ih =>
    intro s bs n hk hn E m hO l i b
    by_cases a8 : s < N
    · obtain ⟨n, rfl⟩ := Nat.exists_eq_succ_of_ne_zero (by omega : n ≠ 0)
      rw [eo]
      have : ((s : Int) < (N : Int)) := by omega
      simp only [this, decide_true, if_true]
      have w1 : IntKind.i64.wrap (2 * (s : Int)) = ((2 * s : Nat) : Int) := fU _ (by omega) (by omega)
      have w0 : IntKind.i64.wrap ((s : Int) * 2) = ((2 * s : Nat) : Int) := fU _ (by omega) (by omega)
      have a7 : bs.length ≤ 2000000 := by
        have : ∀ {bs : List (List (Formula × Nat))}, WB s bs → bs.length ≤ bs.flatten.length + 1 := by
          intro bs
          induction bs with
          | nil => intro _; simp
          | cons A bs F =>
            intro b
            by_cases d : bs = []
            · subst d; simp
            · have := b.2.1 d
              have := F b.2.2
              simp only [List.length_cons, List.flatten_cons, List.length_append]
              omega
        have := this b
        omega
      obtain ⟨es, r, L, M, a, O, P, Q⟩ := Ke h R s E m N hN bs.length bs [] bL 0 ((2 * s : Nat) : Int) (Nat.le_refl _) (by rw [eG]; omega) (by simpa using hO) (by simpa using l) (by simpa using i) b (by simp) rfl (by simp)
      simp only [List.nil_append] at L a
      rw [w1, L, Option.bind_some, w0]
      have j := a.length_eq
      rw [i, List.flatten_append, List.length_append] at j
      have w2 : IntKind.i64.wrap ((es.flatten.length : Int) + (s : Int)) = ((es.flatten.length + s : Nat) : Int) := fU _ (by omega) (by omega)
      simp only [w2]
      by_cases hm : es.flatten.length + s < N
      · have : (((es.flatten.length + s : Nat) : Int) < (N : Int)) := by omega
        simp only [this, decide_true, if_true, gi]
        cases r with
        | nil => simp only [List.flatten_nil, List.length_nil] at j; omega
        | cons A r =>
          obtain ⟨hA, B, W, rfl, q, a1, a6⟩ := WB.two E O (by omega)
          have D : W = [] := by
            rcases q with q | q
            · by_cases hr : W = []
              · exact hr
              · simp only [List.flatten_cons, List.length_append] at P; omega
            · exact q
          subst D
          simp only [List.flatten_cons, List.flatten_nil, List.append_nil, List.length_append] at j P
          obtain ⟨C, q1, T, U⟩ := E2 h R M (fun x p => l x (a.mem_iff.1 p)) (by rw [kE, a.length_eq]; omega) (by omega) (by omega) (es.flatten.length : Int) ((es.flatten.length + s : Nat) : Int) (N : Int) rfl (by omega) (by omega)
          rw [q1, Option.bind_some]
          have v := U.length_eq
          simp only [List.length_append] at v
          have hp := (Er (ds := es) (bs := []) U).trans a
          simp only [List.append_nil] at T hp ⊢
          obtain ⟨u, I, J, t⟩ := ih (2 * s) (es ++ [C]) n (by omega) (by omega) (by omega) (by omega) T (fun x p => l x (hp.mem_iff.1 p)) (by rw [hp.length_eq, i]) (WB.BW Q (by omega))
          exact ⟨u, I, J, t.trans hp⟩
      · have : ¬ (((es.flatten.length + s : Nat) : Int) < (N : Int)) := by omega
        simp only [this, decide_false, Bool.false_eq_true, if_false, Option.bind_some]
        obtain ⟨w, y⟩ := qG.append.1 M
        obtain ⟨Y, Z⟩ := G7 O (by omega) y
        have z : fm (es ++ r) = fm (es ++ [r.flatten]) := by simp [fm]
        have g : (es ++ [r.flatten]).flatten = (es ++ r).flatten := by simp
        rw [z]
        obtain ⟨u, I, J, t⟩ := ih (2 * s) (es ++ [r.flatten]) n (by omega) (by omega) (by omega) (by omega) (qG.append.2 ⟨w, Y, Z, trivial⟩) (fun x p => l x (a.mem_iff.1 (by rw [← g]; exact p))) (by rw [g, a.length_eq, i]) (WB.BW Q (by omega))
        exact ⟨u, I, J, by rw [g] at t; exact t.trans a⟩
    · obtain ⟨n, rfl⟩ := Nat.exists_eq_succ_of_ne_zero (by omega : n ≠ 0)
      rw [eo]
      have : ¬ ((s : Int) < (N : Int)) := by omega
      simp only [this, decide_false, Bool.false_eq_true, if_false]
      refine ⟨bs.flatten, rfl, ?_, .refl _⟩
      cases bs with
      | nil => exact .nil
      | cons A bs =>
        have : bs.flatten = [] := by
          by_cases d : bs = []
          · rw [d]; rfl
          · have := b.2.1 d
            rw [List.flatten_cons, List.length_append] at i
            exact List.eq_nil_of_length_eq_zero (by omega)
        rw [List.flatten_cons, this, List.append_nil]
        exact hO.1
theorem B9 : ∀ (l : List Formula) (o : Nat), (l.zipIdx o).Pairwise (fun x y => x.2 < y.2)
  | [], o => by simp
  | x :: l, o => by
    rw [List.zipIdx_cons, List.pairwise_cons]
    refine ⟨fun y d => ?_, B9 l (o + 1)⟩
    obtain ⟨a, b⟩ := y
    have := List.le_snd_of_mem_zipIdx d
    simp only at this ⊢; omega
theorem Fp (l : List Formula) (o : Nat) : ∀ x ∈ l.zipIdx o, o ≤ x.2 ∧ x.2 < o + l.length := by
  rintro ⟨a, b⟩ d
  have h1 := List.le_snd_of_mem_zipIdx d
  have g := List.snd_lt_add_of_mem_zipIdx d
  simp only at h1 g ⊢; omega
theorem Hj (h : SWO (fV c)) (k : wL f c G) (N : Nat) (s : N ≤ 300000) (R : List Formula) (ds : List (List (Formula × Nat))) (n : Nat) (a b : Int) (y : 0 < n) (hO : qG c 0 ds) (m : ∀ A ∈ ds, A.length = 20) (p : ∀ x ∈ ds.flatten, G x.1) (j : ∀ x ∈ R, G x) (w : ds.flatten.length + R.length = N) (q : R.length < 20) (ha : a = (ds.flatten.length : Int)) (t : b = ((ds.flatten.length + 20 : Nat) : Int)) :
    ∃ u, er (N : Int) f n (fm ds ++ R) a b = some (u.map (·.1)) ∧ gN (fV c) u ∧ u.Perm (ds.flatten ++ R.zipIdx ds.flatten.length) := by
  obtain ⟨n, rfl⟩ := Nat.exists_eq_succ_of_ne_zero (by omega : n ≠ 0)
  rw [er]
  have hle : ¬ (b ≤ (N : Int)) := by omega
  simp only [hle, decide_false, Bool.false_eq_true, if_false, gi]
  obtain ⟨u, l, r, g⟩ := Fv h k (fm ds) [] (R.zipIdx ds.flatten.length) a (N : Int) (B9 _ _) (fun x d => j x.1 (zo d)) (by simp only [List.length_append, kE, List.length_map, List.length_zipIdx, List.length_nil]; omega) (by rw [kE]; exact ha) (by rw [kE, List.length_zipIdx]; omega)
  rw [List.zipIdx_map_fst, List.append_nil, List.append_nil] at l
  have i := g.length_eq
  rw [List.length_zipIdx] at i
  have e : fm ds ++ u.map (·.1) = fm (ds ++ [u]) := by simp [fm]
  have hp : (ds ++ [u]).flatten.Perm (ds.flatten ++ R.zipIdx ds.flatten.length) := by
    rw [List.flatten_append]
    refine List.Perm.append_left _ ?_
    simpa using g
  rw [l, Option.bind_some, e]
  obtain ⟨v, v1, v2, v3⟩ := IA h k N (by omega) N 20 (ds ++ [u]) bL (by omega) (by rw [eG]; omega) (by omega) (by omega) (qG.append.2 ⟨hO, r, fun x d => by have := Fp R ds.flatten.length x (g.mem_iff.1 d); omega, trivial⟩) (fun x d => by
    rw [List.flatten_append, List.mem_append] at d
    rcases d with d | d
    · exact p x d
    · simp only [List.flatten_cons, List.flatten_nil, List.append_nil] at d
      exact j x.1 (zo (g.mem_iff.1 d))) (by rw [hp.length_eq, List.length_append, List.length_zipIdx]; omega) (WB.BW m (by omega))
  exact ⟨v, v1, v2, v3.trans hp⟩
theorem I0 (h : SWO (fV c)) (w : wL f c G) (N : Nat) (D : N ≤ 300000) : ∀ (k : Nat) (R : List Formula) (ds : List (List (Formula × Nat))) (n : Nat) (a b : Int), R.length ≤ k → k < n → qG c 0 ds → (∀ A ∈ ds, A.length = 20) → (∀ x ∈ ds.flatten, G x.1) → (∀ x ∈ R, G x) → ds.flatten.length + R.length = N →
    a = (ds.flatten.length : Int) → b = ((ds.flatten.length + 20 : Nat) : Int) →
    ∃ u, er (N : Int) f n (fm ds ++ R) a b = some (u.map (·.1)) ∧ gN (fV c) u ∧ u.Perm (ds.flatten ++ R.zipIdx ds.flatten.length) := by
  intro k
  induction k with
  | zero =>
    intro R ds n a b hk E hO p q j r ha t
    obtain rfl := List.eq_nil_of_length_eq_zero (Nat.le_zero.1 hk)
    exact Hj h w N D [] ds n a b E hO p q j r (by simp) ha t
  | succ k ih =>
    intro R ds n a b hk E hO p q j r ha t
    by_cases z : R.length < 20
    · exact Hj h w N D R ds n a b (by omega) hO p q j r z ha t
    obtain ⟨n, rfl⟩ := Nat.exists_eq_succ_of_ne_zero (by omega : n ≠ 0)
    obtain ⟨R1, R2, rfl, m⟩ := qg (l := R) (n := 20) (by omega)
    rw [List.length_append] at r hk
    rw [er]
    have hle : b ≤ (N : Int) := by omega
    simp only [hle, decide_true, if_true]
    obtain ⟨u, F, I, s⟩ := Fv h w (fm ds) R2 (R1.zipIdx ds.flatten.length) a b (B9 _ _) (fun x d => j x.1 (by simp [zo d])) (by simp only [List.length_append, kE, List.length_map, List.length_zipIdx, List.length_nil]; omega) (by rw [kE]; exact ha) (by rw [kE, List.length_zipIdx]; omega)
    rw [List.zipIdx_map_fst] at F
    rw [F, Option.bind_some]
    have g := s.length_eq
    rw [List.length_zipIdx, m] at g
    have y : (ds ++ [u]).flatten.length = ds.flatten.length + 20 := by rw [H0, g]
    have J : IntKind.i64.wrap (b + 20) = (((ds ++ [u]).flatten.length + 20 : Nat) : Int) := fU _ (by omega) (by omega)
    have e : fm ds ++ (u.map (·.1) ++ R2) = fm (ds ++ [u]) ++ R2 := by simp [fm]
    rw [e, J]
    obtain ⟨v, v1, v2, v3⟩ := ih R2 (ds ++ [u]) n b _ (by omega) (by omega) (qG.append.2 ⟨hO, I, fun x d => by have := Fp R1 ds.flatten.length x (s.mem_iff.1 d); omega, trivial⟩) (fun A i => by
      rcases List.mem_append.1 i with i | i
      · exact p A i
      · simp at i; rw [i]; exact g) (fun x d => by
      rw [List.flatten_append, List.mem_append] at d
      rcases d with d | d
      · exact q x d
      · simp only [List.flatten_cons, List.flatten_nil, List.append_nil] at d
        exact j x.1 (by simp [zo (s.mem_iff.1 d)])) (fun x d => j x (by simp [d])) (by omega) (by omega) rfl
    refine ⟨v, v1, v2, v3.trans ?_⟩
    rw [y, List.flatten_append, List.zipIdx_append, m, List.append_assoc]
    refine List.Perm.append_left _ ?_
    simp only [List.flatten_cons, List.flatten_nil, List.append_nil]
    exact s.append_right _
theorem GM (h : SWO (fV c)) (g : wL f c G) (l : List Formula) (d : ∀ x ∈ l, G x) (i : l.length ≤ 300000) : iq l f = some (ET (fV c) l) := by
  unfold iq kp
  obtain ⟨u, a, j, b⟩ := I0 h g l.length i l.length l [] bL 0 20 (Nat.le_refl _) (by rw [eG]; omega) trivial (by simp) (by simp) d (by simp) rfl rfl
  simp only [fm, List.flatten_nil, List.map_nil, List.nil_append, List.length_nil] at a b
  rw [a, Option.bind_some, Jw h j b]
end
end Go.Proofs.YtmlncblocfcmiaaGreat
namespace Go.Proofs.YtmlncblocfcmiaaGreat
open Go.RowKit
theorem D4 {P : Formula → Prop} (h : ∀ f, (∀ k ∈ f.Kids, P k) → P f) : ∀ f, P f := by
  intro f
  refine Formula.rec (motive_1 := P) (motive_2 := fun ks => ∀ k ∈ ks, P k) ?_ ?_ ?_ f
  · intro o k r ks ih; exact h _ ih
  · intro k hk; cases hk
  · intro k ks h1 b x a
    rcases List.mem_cons.1 a with rfl | a
    · exact h1
    · exact b x a
mutual
def cD : Formula → Nat
  | ⟨_, _, _, ks⟩ => 1 + nodesL ks
def nodesL : List Formula → Nat
  | [] => 0
  | k :: ks => cD k + nodesL ks
end
mutual
def gq : Formula → Nat
  | ⟨_, _, _, ks⟩ => deepL ks + 1
def deepL : List Formula → Nat
  | [] => 0
  | k :: ks => max (gq k) (deepL ks)
end
theorem gC (f : Formula) : cD f = 1 + nodesL f.Kids := by cases f; rw [cD]
theorem fg (f : Formula) : gq f = deepL f.Kids + 1 := by cases f; rw [gq]
theorem mO : ∀ {ks : List Formula} {k : Formula}, k ∈ ks → cD k ≤ nodesL ks
  | x :: ks, k, h => by
    rw [nodesL]
    rcases List.mem_cons.1 h with rfl | h
    · omega
    · have := mO h; omega
theorem kh : ∀ {ks : List Formula} {k : Formula}, k ∈ ks → gq k ≤ deepL ks
  | x :: ks, k, h => by
    rw [deepL]
    rcases List.mem_cons.1 h with rfl | h
    · omega
    · have := kh h; omega
theorem qp : ∀ f : Formula, gq f ≤ cD f := by
  refine D4 fun f ih => ?_
  rw [fg, gC]
  have : ∀ ks : List Formula, (∀ k ∈ ks, gq k ≤ cD k) → deepL ks ≤ nodesL ks := by
    intro ks
    induction ks with
    | nil => intro _; rw [deepL]; omega
    | cons k ks a =>
      intro h
      have := a (fun x b => h x (by simp [b]))
      have := h k (by simp)
      rw [deepL, nodesL]; omega
  have := this f.Kids ih
  omega
theorem jh : ∀ ks : List Formula, ks.length ≤ nodesL ks
  | [] => by rw [nodesL]; simp
  | k :: ks => by have := jh ks; have := gC k; rw [nodesL, List.length_cons]; omega
theorem HL (tf : Nat) (hm : tf ≤ 4096) (rec : Formula → Int → Option (Int × Int)) : ∀ (ks : List Formula), (∀ k ∈ ks, ∀ q : Nat, q ≤ 4096 → ∃ n d : Nat, rec k (q : Int) = some ((n : Int), (d : Int)) ∧ 1 ≤ n ∧ n ≤ cD k ∧ d ≤ cD k ∧ (cD k ≤ q → n = cD k ∧ d = gq k) ∧ (q < cD k → q < n)) → ∀ x y : Nat, x + nodesL ks ≤ 100000000 →
    ∃ n d : Nat, iI (tf : Int) rec ks (x : Int) (y : Int) = some ((n : Int), (d : Int)) ∧ x ≤ n ∧ n ≤ x + nodesL ks ∧ d ≤ max y (nodesL ks) ∧ (x + nodesL ks ≤ tf → n = x + nodesL ks ∧ d = max y (deepL ks)) ∧ (tf < x + nodesL ks → tf < n)
  | [], _, x, y, _ => by
    rw [iI, nodesL, deepL]
    exact ⟨x, y, rfl, by omega, by omega, by omega, fun _ => ⟨by omega, by omega⟩, fun h => by omega⟩
  | k :: ks, b, x, y, l => by
    rw [nodesL] at l ⊢
    rw [iI, deepL]
    by_cases g : (x : Int) > (tf : Int)
    · simp only [g, decide_true, if_true]
      exact ⟨x, y, rfl, by omega, by omega, by omega, fun _ => by omega, fun h => by omega⟩
    · simp only [g, decide_false, Bool.false_eq_true, if_false]
      have r : IntKind.i64.wrap ((tf : Int) - (x : Int)) = ((tf - x : Nat) : Int) := by rw [cP (by omega) (by omega)]; omega
      obtain ⟨m, d, e, h1, u, v, a, j⟩ := b k (by simp) (tf - x) (by omega)
      rw [r, e, Option.bind_some]
      have s : IntKind.i64.wrap ((x : Int) + (m : Int)) = ((x + m : Nat) : Int) := by rw [cP (by omega) (by omega)]; omega
      have t : (if (d : Int) > (y : Int) then (d : Int) else (y : Int)) = ((max y d : Nat) : Int) := by split <;> omega
      simp only [s, t]
      obtain ⟨n, i, e', g1, g2, g3, g4, g5⟩ := HL tf hm rec ks (fun z p => b z (by simp [p])) (x + m) (max y d) (by omega)
      refine ⟨n, i, e', by omega, by omega, by omega, fun h => ?_, fun h => ?_⟩
      · obtain ⟨rfl, rfl⟩ := a (by omega)
        obtain ⟨rfl, rfl⟩ := g4 (by omega)
        exact ⟨by omega, by omega⟩
      · by_cases hk : tf - x < cD k
        · have := j hk; omega
        · obtain ⟨rfl, _⟩ := a (by omega)
          exact g5 (by omega)
theorem Ib : ∀ (n : Nat) (f : Formula), gq f ≤ n → cD f ≤ 50000000 → ∀ q : Nat, q ≤ 4096 → ∃ m d : Nat, gM n f (q : Int) = some ((m : Int), (d : Int)) ∧ 1 ≤ m ∧ m ≤ cD f ∧ d ≤ cD f ∧ (cD f ≤ q → m = cD f ∧ d = gq f) ∧ (q < cD f → q < m) := by
  intro n
  induction n with
  | zero => intro f h; rw [fg] at h; omega
  | succ n ih =>
    intro f i s q a
    rw [fg] at i
    have j := gC f
    rw [gM]
    unfold oR
    obtain ⟨m, d, e, h1, p, r, b, g⟩ := HL q a (gM n) f.Kids (fun k hk q a => ih k (by have := kh hk; omega) (by have := mO hk; omega) q a) 1 0 (by omega)
    have e' : iI (q : Int) (gM n) f.Kids 1 0 = some ((m : Int), (d : Int)) := e
    rw [e', Option.bind_some]
    have l : IntKind.i64.wrap ((d : Int) + 1) = ((d + 1 : Nat) : Int) := by rw [cP (by omega) (by omega)]; omega
    simp only [l]
    refine ⟨m, d + 1, rfl, h1, by omega, by omega, fun h => ?_, fun h => g (by omega)⟩
    obtain ⟨rfl, rfl⟩ := b (by omega)
    rw [fg]
    exact ⟨by omega, by omega⟩
theorem Jz (f : Formula) (g : cD f ≤ 50000000) : ql f = some (if cD f ≤ 4096 then ((cD f : Int), (gq f : Int)) else (0, 0)) := by
  unfold ql
  have := qp f
  obtain ⟨m, d, e, h1, i, j, a, b⟩ := Ib bL f (by rw [eG]; omega) g 4096 (Nat.le_refl _)
  have e' : gM bL f 4096 = some ((m : Int), (d : Int)) := e
  rw [e', Option.bind_some]
  by_cases h : cD f ≤ 4096
  · obtain ⟨rfl, rfl⟩ := a h
    have : ¬ ((cD f : Int) > 4096) := by omega
    simp [this, h]
  · have := b (by omega)
    have : ((m : Int) > 4096) := by omega
    simp [this, h]
def jl : aA := ⟨zS, zS⟩
def xi (f : Formula) : Bool := if f.Op = 1 then ez f.aA && decide (f.Kids.length = 0) && decide (f.K = 0) else if f.Op = 2 ∨ f.Op = 3 then bB f.aA jl && decide (f.K = 0) else decide (f.Op = 4) && bB f.aA jl && decide (0 ≤ f.K) && decide (f.K ≤ (f.Kids.length : Int)) && decide (1 ≤ f.Kids.length)
theorem JN (f : Formula) : qD f = some (xi f) := by
  unfold qD xi
  simp only [sH, Option.bind_some, gi]
  by_cases h1 : f.Op = 1
  · simp only [h1, beq_self_eq_true, if_true]
    cases p : ez f.aA
    · simp
    · by_cases k : f.Kids.length = 0
      · have : f.Kids = [] := List.eq_nil_of_length_eq_zero k
        by_cases hk : f.K = 0 <;> simp [this, hk]
      · have : ((f.Kids.length : Int) == 0) = false := by simp; intro h; exact k (by simp [h])
        simp only [if_true, Option.bind_some, this, Bool.false_eq_true, if_false, k, decide_false, Bool.and_false, Bool.false_and]
  · have m : (f.Op == 1) = false := by simpa using h1
    simp only [m, Bool.false_eq_true, if_false, h1]
    by_cases d : f.Op = 2 ∨ f.Op = 3
    · have i : (if f.Op == 2 then some (f.Op == 2) else some (f.Op == 3)) = some true := by
        rcases d with h | h <;> simp [h]
      simp only [i, Option.bind_some, if_true, d]
      cases g : bB f.aA ⟨zS, zS⟩ <;> by_cases hk : f.K = 0 <;> simp [jl, g, hk]
    · have i : (if f.Op == 2 then some (f.Op == 2) else some (f.Op == 3)) = some false := by
        have a : f.Op ≠ 2 := fun h => d (.inl h)
        have b : f.Op ≠ 3 := fun h => d (.inr h)
        simp [a, b]
      simp only [i, Option.bind_some, Bool.false_eq_true, if_false, d]
      by_cases j : f.Op = 4
      · simp only [j, beq_self_eq_true, if_true, Option.bind_some, decide_true, Bool.true_and]
        cases g : bB f.aA ⟨zS, zS⟩
        · simp [jl, g]
        · by_cases c1 : 0 ≤ f.K <;> by_cases c2 : f.K ≤ (f.Kids.length : Int) <;> by_cases l : 1 ≤ f.Kids.length <;> simp [jl, g, c1, c2, l] <;> omega
      · have n : (f.Op == 4) = false := by simpa using j
        simp [n, j]
mutual
def mI : Formula → Bool
  | ⟨o, n, r, ks⟩ => xi ⟨o, n, r, ks⟩ && decide (ks.length ≤ 8) && wellL ks
def wellL : List Formula → Bool
  | [] => true
  | k :: ks => mI k && wellL ks
end
theorem Ax (f : Formula) : mI f = (xi f && decide (f.Kids.length ≤ 8) && wellL f.Kids) := by cases f; rw [mI]
theorem yH : ∀ ks : List Formula, wellL ks = ks.all mI
  | [] => rfl
  | k :: ks => by rw [wellL, yH ks]; rfl
theorem Ed (f : Formula → Option Bool) : ∀ (l : List Formula) (i : Nat), fM f l i = tk f l i
  | [], i => by rw [fM]; rfl
  | x :: l, i => by
    rw [fM, tk]
    cases f x with
    | none => rfl
    | some b =>
      simp only [Option.bind_some]
      rw [Ed f l (i + 1)]
theorem zU (f : Formula → Option Bool) (p : Formula → Bool) (l : List Formula) (h : ∀ x ∈ l, f x = some (p x)) : gz l f = some (l.any p) := by
  unfold gz ml
  rw [Ed]
  rcases tg f p l 0 h with ⟨e, h1⟩ | ⟨A, x, B, rfl, h1, a, e⟩
  · rw [e, Option.bind_some]
    have : l.any p = false := by rw [List.any_eq_false]; intro x b; rw [h1 x b]; simp
    rw [this]; rfl
  · rw [e, Option.bind_some]
    have : (A ++ x :: B).any p = true := by simp [a]
    rw [this]
    congr 1
theorem Iw : ∀ (n : Nat) (f : Formula), gq f ≤ n → kl n f = some (mI f) := by
  intro n
  induction n with
  | zero => intro f h; rw [fg] at h; omega
  | succ n ih =>
    intro f h
    rw [fg] at h
    rw [kl]
    unfold oQ
    rw [JN, Option.bind_some, Ax, zU _ (fun k => !mI k) f.Kids (fun k hk => by unfold nI; rw [ih k (by have := kh hk; omega)]; rfl)]
    rw [yH]
    have e : (!(f.Kids.any fun k => !mI k)) = f.Kids.all mI := by rw [List.all_eq_not_any_not]
    cases xi f
    · rfl
    · by_cases a : f.Kids.length ≤ 8
      · have : ((f.Kids.length : Int) ≤ 8) := by omega
        simp [a, this, e]
      · have : ¬ ((f.Kids.length : Int) ≤ 8) := by omega
        simp [a, this]
def fR (f : Formula) : Bool := decide (cD f ≤ 64) && decide (gq f ≤ 6) && mI f
theorem xm (f : Formula) (b : cD f ≤ 50000000) : ku f = some (fR f) := by
  unfold ku fR
  have d := qp f
  rw [Jz f b, Option.bind_some, Iw bL f (by rw [eG]; omega)]
  have h1 := gC f
  by_cases h : cD f ≤ 4096
  · simp only [h, if_true]
    have a : ((cD f : Int) ≥ 1) := by omega
    simp only [a, decide_true, if_true, Option.bind_some, gi]
    by_cases c1 : cD f ≤ 64 <;> by_cases c2 : gq f ≤ 6
    · have d1 : ((cD f : Int) ≤ 64) := by omega
      have d2 : ((gq f : Int) ≤ 6) := by omega
      simp [c1, c2, d1, d2]
    · have d1 : ((cD f : Int) ≤ 64) := by omega
      have d2 : ¬ ((gq f : Int) ≤ 6) := by omega
      simp [c1, c2, d1, d2]
    · have d1 : ¬ ((cD f : Int) ≤ 64) := by omega
      simp [c1, d1]
    · have d1 : ¬ ((cD f : Int) ≤ 64) := by omega
      simp [c1, d1]
  · simp only [h, if_false]
    have : ¬ cD f ≤ 64 := by omega
    simp [this]
theorem Formula.ext' {a b : Formula} (h1 : a.Op = b.Op) (d : a.K = b.K) (g : a.aA = b.aA) (h : a.Kids = b.Kids) : a = b := by
  cases a; cases b; simp only at h1 d g h; subst h1 d g h; rfl
theorem G2 (g : Formula × Formula → Option Bool) : ∀ (l m : List Formula), l.length = m.length → (∀ x ∈ l, ∀ y, ∃ b, g (x, y) = some b ∧ (b = true ↔ x = y)) → ∀ (A : List Formula),
    ∃ b, dB (A ++ m) g l A.length = some b ∧ (b = true ↔ l = m)
  | [], m, d, _, A => by
    obtain rfl := List.eq_nil_of_length_eq_zero d.symm
    exact ⟨true, rfl, by simp⟩
  | x :: l, [], d, _, A => by simp at d
  | x :: l, y :: m, d, i, A => by
    rw [dB]
    obtain ⟨b, e, h⟩ := i x (by simp) y
    have i1 : dU (A ++ y :: m) (A.length : Int) = some y := fk _ _ _ _ rfl
    rw [i1, Option.bind_some, e, Option.bind_some]
    cases b with
    | false =>
      refine ⟨false, rfl, ?_⟩
      have : x ≠ y := fun a => by have := h.2 a; simp at this
      simp [this]
    | true =>
      have a := h.1 rfl
      obtain ⟨b, j, p⟩ := G2 g l m (by simpa using d) (fun z q => i z (by simp [q])) (A ++ [y])
      simp only [Bool.not_true, Bool.false_eq_true, if_false]
      have k : A ++ y :: m = (A ++ [y]) ++ m := by simp
      have n : A.length + 1 = (A ++ [y]).length := by simp
      rw [k, n, j]
      exact ⟨b, rfl, by rw [p]; simp [a]⟩
theorem Kj : ∀ (n : Nat) (f : Formula), gq f ≤ n → ∀ g, ∃ b, gF n f g = some b ∧ (b = true ↔ f = g) := by
  intro n
  induction n with
  | zero => intro f h; rw [fg] at h; omega
  | succ n ih =>
    intro f h g
    rw [fg] at h
    rw [gF]
    unfold pB
    by_cases h1 : f.Op = g.Op
    · by_cases a : f.K = g.K
      · by_cases d : f.aA = g.aA
        · have j : bB f.aA g.aA = true := bD.2 d
          simp only [h1, a, j, beq_self_eq_true, if_true, Option.bind_some]
          unfold eY
          by_cases i : f.Kids.length = g.Kids.length
          · have : ((f.Kids.length : Int) != (g.Kids.length : Int)) = false := by simp [i]
            simp only [this, Bool.false_eq_true, if_false]
            obtain ⟨b, e, m⟩ := G2 (fun x => gF n x.1 x.2) f.Kids g.Kids i (fun x p y => ih x (by have := kh p; omega) y) []
            simp only [List.nil_append, List.length_nil] at e
            rw [e]
            refine ⟨b, by simp, m.trans ⟨fun hk => Formula.ext' h1 a d hk, fun hk => by rw [hk]⟩⟩
          · have : ((f.Kids.length : Int) != (g.Kids.length : Int)) = true := by simp; omega
            simp only [this, if_true]
            exact ⟨false, rfl, by simp; intro hk; rw [hk] at i; exact i rfl⟩
        · have j : bB f.aA g.aA = false := by rw [← Bool.not_eq_true, bD]; exact d
          simp only [h1, a, j, beq_self_eq_true, if_true, Option.bind_some, Bool.false_eq_true, if_false]
          exact ⟨false, rfl, by simp; intro hk; rw [hk] at d; exact d rfl⟩
      · have l : (f.K == g.K) = false := by simpa using a
        simp only [h1, l, beq_self_eq_true, if_true, Option.bind_some, Bool.false_eq_true, if_false]
        exact ⟨false, rfl, by simp; intro hk; rw [hk] at a; exact a rfl⟩
    · have k : (f.Op == g.Op) = false := by simpa using h1
      simp only [k, Option.bind_some, Bool.false_eq_true, if_false]
      exact ⟨false, rfl, by simp; intro hk; rw [hk] at h1; exact h1 rfl⟩
end Go.Proofs.YtmlncblocfcmiaaGreat
namespace Go.Proofs.YtmlncblocfcmiaaGreat
open Go.RowKit
mutual
def sw : Formula → List Int
  | ⟨o, k, r, ks⟩ => o :: (if o = 1 then lH r else (if o = 4 then [k] else []) ++ ((ks.length : Int) :: bytesFL ks))
def bytesFL : List Formula → List Int
  | [] => []
  | k :: ks => sw k ++ bytesFL ks
end
theorem De (f : Formula) : sw f = f.Op :: (if f.Op = 1 then lH f.aA else (if f.Op = 4 then [f.K] else []) ++ ((f.Kids.length : Int) :: bytesFL f.Kids)) := by cases f; rw [sw]
theorem qQ {f : Formula} (h : mI f = true) : f.Kids.length ≤ 8 ∧ wellL f.Kids = true ∧ ((f.Op = 1 ∧ ez f.aA = true ∧ f.Kids = [] ∧ f.K = 0) ∨ ((f.Op = 2 ∨ f.Op = 3) ∧ f.aA = jl ∧ f.K = 0) ∨ (f.Op = 4 ∧ f.aA = jl ∧ 0 ≤ f.K ∧ f.K ≤ (f.Kids.length : Int) ∧ 1 ≤ f.Kids.length)) := by
  rw [Ax] at h
  simp only [Bool.and_eq_true, decide_eq_true_eq] at h
  obtain ⟨⟨h1, a⟩, b⟩ := h
  refine ⟨a, b, ?_⟩
  unfold xi at h1
  split at h1
  · rename_i c
    simp only [Bool.and_eq_true, decide_eq_true_eq] at h1
    exact .inl ⟨c, h1.1.1, List.eq_nil_of_length_eq_zero h1.1.2, h1.2⟩
  · split at h1
    · rename_i c
      simp only [Bool.and_eq_true, decide_eq_true_eq, bD] at h1
      exact .inr (.inl ⟨c, h1.1, h1.2⟩)
    · simp only [Bool.and_eq_true, decide_eq_true_eq, bD] at h1
      exact .inr (.inr ⟨h1.1.1.1.1, h1.1.1.1.2, h1.1.1.2, h1.1.2, h1.2⟩)
theorem HP : ∀ (n : Nat) (f : Formula), gq f ≤ n → mI f = true → ∀ l : List Int, l.length + 40 * cD f ≤ 8000 → jf n l f = some (l ++ sw f) ∧ (sw f).length ≤ 40 * cD f := by
  intro n
  induction n with
  | zero => intro f h; rw [fg] at h; omega
  | succ n ih =>
    intro f t hw l r
    rw [fg] at t
    have u := gC f
    obtain ⟨h1, q, m⟩ := qQ hw
    rw [jf]
    unfold oG
    have d : 0 ≤ f.Op ∧ f.Op < 128 := by rcases m with h | h | h <;> omega
    rw [rH d.1 d.2 (by omega), Option.bind_some, De]
    have key : ∀ (ks : List Formula), (∀ k ∈ ks, k ∈ f.Kids) → wellL ks = true → ∀ l : List Int, l.length + 40 * nodesL ks ≤ 8000 → jP (jf n) ks l = some (l ++ bytesFL ks) ∧ (bytesFL ks).length ≤ 40 * nodesL ks := by
      intro ks
      induction ks with
      | nil => intro _ _ l _; rw [jP, bytesFL]; simp
      | cons k ks p =>
        intro hk a l r
        rw [wellL, Bool.and_eq_true] at a
        rw [nodesL] at r
        obtain ⟨i, w⟩ := ih k (by have := kh (hk k (by simp)); omega) a.1 l (by omega)
        obtain ⟨b, j⟩ := p (fun z v => hk z (by simp [v])) a.2 (l ++ sw k) (by simp; omega)
        rw [jP, i, Option.bind_some, b, bytesFL, nodesL]
        exact ⟨by simp, by simp; omega⟩
    have hlen : 0 ≤ (f.Kids.length : Int) ∧ (f.Kids.length : Int) < 128 := by omega
    by_cases c1 : f.Op = 1
    · have s : ez f.aA = true := by rcases m with h | h | h; exact h.2.1; omega; omega
      have := ie s
      simp only [c1, beq_self_eq_true, if_true]
      rw [DS s (by simp; omega), Option.bind_some]
      exact ⟨by simp, by simp; omega⟩
    · have i : (f.Op == 1) = false := by simpa using c1
      simp only [i, Bool.false_eq_true, if_false, c1]
      by_cases g : f.Op = 4
      · have hk : 0 ≤ f.K ∧ f.K < 128 := by rcases m with h | h | h <;> omega
        simp only [g, beq_self_eq_true, if_true]
        rw [rH hk.1 hk.2 (by simp; omega)]
        simp only [Option.bind_some]
        rw [rH hlen.1 hlen.2 (by simp; omega)]
        simp only [Option.bind_some]
        obtain ⟨b, j⟩ := key f.Kids (fun k hk => hk) q (l ++ [4] ++ [f.K] ++ [(f.Kids.length : Int)]) (by simp; omega)
        rw [b]
        exact ⟨by simp, by simp; omega⟩
      · have j : (f.Op == 4) = false := by simpa using g
        simp only [j, Bool.false_eq_true, if_false, g, Option.bind_some]
        rw [rH hlen.1 hlen.2 (by simp; omega)]
        simp only [Option.bind_some]
        obtain ⟨b, x⟩ := key f.Kids (fun k hk => hk) q (l ++ [f.Op] ++ [(f.Kids.length : Int)]) (by simp; omega)
        rw [b]
        exact ⟨by simp, by simp; omega⟩
def rN (f : Formula) : List Int := if fR f then sw f else []
abbrev Gd (f : Formula) : Prop := cD f ≤ 50000000
theorem sU {f : Formula} (h : fR f = true) : cD f ≤ 64 ∧ gq f ≤ 6 ∧ mI f = true := by
  unfold fR at h
  simp only [Bool.and_eq_true, decide_eq_true_eq] at h
  exact ⟨h.1.1, h.1.2, h.2⟩
theorem Kv (f : Formula) (d : Gd f) (l : List Int) (j : l.length ≤ 5000) : pK l f = some (fR f, l ++ rN f) ∧ (rN f).length ≤ 2560 := by
  unfold pK rN
  rw [xm f d, Option.bind_some]
  cases h : fR f
  · simp
  · obtain ⟨h1, i, b⟩ := sU h
    obtain ⟨a, g⟩ := HP bL f (by rw [eG]; omega) b l (by omega)
    simp only [Bool.not_true, Bool.false_eq_true, if_false, a, Option.bind_some, if_true]
    exact ⟨trivial, by omega⟩
theorem AU (f : Formula) (b : Gd f) : mH f = some (rN f) := by
  unfold mH
  obtain ⟨a, d⟩ := Kv f b [] (by simp)
  rw [a, Option.bind_some, gi]
  unfold mZ
  simp only [List.nil_append]
  rw [Lg (by omega)]
  rfl
def vd (f g : Formula) : Int := rJ (rN f) (rN g)
theorem Gs (f g : Formula) (a : Gd f) (b : Gd g) : mG f g = some (vd f g) := by
  unfold mG pN
  rw [AU f a, AU g b]
  rfl
theorem uM (f g : Formula) : fV vd f g = Op.bytesLess (nv (rN f)) (nv (rN g)) := by
  rw [Bool.eq_iff_iff]
  have h : fV vd f g = true ↔ vd f g < 0 := by unfold fV; exact decide_eq_true_iff
  exact h.trans (wK _ _)
theorem CB : SWO (fV vd) where
  Jl x := by rw [uM, oC]
  tr x y z h1 a := by rw [uM] at *; exact rA _ _ _ h1 a
  Hh x y z h := by
    rw [uM] at h
    rw [uM, uM]
    rcases vg (nv (rN x)) (nv (rN y)) with h1 | h1 | h1
    · exact .inl h1
    · rw [h1] at h; exact .inr h
    · exact .inr (rA _ _ _ h1 h)
def ow (l : List Formula) : List Formula := ET (fV vd) l
theorem Eb (l : List Formula) (a : ∀ x ∈ l, Gd x) (b : l.length ≤ 300000) : ol l = some (ow l) := by
  unfold ol lG
  rw [eX (by simp; omega) (by simp; omega)]
  simp only [Option.bind_some, List.nil_append, gi]
  exact GM CB (fun x y d g => Gs x y d g) l a b
theorem G5 {α : Type} (lt : α → α → Bool) (l : List α) (k : α) : (vj lt l k).Perm (l ++ [k]) := by
  unfold vj
  refine List.perm_middle.trans ((List.Perm.cons _ ?_).trans (List.perm_append_singleton k l).symm)
  have := List.filter_append_perm (fun x => !lt k x) l
  simpa using this
theorem G0 {α : Type} (lt : α → α → Bool) (l : List α) : (ET lt l).Perm l := by
  suffices H : ∀ (l a : List α), (l.foldl (vj lt) a).Perm (a ++ l) by have := H l []; rwa [List.nil_append] at this
  intro l
  induction l with
  | nil => intro a; simp
  | cons k l ih =>
    intro a
    rw [List.foldl_cons]
    refine (ih _).trans ?_
    have := (G5 lt a k).append_right l
    simpa using this
theorem rF (l : List Formula) : (ow l).Perm l := G0 _ l
noncomputable def jF (a b : Formula) : Bool := @decide (a = b) (Classical.propDecidable _)
theorem uE {a b : Formula} : jF a b = true ↔ a = b := by unfold jF; simp
theorem JR (a b : Formula) (h : Gd a) : gF bL a b = some (jF a b) := by
  have := qp a
  obtain ⟨x, e, d⟩ := Kj bL a (by rw [eG]; omega) b
  rw [e]; congr 1
  rw [Bool.eq_iff_iff, d, uE]
def MB : Formula := ⟨0, 0, ⟨zS, zS⟩, []⟩
theorem Ig (f1 : Formula × Formula → Option Bool) (i : Int) : ∀ (n : Nat) (l : List Formula) (k j : Int), (∀ x ∈ l, ∀ y ∈ l, f1 (x, y) = some (jF x y)) → eZ i f1 n l k j = vq jF i n l k j
  | 0, l, k, j, _ => by rw [eZ, vq]
  | n + 1, l, k, j, h => by
    rw [eZ, vq]
    split
    · cases g : dU (l.drop (Int.toNat i)) j with
      | none => rfl
      | some x =>
        cases p : dU (l.drop (Int.toNat i)) (IntKind.i64.wrap (j - 1)) with
        | none => rfl
        | some y =>
          have d : x ∈ l := List.mem_of_mem_drop (List.mem_of_getElem? (bQ g))
          have r : y ∈ l := List.mem_of_mem_drop (List.mem_of_getElem? (bQ p))
          simp only [Option.bind_some, h x d y r]
          cases jF x y
          · simp only [Bool.not_false, if_true]
            cases s : dU l k with
            | none => rfl
            | some z =>
              simp only [Option.bind_some]
              refine Ig f1 i n _ _ _ (fun a ha b q => ?_)
              have m : ∀ a ∈ l.set (Int.toNat k) x, a ∈ l := fun a ha => by
                rcases List.mem_or_eq_of_mem_set ha with ha | rfl
                · exact ha
                · exact d
              exact h a (m a ha) b (m b q)
          · simp only [Bool.not_true, Bool.false_eq_true, if_false, Option.bind_some]
            exact Ig f1 i n _ _ _ h
    · rfl
theorem KF (f1 : Formula × Formula → Option Bool) (l : List Formula) (h : ∀ x ∈ l, ∀ y ∈ l, f1 (x, y) = some (jF x y)) : ∀ (n : Nat) (i : Int), fe l f1 n i = wq jF MB l n i
  | 0, i => by rw [fe, wq]
  | n + 1, i => by
    rw [fe, wq]
    split
    · cases a : dU l i with
      | none => rfl
      | some x =>
        cases b : dU l (IntKind.i64.wrap (i - 1)) with
        | none => rfl
        | some y =>
          have d : x ∈ l := List.mem_of_getElem? (bQ a)
          have g : y ∈ l := List.mem_of_getElem? (bQ b)
          simp only [Option.bind_some, h x d y g]
          rw [Ig f1 i bL l i 1 h, KF f1 l h n]
          rfl
    · rfl
theorem Gx (l : List Formula) (h : ∀ x ∈ l, Gd x) (b : l.length ≤ 300000) : iV l (fun x => gF bL x.1 x.2) = some (dd jF l) := by
  rw [← EZ jF MB l (by omega)]
  unfold iV D8
  rw [KF _ l (fun x a y _ => JR x y (h x a))]
end Go.Proofs.YtmlncblocfcmiaaGreat
namespace Go.Proofs.YtmlncblocfcmiaaGreat
open Go.RowKit
def dL (op : Int) (f : Formula) : Bool := decide (f.Op = op) && f.Kids.isEmpty
theorem xC (f : Formula) (op : Int) : mV f op = some (dL op f) := by
  unfold mV dL
  rw [gi]
  by_cases h : f.Op = op
  · simp only [h, beq_self_eq_true, if_true, decide_true, Bool.true_and]
    congr 1
    cases hk : f.Kids with
    | nil => rfl
    | cons a l => simp; omega
  · have e : (f.Op == op) = false := by simpa using h
    simp [e, h]
def gv (op : Int) : List Formula → List Formula
  | [] => []
  | k :: ks => (if k.Op = op then k.Kids else [k]) ++ gv op ks
theorem xh (op : Int) : ∀ ks : List Formula, nodesL (gv op ks) ≤ nodesL ks
  | [] => Nat.le_refl _
  | k :: ks => by
    have ih := xh op ks
    have e : ∀ a b : List Formula, nodesL (a ++ b) = nodesL a + nodesL b := by
      intro a b
      induction a with
      | nil => rw [List.nil_append, nodesL]; omega
      | cons x a d => rw [List.cons_append, nodesL, nodesL, d]; omega
    have := gC k
    rw [gv, e, nodesL]
    split
    · omega
    · rw [nodesL, nodesL]; omega
theorem Cz (op : Int) : ∀ (ks acc : List Formula), acc.length + nodesL ks ≤ 100000000 → jH op ks acc = some (acc ++ gv op ks)
  | [], acc, _ => by rw [jH, gv, List.append_nil]
  | k :: ks, acc, h => by
    rw [nodesL] at h
    have h1 := gC k
    have a := jh k.Kids
    rw [jH, gv]
    by_cases c : k.Op = op
    · simp only [c, beq_self_eq_true, if_true]
      rw [eX (by omega) (by omega), Option.bind_some, Cz op ks _ (by simp; omega), List.append_assoc]
    · have e : (k.Op == op) = false := by simpa using c
      simp only [e, Bool.false_eq_true, if_false, c]
      rw [eX (by simp; omega) (by simp; omega), Option.bind_some, Cz op ks _ (by simp; omega), List.append_assoc]
noncomputable def iG (op : Int) (ks : List Formula) : Formula :=
  if (gv op ks).any (dL (5 - op)) then ⟨5 - op, 0, jl, []⟩ else
    match dd jF (ow (gv op ks)) with
    | [x] => x
    | r => ⟨op, 0, jl, r⟩
theorem EK {α : Type} (eq : α → α → Bool) (l : List α) : (dd eq l).length ≤ l.length := by
  cases l with
  | nil => exact Nat.le_refl _
  | cons x l =>
    have : ∀ (l : List α) (x : α), (fw eq x l).length ≤ l.length := by
      intro l
      induction l with
      | nil => intro x; exact Nat.le_refl _
      | cons y l ih => intro x; rw [fw]; have := ih y; have := ih x; split <;> simp <;> omega
    have := this l x
    rw [dd, List.length_cons, List.length_cons]; omega
theorem yp (s : cM) (op : Int) (g : op = 2 ∨ op = 3) (ks : List Formula) (h : nodesL ks ≤ 64) : gH s op ks = some (iG op ks, s) := by
  have h1 := xh op ks
  have i := jh (gv op ks)
  have b : ∀ x ∈ gv op ks, Gd x := fun x a => by have := mO a; unfold Gd; omega
  have hw : IntKind.i64.wrap (5 - op) = 5 - op := cP (by omega) (by omega)
  unfold gH tZ iG
  rw [Cz op ks [] (by simp; omega), Option.bind_some, List.nil_append, hw, zU _ (dL (5 - op)) _ (fun x _ => by unfold jX; rw [xC, gi]), Option.bind_some]
  cases j : (gv op ks).any (dL (5 - op))
  · simp only [Bool.false_eq_true, if_false]
    have hp := rF (gv op ks)
    have l := hp.length_eq
    rw [Eb _ b (by omega), Option.bind_some, Gx _ (fun x a => b x (hp.mem_iff.1 a)) (by omega), Option.bind_some]
    have k := EK jF (ow (gv op ks))
    have d : ¬ (((dd jF (ow (gv op ks))).length : Int) > 64) := by omega
    simp only [d, decide_false, Bool.false_eq_true, if_false, Option.bind_some]
    generalize dd jF (ow (gv op ks)) = r
    match r with
    | [] => rfl
    | [x] => rfl
    | x :: y :: r =>
      have : (((x :: y :: r).length : Int) == 1) = false := by simp; omega
      simp only [this, Bool.false_eq_true, if_false]
      rfl
  · rfl
noncomputable def mn (k : Int) (ks : List Formula) : Formula :=
  let n := k - ((ks.filter (dL 2)).length : Int)
  let l := ks.filter fun x => !dL 2 x && !dL 3 x
  if n ≤ 0 then ⟨2, 0, jl, []⟩ else if n > (l.length : Int) then ⟨3, 0, jl, []⟩ else if n = (l.length : Int) then iG 2 l else if n = 1 then iG 3 l else ⟨4, n, jl, ow l⟩
theorem sn (p : Formula → Bool) : ∀ ks : List Formula, nodesL (ks.filter p) ≤ nodesL ks
  | [] => Nat.le_refl _
  | k :: ks => by
    have := sn p ks
    rw [List.filter_cons]
    split
    · rw [nodesL, nodesL]; omega
    · rw [nodesL]; omega
theorem uv (s : cM) : ∀ (ks acc : List Formula) (k : Int), -1000 ≤ k - (ks.length : Int) → k ≤ 1000 → acc.length + ks.length ≤ 1000 → nodesL (acc ++ ks.filter fun x => !dL 2 x && !dL 3 x) ≤ 64 →
    eW s ks k acc = some (let n := k - ((ks.filter (dL 2)).length : Int); let l := acc ++ ks.filter fun x => !dL 2 x && !dL 3 x; if n ≤ 0 then ⟨2, 0, jl, []⟩ else if n > (l.length : Int) then ⟨3, 0, jl, []⟩ else if n = (l.length : Int) then iG 2 l else if n = 1 then iG 3 l else ⟨4, n, jl, ow l⟩, s)
  | [], acc, k, h1, g, h, a => by
    simp only [List.filter_nil, List.append_nil, List.length_nil] at a ⊢
    rw [eW]
    simp only [Int.ofNat_zero, Int.sub_zero, rV, tj, Option.bind_some, Int.natCast_zero]
    have p := jh acc
    by_cases c1 : k ≤ 0
    · simp only [c1, decide_true, if_true]; rfl
    · simp only [c1, decide_false, Bool.false_eq_true, if_false]
      by_cases c2 : k > (acc.length : Int)
      · simp only [c2, decide_true, if_true]; rfl
      · simp only [c2, decide_false, Bool.false_eq_true, if_false]
        by_cases b : k = (acc.length : Int)
        · simp only [← b, beq_self_eq_true, if_true]
          rw [yp s 2 (.inl rfl) acc a, Option.bind_some]
        · have i : (k == (acc.length : Int)) = false := by simpa using b
          simp only [i, Bool.false_eq_true, if_false, b]
          by_cases d : k = 1
          · simp only [d, beq_self_eq_true, if_true]
            rw [yp s 3 (.inr rfl) acc a, Option.bind_some]
          · have j : (k == 1) = false := by simpa using d
            simp only [j, Bool.false_eq_true, if_false, d]
            rw [Eb acc (fun x m => by have := mO m; unfold Gd; omega) (by omega)]
            rfl
  | x :: ks, acc, k, h1, g, h, a => by
    simp only [List.length_cons] at h1 h
    rw [eW, xC, Option.bind_some, xC, Option.bind_some]
    rw [List.filter_cons, List.filter_cons] at *
    cases c2 : dL 2 x
    · cases b : dL 3 x
      · simp only [c2, b, Bool.not_false, Bool.and_self, Bool.false_eq_true, if_false, if_true] at a ⊢
        rw [eX (by simp; omega) (by simp; omega), Option.bind_some, uv s ks _ k (by omega) g (by simp; omega) (by rw [List.append_assoc]; exact a)]
        simp only [List.append_assoc, List.cons_append, List.nil_append]
      · simp only [c2, b, Bool.not_false, Bool.not_true, Bool.and_false, Bool.false_eq_true, if_false] at a ⊢
        rw [uv s ks _ k (by omega) g (by omega) a]
    · simp only [c2, Bool.not_true, Bool.false_and, Bool.false_eq_true, if_false, if_true] at a ⊢
      rw [cP (by omega) (by omega), uv s ks _ (k - 1) (by omega) (by omega) (by omega) a]
      simp only [List.length_cons]
      have e : k - 1 - ((ks.filter (dL 2)).length : Int) = k - (((ks.filter (dL 2)).length + 1 : Nat) : Int) := by omega
      rw [e]
theorem Gz (s : cM) (k : Int) (hk : 0 ≤ k ∧ k ≤ 1000) (ks : List Formula) (h : nodesL ks ≤ 64) : jY s k ks = some (mn k ks, s) := by
  have := jh ks
  have := sn (fun x => !dL 2 x && !dL 3 x) ks
  unfold jY mn
  rw [uv s ks [] k (by omega) (by omega) (by simp; omega) (by simpa using by omega)]
  rfl
mutual
noncomputable def iQ : Formula → Formula
  | ⟨o, k, r, ks⟩ => if o = 1 then ⟨o, k, r, ks⟩ else if o = 4 then mn k (shapeL ks) else iG o (shapeL ks)
noncomputable def shapeL : List Formula → List Formula
  | [] => []
  | k :: ks => iQ k :: shapeL ks
end
theorem rD (f : Formula) : iQ f = if f.Op = 1 then f else if f.Op = 4 then mn f.K (shapeL f.Kids) else iG f.Op (shapeL f.Kids) := by cases f; rw [iQ]
theorem zT {a b : List Formula} (h : a.Perm b) : nodesL a = nodesL b := by
  induction h with
  | nil => rfl
  | cons x _ ih => rw [nodesL, nodesL, ih]
  | swap x y l => rw [nodesL, nodesL, nodesL, nodesL]; omega
  | trans _ _ h1 d => rw [h1, d]
theorem xk (eq : Formula → Formula → Bool) : ∀ (l : List Formula) (x : Formula), nodesL (fw eq x l) ≤ nodesL l
  | [], x => Nat.le_refl _
  | y :: l, x => by
    have h1 := xk eq l y
    have a := xk eq l x
    rw [fw]
    split
    · rw [nodesL]; omega
    · rw [nodesL, nodesL]; omega
theorem IJ (eq : Formula → Formula → Bool) (l : List Formula) : nodesL (dd eq l) ≤ nodesL l := by
  cases l with
  | nil => exact Nat.le_refl _
  | cons x l => have := xk eq l x; rw [dd, nodesL, nodesL]; omega
theorem vk (op : Int) (ks : List Formula) : cD (iG op ks) ≤ 1 + nodesL ks := by
  unfold iG
  split
  · rw [cD, nodesL]; omega
  · have h1 := IJ jF (ow (gv op ks))
    have a := zT (rF (gv op ks))
    have b := xh op ks
    generalize dd jF (ow (gv op ks)) = r at *
    split
    · rename_i x
      rw [nodesL, nodesL] at h1; omega
    · rw [cD]; omega
theorem DC (k : Int) (ks : List Formula) : cD (mn k ks) ≤ 1 + nodesL ks := by
  have h := sn (fun x => !dL 2 x && !dL 3 x) ks
  unfold mn
  simp only
  generalize ks.filter (fun x => !dL 2 x && !dL 3 x) = l at *
  generalize k - ((ks.filter (dL 2)).length : Int) = n
  split
  · rw [cD, nodesL]; omega
  · split
    · rw [cD, nodesL]; omega
    · split
      · have := vk 2 l; omega
      · split
        · have := vk 3 l; omega
        · have := zT (rF l); rw [cD]; omega
theorem tC : ∀ f : Formula, cD (iQ f) ≤ cD f := by
  refine D4 fun f ih => ?_
  have h : ∀ ks : List Formula, (∀ k ∈ ks, cD (iQ k) ≤ cD k) → nodesL (shapeL ks) ≤ nodesL ks := by
    intro ks
    induction ks with
    | nil => intro _; rw [shapeL]; exact Nat.le_refl _
    | cons k ks a =>
      intro h
      have := a (fun x b => h x (by simp [b]))
      have := h k (by simp)
      rw [shapeL, nodesL, nodesL]; omega
  have h := h f.Kids ih
  rw [rD, gC f]
  split
  · rw [gC]; omega
  · split
    · have := DC f.K (shapeL f.Kids); omega
    · have := vk f.Op (shapeL f.Kids); omega
theorem yn (ks : List Formula) : nodesL (shapeL ks) ≤ nodesL ks := by
  induction ks with
  | nil => rw [shapeL]; exact Nat.le_refl _
  | cons k ks ih => have := tC k; rw [shapeL, nodesL, nodesL]; omega
theorem H8 : ∀ (n : Nat) (f : Formula), gq f ≤ n → cD f ≤ 64 → mI f = true → ∀ s : cM, fK n s f = some (iQ f, s) := by
  intro n
  induction n with
  | zero => intro f h; rw [fg] at h; omega
  | succ n ih =>
    intro f r v hw s
    rw [fg] at r
    have t := gC f
    obtain ⟨h1, q, l⟩ := qQ hw
    rw [fK]
    unfold kT
    rw [rD]
    by_cases c1 : f.Op = 1
    · simp only [c1, beq_self_eq_true, if_true]
    · have m : (f.Op == 1) = false := by simpa using c1
      simp only [m, Bool.false_eq_true, if_false, c1]
      have key : ∀ (ks acc : List Formula), (∀ k ∈ ks, k ∈ f.Kids) → wellL ks = true → nodesL (acc ++ shapeL ks) ≤ 64 → nodesL ks ≤ 64 → gm (fK n) f ks acc s = some (if f.Op = 4 then mn f.K (acc ++ shapeL ks) else iG f.Op (acc ++ shapeL ks), s) := by
        intro ks
        induction ks with
        | nil =>
          intro acc _ _ d _
          rw [shapeL, List.append_nil] at *
          rw [gm]
          by_cases g : f.Op = 4
          · simp only [g, beq_self_eq_true, if_true]
            rw [Gz s f.K (by rcases l with h | h | h <;> omega) acc d, Option.bind_some]
          · have p : (f.Op == 4) = false := by simpa using g
            simp only [p, Bool.false_eq_true, if_false, g]
            rw [yp s f.Op (by rcases l with h | h | h <;> omega) acc d, Option.bind_some]
        | cons k ks j =>
          intro acc hk a d i
          rw [wellL, Bool.and_eq_true] at a
          rw [nodesL] at i
          rw [shapeL] at d
          have b := jh (acc ++ iQ k :: shapeL ks)
          simp only [List.length_append, List.length_cons] at b
          rw [gm, ih k (by have := kh (hk k (by simp)); omega) (by omega) a.1 s, Option.bind_some, eX (by simp; omega) (by simp; omega), Option.bind_some,
            j (acc ++ [iQ k]) (fun z u => hk z (by simp [u])) a.2 (by rw [List.append_assoc]; exact d) (by omega), shapeL]
          simp only [List.append_assoc, List.cons_append, List.nil_append]
      have := yn f.Kids
      have := key f.Kids [] (fun k hk => hk) q (by simpa using by omega) (by omega)
      simpa using this
def zW : Formula := ⟨0, 0, jl, []⟩
noncomputable def pF (f : Formula) : Formula × Int := if fR f then (if fR (iQ f) then (iQ f, 0) else (zW, 12)) else (zW, 11)
theorem FR (f : Formula) (h : Gd f) : qS f = some (pF f) := by
  unfold qS pF
  rw [xm f h, Option.bind_some]
  cases b : fR f
  · rfl
  · obtain ⟨h1, d, a⟩ := sU b
    have g := tC f
    simp only [Bool.not_true, Bool.false_eq_true, if_false, if_true]
    rw [H8 bL f (by rw [eG]; omega) h1 a, Option.bind_some, xm (iQ f) (by omega)]
    have e : (((⟨0⟩ : cM).e) != 0) = false := rfl
    simp only [e, Bool.false_eq_true, if_false, Option.bind_some]
    cases fR (iQ f) <;> rfl
theorem rG {f : Formula} : cD (pF f).1 ≤ 64 := by
  unfold pF
  cases h : fR f
  · exact by simp only [Bool.false_eq_true, if_false, zW]; rw [cD, nodesL]; omega
  · obtain ⟨h1, a, b⟩ := sU h
    have := tC f
    simp only [if_true]
    split
    · show cD (iQ f) ≤ 64; omega
    · rw [zW, cD, nodesL]; omega
theorem JL (f g : Formula) (a : cD f ≤ 10000000) (b : cD g ≤ 10000000) : rb f g = some (pF ⟨2, 0, jl, [f, g]⟩) := by
  unfold rb
  have := FR ⟨2, 0, jl, [f, g]⟩ (by show cD _ ≤ _; rw [cD, nodesL, nodesL, nodesL]; omega)
  rw [show (⟨2, 0, (⟨zS, zS⟩ : aA), [f, g]⟩ : Formula) = ⟨2, 0, jl, [f, g]⟩ from rfl, this]
  rfl
end Go.Proofs.YtmlncblocfcmiaaGreat
