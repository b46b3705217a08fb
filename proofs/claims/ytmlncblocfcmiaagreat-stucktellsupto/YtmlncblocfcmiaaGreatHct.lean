/- a part of a proof of StuckTells -/
import Derived.Test.YtmlncblocfcmiaaGreatRtVt
import Derived.Test.YtmlncblocfcmiaaGreatS1Mt
set_option linter.all false
namespace Go.Proofs.YtmlncblocfcmiaaGreat
open Go.RowKit
theorem xh {c x : Bool} : (if c = true then some x else some false : Option Bool) = some (c && x) := by cases c <;> rfl
theorem Kv {c x : Bool} : (if c = true then some true else some x : Option Bool) = some (c || x) := by cases c <;> rfl
theorem gh {α : Type} (x : Option α) : (x.bind fun y => some y) = x := by cases x <;> rfl
theorem cP {x : Int} (a : -9223372036854775808 ≤ x) (b : x ≤ 9223372036854775807) : IntKind.i64.wrap x = x := IntWalk.i64_in _ (by omega)
theorem fj {α : Type} (A : List α) (x : α) (B : List α) (i : Int) (h : i = (A.length : Int)) : dU (A ++ x :: B) i = some x := by
  subst h; rw [zh]; simp
theorem eE : bL = 18446744073709551615 + 1 := by rw [qe]
def xm {α : Type} (a : α → Option Bool) (z : α) : Nat → List α → Int → Int → Option (List α)
  | 0, _, _, _ => none
  | n + 1, l, i, j => if decide (j < (l.length : Int)) then
      ((dU l j).bind fun x => (a x).bind fun r => if (!r) then (dU l i).bind fun _ => some (l.set (Int.toNat i) x, IntKind.i64.wrap (i + 1)) else some (l, i) : Option (List α × Int)).bind fun (d, b) => xm a z n d b (IntKind.i64.wrap (j + 1))
    else (lR (decide (0 ≤ i) && decide (i ≤ (l.length : Int)))).bind fun _ => (lR (decide (0 ≤ i) && decide (i ≤ ((ie l (Int.toNat i) z).length : Int)))).bind fun _ => some ((ie l (Int.toNat i) z).take (Int.toNat i))
theorem yk {a b : Int} (d : 0 ≤ a) (g : a ≤ b) : lR (decide (0 ≤ a) && decide (a ≤ b)) = some () := by simp [lR, d, g]
theorem DY {α : Type} (g : α → Option Bool) (p : α → Bool) (z : α) : ∀ (rest out a : List α) (n : Nat), rest.length < n → (out ++ a ++ rest).length < 4611686018427387904 → a ≠ [] → (∀ x ∈ rest, g x = some (p x)) →
    xm g z n (out ++ a ++ rest) (out.length : Int) ((out.length + a.length : Nat) : Int) = some (out ++ rest.filter fun x => !p x)
  | [], out, a, 0, h, _, _, _ => by simp at h
  | [], out, a, n + 1, _, d, hm, _ => by
    rw [xm, if_neg (by simp)]
    have k : out.length ≤ (out ++ a ++ []).length := by simp
    rw [yk (by omega) (by omega)]
    simp only [Option.bind_some]
    rw [yk (by omega) (by rw [pb _ _ _ (by simpa using k)]; omega)]
    simp only [Option.bind_some, Int.toNat_natCast]
    rw [zP _ _ _ k]
    simp
  | x :: rest, out, a, 0, h, _, _, _ => by simp at h
  | x :: rest, out, a, n + 1, h, d, hm, i => by
    have hlen : (out ++ a ++ x :: rest).length = out.length + a.length + rest.length + 1 := by simp; omega
    rw [hlen] at d
    rw [xm, if_pos (by rw [hlen]; simp; omega)]
    rw [fj (out ++ a) x rest _ (by simp)]
    simp only [Option.bind_some, i x (by simp)]
    rw [cP (x := ((out.length + a.length : Nat) : Int) + 1) (by omega) (by omega)]
    have ih := DY g p z rest
    cases hp : p x with
    | true =>
      simp only [Bool.not_true, Bool.false_eq_true, if_false, Option.bind_some]
      have := ih out (a ++ [x]) n (by simp at h; omega) (by simp; omega) (by simp) (fun y j => i y (by simp [j]))
      simp only [List.append_assoc, List.cons_append, List.nil_append, List.length_append, List.length_cons, List.length_nil] at this ⊢
      rw [show ((out.length + a.length : Nat) : Int) + 1 = ((out.length + (a.length + (0 + 1)) : Nat) : Int) by omega, this]
      simp [hp]
    | false =>
      obtain ⟨m, b, rfl⟩ : ∃ m b, a = m :: b := by cases a with
        | nil => exact absurd rfl hm
        | cons m b => exact ⟨m, b, rfl⟩
      simp only [Bool.not_false, if_true]
      rw [List.append_assoc out (m :: b) (x :: rest), List.cons_append]
      rw [fj out m (b ++ x :: rest) _ rfl]
      simp only [Option.bind_some]
      rw [cP (x := (out.length : Int) + 1) (by omega) (by simp at d; omega)]
      have := ih (out ++ [x]) (b ++ [x]) n (by simp at h; omega) (by simp at d ⊢; omega) (by simp) (fun y j => i y (by simp [j]))
      simp only [List.append_assoc, List.cons_append, List.nil_append, List.length_append, List.length_cons, List.length_nil] at this
      have l : (out ++ m :: (b ++ x :: rest)).set (Int.toNat (out.length : Int)) x = out ++ x :: (b ++ x :: rest) := by
        rw [Int.toNat_natCast, List.set_append_right _ _ (Nat.le_refl _)]; simp
      rw [l]
      simp only [List.length_cons] at d ⊢
      rw [show (out.length : Int) + 1 = ((out.length + (0 + 1) : Nat) : Int) by omega, show ((out.length + (b.length + 1) : Nat) : Int) + 1 = ((out.length + (0 + 1) + (b.length + (0 + 1)) : Nat) : Int) by omega, this]
      simp [hp]
def sW {α : Type} (a : α → Option Bool) : List α → Nat → Option Int
  | [], _ => some (-1)
  | x :: xs, i => (a x).bind fun r => if r then some (i : Int) else sW a xs (i + 1)
theorem sQ {α : Type} (b : α → Option Bool) (p : α → Bool) : ∀ (l : List α) (i : Nat), (∀ x ∈ l, b x = some (p x)) →
    (sW b l i = some (-1) ∧ ∀ x ∈ l, p x = false) ∨ ∃ A x B, l = A ++ x :: B ∧ (∀ y ∈ A, p y = false) ∧ p x = true ∧ sW b l i = some ((i + A.length : Nat) : Int)
  | [], i, _ => .inl ⟨rfl, by simp⟩
  | x :: l, i, h => by
    rw [sW, h x (by simp)]
    simp only [Option.bind_some]
    cases hp : p x with
    | true => exact .inr ⟨[], x, l, rfl, by simp, hp, by simp⟩
    | false =>
      simp only [Bool.false_eq_true, if_false]
      rcases sQ b p l (i + 1) (fun y a => h y (by simp [a])) with ⟨d, g⟩ | ⟨A, y, B, rfl, d, g, k⟩
      · exact .inl ⟨d, by intro y a; rcases List.mem_cons.1 a with rfl | a; exact hp; exact g y a⟩
      · refine .inr ⟨x :: A, y, B, rfl, ?_, g, ?_⟩
        · intro z j; rcases List.mem_cons.1 j with rfl | j
          · exact hp
          · exact d z j
        · rw [k]; simp; omega
def Cp {α : Type} (b : α → Option Bool) (z : α) (l : List α) : Option (List α) :=
  (sW b l 0).bind fun a => if (a == ((-1))) then some l else xm b z bL l a (IntKind.i64.wrap (a + 1))
theorem wS {α : Type} (b : α → Option Bool) (p : α → Bool) (z : α) (l : List α) (i : l.length < 4611686018427387904) (h : ∀ x ∈ l, b x = some (p x)) : Cp b z l = some (l.filter fun x => !p x) := by
  unfold Cp
  rcases sQ b p l 0 h with ⟨d, g⟩ | ⟨A, x, B, rfl, d, g, j⟩
  · rw [d]
    simp only [Option.bind_some, beq_self_eq_true, if_true]
    rw [List.filter_eq_self.2 (fun y a => by simp [g y a])]
  · rw [j]
    simp only [Option.bind_some, Nat.zero_add]
    rw [if_neg (by simp), cP (by omega) (by simp at i; omega)]
    have := DY b p z B A [x] bL (by rw [qe]; simp at i; omega) (by simpa using i) (by simp) (fun y a => h y (by simp [a]))
    simp only [List.append_assoc, List.cons_append, List.nil_append, List.length_cons, List.length_nil] at this
    rw [show (A.length : Int) + 1 = ((A.length + (0 + 1) : Nat) : Int) by omega, this]
    have k : A.filter (fun x => !p x) = A := List.filter_eq_self.2 (fun y a => by simp [d y a])
    rw [List.filter_append, k]
    simp [g]
def fu {α : Type} (eq : α → α → Bool) : α → List α → List α
  | _, [] => []
  | p, y :: ys => if eq y p then fu eq y ys else y :: fu eq y ys
def dd {α : Type} (eq : α → α → Bool) : List α → List α
  | [] => []
  | x :: xs => x :: fu eq x xs
def uX {α : Type} (eq : α → α → Bool) (i : Int) : Nat → List α → Int → Int → Option (List α × Int)
  | 0, _, _, _ => none
  | n + 1, l, k, j => if decide (j < ((l.length - Int.toNat i : Nat) : Int)) then
      ((dU (l.drop (Int.toNat i)) j).bind fun x => (dU (l.drop (Int.toNat i)) (IntKind.i64.wrap (j - 1))).bind fun y => if !(eq x y) then (dU (l.drop (Int.toNat i)) j).bind fun z => (dU l k).bind fun _ => some (l.set (Int.toNat k) z, IntKind.i64.wrap (k + 1)) else some (l, k) : Option (List α × Int)).bind fun (a, k') => uX eq i n a k' (IntKind.i64.wrap (j + 1))
    else some (l, k)
def wm {α : Type} (eq : α → α → Bool) (z : α) (l : List α) : Nat → Int → Option (List α)
  | 0, _ => none
  | n + 1, i => if decide (i < (l.length : Int)) then (dU l i).bind fun x => (dU l (IntKind.i64.wrap (i - 1))).bind fun y => if eq x y then
        (lR (decide (0 ≤ i) && decide (i ≤ (l.length : Int)))).bind fun _ => (uX eq i bL l i 1).bind fun (a, k) => (lR (decide (0 ≤ k) && decide (k ≤ (a.length : Int)))).bind fun _ => (lR (decide (0 ≤ k) && decide (k ≤ ((ie a (Int.toNat k) z).length : Int)))).bind fun _ => some ((ie a (Int.toNat k) z).take (Int.toNat k))
      else wm eq z l n (IntKind.i64.wrap (i + 1))
    else some l
def EO {α : Type} (eq : α → α → Bool) (z : α) (l : List α) : Option (List α) := if decide ((l.length : Int) < 2) then some l else wm eq z l bL 1
theorem EE {α : Type} (l : List α) (i : Nat) (j : Int) (b : 0 ≤ j) : dU (l.drop i) j = dU l ((i : Int) + j) := by
  obtain ⟨m, rfl⟩ : ∃ m : Nat, j = m := ⟨j.toNat, by omega⟩
  rw [show (i : Int) + (m : Int) = ((i + m : Nat) : Int) by omega, zh, zh, List.getElem?a]
theorem AJ {α : Type} (eq : α → α → Bool) (i : Nat) : ∀ (rest out a : List α) (p : α) (n : Nat), rest.length < n → (out ++ (a ++ [p]) ++ rest).length < 4611686018427387904 → 1 ≤ i → i ≤ out.length →
    ∃ d, uX eq (i : Int) n (out ++ (a ++ [p]) ++ rest) (out.length : Int) ((out.length + a.length + 1 - i : Nat) : Int) = some (d, ((out ++ fu eq p rest).length : Int)) ∧ d.take (out ++ fu eq p rest).length = out ++ fu eq p rest ∧ (out ++ fu eq p rest).length ≤ d.length
  | [], out, a, p, 0, h, _, _, _ => by simp at h
  | [], out, a, p, n + 1, h, r, l, q => by
    rw [uX, if_neg (by simp; omega)]
    exact ⟨out ++ (a ++ [p]) ++ [], by simp [fu], by simp [fu], by simp [fu]⟩
  | x :: rest, out, a, p, 0, h, _, _, _ => by simp at h
  | x :: rest, out, a, p, n + 1, h, r, l, q => by
    have hlen : (out ++ (a ++ [p]) ++ x :: rest).length = out.length + a.length + rest.length + 2 := by simp; omega
    rw [hlen] at r
    rw [uX, if_pos (by rw [hlen]; simp; omega)]
    rw [Int.toNat_natCast, EE _ _ _ (by omega), fj (out ++ (a ++ [p])) x rest _ (by simp; omega)]
    simp only [Option.bind_some]
    rw [cP (x := ((out.length + a.length + 1 - i : Nat) : Int) - 1) (by omega) (by omega), EE _ _ _ (by omega)]
    rw [show out ++ (a ++ [p]) ++ x :: rest = (out ++ a) ++ p :: (x :: rest) by simp]
    rw [fj (out ++ a) p (x :: rest) _ (by simp; omega)]
    simp only [Option.bind_some]
    rw [cP (x := ((out.length + a.length + 1 - i : Nat) : Int) + 1) (by omega) (by omega)]
    cases hp : eq x p with
    | true =>
      simp only [Bool.not_true, Bool.false_eq_true, if_false, Option.bind_some]
      obtain ⟨d, g, j, k⟩ := AJ eq i rest out (a ++ [p]) x n (by simp at h; omega) (by simp; omega) l q
      refine ⟨d, ?_, by rw [fu, hp]; exact j, by rw [fu, hp]; exact k⟩
      rw [fu, hp, if_pos rfl, ← g]
      congr 1
      · simp
      · simp; omega
    | false =>
      simp only [Bool.not_false, if_true]
      obtain ⟨m, b, hm⟩ : ∃ m b, a ++ [p] = m :: b := by cases a with
        | nil => exact ⟨p, [], rfl⟩
        | cons m b => exact ⟨m, b ++ [p], rfl⟩
      have t : b.length = a.length := by have := congrArg List.length hm; simp at this; omega
      rw [show (out ++ a) ++ p :: (x :: rest) = out ++ m :: (b ++ x :: rest) by rw [← List.cons_append, ← hm]; simp]
      rw [fj out m (b ++ x :: rest) _ rfl]
      simp only [Option.bind_some]
      rw [cP (x := (out.length : Int) + 1) (by omega) (by omega)]
      have u : (out ++ m :: (b ++ x :: rest)).set (Int.toNat (out.length : Int)) x = (out ++ [x]) ++ (b ++ [x]) ++ rest := by
        rw [Int.toNat_natCast, List.set_append_right _ _ (Nat.le_refl _)]; simp
      rw [u]
      obtain ⟨d, g, j, k⟩ := AJ eq i rest (out ++ [x]) b x n (by simp at h; omega) (by simp; omega) l (by simp; omega)
      refine ⟨d, ?_, ?_, ?_⟩
      · rw [fu, hp, if_neg (by decide)]
        have s : ((out ++ x :: fu eq x rest).length : Int) = ((out ++ [x] ++ fu eq x rest).length : Int) := by simp
        rw [s, ← g]
        congr 1
        · simp
        · simp; omega
      · rw [fu, hp, if_neg (by decide)]; simpa using j
      · rw [fu, hp, if_neg (by decide)]; simpa using k
theorem DV {α : Type} (eq : α → α → Bool) (z : α) : ∀ (rest pre : List α) (p : α) (n : Nat), rest.length < n → (pre ++ p :: rest).length < 4611686018427387904 →
    wm eq z (pre ++ p :: rest) n ((pre.length + 1 : Nat) : Int) = some (pre ++ p :: fu eq p rest)
  | [], pre, p, 0, h, _ => by simp at h
  | [], pre, p, n + 1, h, i => by rw [wm, if_neg (by simp)]; simp [fu]
  | x :: rest, pre, p, 0, h, _ => by simp at h
  | x :: rest, pre, p, n + 1, h, i => by
    have hlen : (pre ++ p :: x :: rest).length = pre.length + rest.length + 2 := by simp; omega
    rw [hlen] at i
    rw [wm, if_pos (by rw [hlen]; simp; omega)]
    rw [show pre ++ p :: x :: rest = (pre ++ [p]) ++ x :: rest by simp, fj (pre ++ [p]) x rest _ (by simp)]
    simp only [Option.bind_some]
    rw [cP (x := ((pre.length + 1 : Nat) : Int) - 1) (by omega) (by omega)]
    rw [show (pre ++ [p]) ++ x :: rest = pre ++ p :: (x :: rest) by simp, fj pre p (x :: rest) _ (by omega)]
    simp only [Option.bind_some]
    cases hp : eq x p with
    | true =>
      simp only [if_true]
      rw [yk (by omega) (by rw [hlen]; omega)]
      simp only [Option.bind_some]
      obtain ⟨j, a, g, d⟩ := AJ eq (pre.length + 1) rest (pre ++ [p]) [] x bL (by rw [qe]; omega) (by simp; omega) (by omega) (by simp)
      simp only [List.append_assoc, List.cons_append, List.nil_append, List.length_append, List.length_cons, List.length_nil] at a g d
      rw [show (pre.length + (0 + 1) + 0 + 1 - (pre.length + 1) : Nat) = 1 by omega] at a
      rw [show ((pre.length + 1 : Nat) : Int) = ((pre.length + (0 + 1) : Nat) : Int) by omega] at *
      have b : uX eq ((pre.length + (0 + 1) : Nat) : Int) bL (pre ++ p :: x :: rest) ((pre.length + (0 + 1) : Nat) : Int) 1 = _ := a
      rw [b]
      simp only [Option.bind_some]
      rw [yk (by omega) (by omega)]
      simp only [Option.bind_some, Int.toNat_natCast]
      rw [yk (by omega) (by rw [pb _ _ _ d]; omega)]
      simp only [Option.bind_some]
      rw [zP _ _ _ d, g, fu, hp]
      simp
    | false =>
      simp only [Bool.false_eq_true, if_false]
      rw [cP (x := ((pre.length + 1 : Nat) : Int) + 1) (by omega) (by omega)]
      have := DV eq z rest (pre ++ [p]) x n (by simp at h; omega) (by simp; omega)
      simp only [List.append_assoc, List.cons_append, List.nil_append, List.length_append, List.length_cons, List.length_nil] at this
      rw [show ((pre.length + 1 : Nat) : Int) + 1 = ((pre.length + (0 + 1) + 1 : Nat) : Int) by omega, this, fu, hp]
      simp
theorem D7 {α : Type} (eq : α → α → Bool) (z : α) (l : List α) (a : l.length < 4611686018427387904) : EO eq z l = some (dd eq l) := by
  unfold EO
  cases l with
  | nil => rfl
  | cons x xs =>
    cases xs with
    | nil => simp [dd, fu]
    | cons y ys =>
      rw [if_neg (by simp; omega)]
      have := DV eq z (y :: ys) [] x bL (by rw [qe]; simp at a ⊢; omega) (by simpa using a)
      simpa [dd] using this
structure tZ {α : Type} (lt : α → α → Prop) (P : α → Prop) : Prop where
  irrefl : ∀ x, P x → ¬ lt x x
  trans : ∀ x y z, P x → P y → P z → lt x y → lt y z → lt x z
  total : ∀ x y, P x → P y → lt x y ∨ x = y ∨ lt y x
def oM {α : Type} (lt : α → α → Prop) (P : α → Prop) (l out : List α) : Prop := out.Pairwise lt ∧ ∀ x, x ∈ out ↔ x ∈ l ∧ P x
theorem oM.unique {α : Type} {lt : α → α → Prop} {P : α → Prop} (H : tZ lt P) : ∀ {l a b : List α}, oM lt P l a → oM lt P l b → a = b := by
  have key : ∀ a b : List α, (∀ x ∈ a, P x) → a.Pairwise lt → b.Pairwise lt → (∀ x, x ∈ a ↔ x ∈ b) → a = b := by
    intro a
    induction a with
    | nil => intro b _ _ _ hm; cases b with
      | nil => rfl
      | cons y ys => exact absurd ((hm y).2 (by simp)) (by simp)
    | cons x xs ih =>
      intro b n ha k hm
      cases b with
      | nil => exact absurd ((hm x).1 (by simp)) (by simp)
      | cons y ys =>
        have p : P y := n y ((hm y).2 (by simp))
        have d : P x := n x (by simp)
        have g := List.pairwise_cons.1 ha
        have i := List.pairwise_cons.1 k
        have q : x = y := by
          rcases List.mem_cons.1 ((hm x).1 (by simp)) with h | h
          · exact h
          · rcases List.mem_cons.1 ((hm y).2 (by simp)) with m | m
            · exact m.symm
            · exact absurd (H.trans x y x d p d (g.1 y m) (i.1 x h)) (H.irrefl x d)
        subst q
        congr 1
        refine ih ys (fun z j => n z (by simp [j])) g.2 i.2 (fun z => ?_)
        constructor
        · intro j
          rcases List.mem_cons.1 ((hm z).1 (by simp [j])) with h | h
          · subst h; exact absurd (g.1 z j) (H.irrefl z d)
          · exact h
        · intro j
          rcases List.mem_cons.1 ((hm z).2 (by simp [j])) with h | h
          · subst h; exact absurd (i.1 z j) (H.irrefl z d)
          · exact h
  intro l a b ha k
  exact key a b (fun x r => ((ha.2 x).1 r).2) ha.1 k.1 (fun x => (ha.2 x).trans (k.2 x).symm)
theorem wY {α : Type} {eq : α → α → Bool} (he : ∀ x y, eq x y = true ↔ x = y) : ∀ (l : List α) (p x : α), x ∈ p :: fu eq p l ↔ x ∈ p :: l
  | [], p, x => by simp [fu]
  | y :: l, p, x => by
    rw [fu]
    split
    · a h
      have := (he y p).1 h
      subst this
      rw [wY he l y x]; simp
    · have := wY he l y x
      simp only [List.mem_cons] at this ⊢
      rw [this]
theorem DT {α : Type} {eq : α → α → Bool} (he : ∀ x y, eq x y = true ↔ x = y) (l : List α) (x : α) : x ∈ dd eq l ↔ x ∈ l := by
  cases l with
  | nil => simp [dd]
  | cons y l => exact wY he l y x
theorem wg {α : Type} {eq : α → α → Bool} {lt : α → α → Prop} {P : α → Prop} (he : ∀ x y, eq x y = true ↔ x = y) (H : tZ lt P) : ∀ (l : List α) (p : α), (∀ x ∈ p :: l, P x) → (p :: l).Pairwise (fun a b => ¬ lt b a) → (p :: fu eq p l).Pairwise lt
  | [], p, _, _ => by simp [fu]
  | y :: l, p, g, s => by
    have k := List.pairwise_cons.1 s
    rw [fu]
    split
    · d h
      have := (he y p).1 h
      subst this
      exact wg he H l y (fun x m => g x (List.mem_cons_of_mem _ m)) k.2
    · d h
      have ih := wg he H l y (fun x m => g x (List.mem_cons_of_mem _ m)) k.2
      refine List.pairwise_cons.2 ⟨fun z r => ?_, ih⟩
      have j : lt p y := by
        rcases H.total p y (g p (by simp)) (g y (by simp)) with i | i | i
        · exact i
        · exact absurd ((he y p).2 i.symm) h
        · exact absurd i (k.1 y (by simp))
      rcases List.mem_cons.1 r with rfl | n
      · exact j
      · have q : z ∈ y :: l := (wY he l y z).1 r
        exact H.trans p y z (g p (by simp)) (g y (by simp)) (g z (List.mem_cons_of_mem _ q)) j ((List.pairwise_cons.1 ih).1 z n)
theorem GY {α : Type} {eq : α → α → Bool} {lt : α → α → Prop} {P : α → Prop} (he : ∀ x y, eq x y = true ↔ x = y) (H : tZ lt P) (l : List α) (d : ∀ x ∈ l, P x) (g : l.Pairwise (fun a b => ¬ lt b a)) : (dd eq l).Pairwise lt := by
  cases l with
  | nil => simp [dd]
  | cons y l => exact wg he H l y d g
theorem Dw {α : Type} {le : α → α → Bool} {P : α → Prop} (j : ∀ a b c, P a → P b → P c → le a b = true → le b c = true → le a c = true) (i : ∀ a b, P a → P b → (le a b || le b a) = true) (l : List α) (d : ∀ x ∈ l, P x) :
    (l.mergeSort le).Pairwise (fun a b => le a b = true) := by
  have e : l = (l.attachWith P d).map Subtype.val := by simp
  have hm : ((l.attachWith P d).mergeSort fun a b => le a.1 b.1).map Subtype.val = l.mergeSort le := by
    conv => rhs; rw [e]
    exact List.map_mergeSort (fun a _ b _ => rfl)
  rw [← hm, List.pairwise_map]
  exact List.pairwise_mergeSort (le := fun (a b : {x // P x}) => le a.1 b.1) (fun a b c g h => j a.1 b.1 c.1 a.2 b.2 c.2 g h) (fun a b => i a.1 b.1 a.2 b.2) _
theorem zL {α : Type} {eq : α → α → Bool} {lt : α → α → Prop} {P : α → Prop} {cf : α × α → Option Int} {l : List α} (he : ∀ x y, eq x y = true ↔ x = y) (H : tZ lt P) (g : ∀ x ∈ l, P x) (D : l.length < 4611686018427387904) (A : ∀ x y, P x → P y → ∃ c, cf (x, y) = some c ∧ (c < 0 ↔ lt x y)) : ∃ s, tF cf l = some s ∧ s.length = l.length ∧ oM lt P l (dd eq s) := by
  have j : ∀ x y, P x → P y → (nF cf x y = true ↔ lt x y) := fun x y i p => by
    obtain ⟨c, n, m⟩ := A x y i p
    unfold nF
    rw [n]
    simpa using m
  have d : ∀ x y, P x → P y → (nF cf x y = false ↔ ¬ lt x y) := fun x y i p => by
    rw [← j x y i p]; simp
  have ok : yE cf l := by
    refine ⟨fun x i y p => ?_, fun x i => ?_, fun x i y p z v n m => ?_, fun x i y p n m => ?_, D⟩
    · obtain ⟨c, n, _⟩ := A x y (g x i) (g y p); exact ⟨c, n⟩
    · exact (d x x (g x i) (g x i)).2 (H.irrefl x (g x i))
    · rw [j _ _ (g x i) (g y p)] at n
      rw [j _ _ (g y p) (g z v)] at m
      rw [j _ _ (g x i) (g z v)]
      exact H.trans x y z (g x i) (g y p) (g z v) n m
    · rw [d _ _ (g x i) (g y p)] at n
      rw [d _ _ (g y p) (g x i)] at m
      rcases H.total x y (g x i) (g y p) with h | h | h
      · exact absurd h n
      · exact h
      · exact absurd h m
  refine ⟨_, IL ok, by simp [mW], ?_, ?_⟩
  · have k : ∀ x, x ∈ mW cf l ↔ x ∈ l := fun x => by simp [mW]
    refine GY he H _ (fun x i => g x ((k x).1 i)) ?_
    have := Dw (le := fun x y => !nF cf y x) (P := P) (fun a b c ha q r n m => ?_) (fun a b ha q => ?_) l g
    · refine (this.imp_of_mem ?_ : _)
      intro a b ha q h
      have t : a ∈ l := (k a).1 ha
      have u : b ∈ l := (k b).1 q
      simp at h
      exact (d b a (g b u) (g a t)).1 h
    · simp at n m ⊢
      rw [d _ _ q ha] at n
      rw [d _ _ r q] at m
      rw [d _ _ r ha]
      intro w
      rcases H.total a b ha q with h | h | h
      · exact m (H.trans c a b r ha q w h)
      · subst h; exact m w
      · exact n h
    · simp only [Bool.or_eq_true, Bool.not_eq_true']
      rw [d _ _ q ha, d _ _ ha q]
      by_cases h : lt b a
      · right; intro m; exact H.irrefl a ha (H.trans a b a ha q ha m h)
      · exact .inl h
  · intro x
    rw [DT he]
    constructor
    · intro i
      have : x ∈ l := by simpa [mW] using i
      exact ⟨this, g x this⟩
    · intro i; simpa [mW] using i.1
end Go.Proofs.YtmlncblocfcmiaaGreat
namespace Go.Proofs.YtmlncblocfcmiaaGreat
open Go.RowKit
theorem oz : ∀ a : List UInt8, Op.bytesLess a a = false
  | [] => rfl
  | x :: a => by simp [Op.bytesLess, oz a]
theorem DS (x y : UInt8) : x < y ∨ x = y ∨ y < x := by
  rcases Nat.lt_trichotomy x.toNat y.toNat with h | h | h
  · exact .inl h
  · exact .inr (.inl (UInt8.toNat_inj.1 h))
  · exact .inr (.inr h)
theorem rq : ∀ a b c : List UInt8, Op.bytesLess a b = true → Op.bytesLess b c = true → Op.bytesLess a c = true
  | [], [], c, g, _ => by simp [Op.bytesLess] at g
  | _ :: _, [], c, g, _ => by simp [Op.bytesLess] at g
  | a, _ :: _, [], _, d => by simp [Op.bytesLess] at d
  | [], b :: bs, c :: cs, _, _ => rfl
  | a :: ax, b :: bs, c :: cs, g, d => by
    simp only [Op.bytesLess, Bool.or_eq_true, decide_eq_true_eq, Bool.and_eq_true, beq_iff_eq] at g d ⊢
    rcases g with g | ⟨rfl, g⟩
    · rcases d with d | ⟨rfl, d⟩
      · exact .inl (UInt8.lt_trans g d)
      · exact .inl g
    · rcases d with d | ⟨rfl, d⟩
      · exact .inl d
      · exact .inr ⟨rfl, rq ax bs cs g d⟩
theorem vh : ∀ a b : List UInt8, Op.bytesLess a b = true ∨ a = b ∨ Op.bytesLess b a = true
  | [], [] => .inr (.inl rfl)
  | [], _ :: _ => .inl rfl
  | _ :: _, [] => .inr (.inr rfl)
  | a :: ax, b :: bs => by
    simp only [Op.bytesLess, Bool.or_eq_true, decide_eq_true_eq, Bool.and_eq_true, beq_iff_eq, List.cons.injEq]
    rcases DS a b with h | h | h
    · exact .inl (.inl h)
    · subst h
      rcases vh ax bs with h | h | h
      · exact .inl (.inr ⟨rfl, h⟩)
      · exact .inr (.inl ⟨rfl, h⟩)
      · exact .inr (.inr (.inr ⟨rfl, h⟩))
    · exact .inr (.inr (.inl h))
theorem wK : ∀ a b : List UInt8, (Lib.compareBytes a b < 0 ↔ Op.bytesLess a b = true)
  | [], [] => by simp [Lib.compareBytes, Op.bytesLess]
  | [], _ :: _ => by simp [Lib.compareBytes, Op.bytesLess]
  | _ :: _, [] => by simp [Lib.compareBytes, Op.bytesLess]
  | a :: ax, b :: bs => by
    simp only [Lib.compareBytes, Op.bytesLess, Bool.or_eq_true, decide_eq_true_eq, Bool.and_eq_true, beq_iff_eq]
    by_cases h : a < b
    · simp [h]
    · by_cases g : b < a
      · have : a ≠ b := by rintro rfl; exact h g
        simp [h, g, this]
      · have : a = b := by rcases DS a b with d | d | d; exact absurd d h; exact d; exact absurd d g
        subst this
        simp [h, wK ax bs]
theorem AE : ∀ a b : List UInt8, (Lib.compareBytes a b = 0 ↔ a = b)
  | [], [] => by simp [Lib.compareBytes]
  | [], _ :: _ => by simp [Lib.compareBytes]
  | _ :: _, [] => by simp [Lib.compareBytes]
  | a :: ax, b :: bs => by
    simp only [Lib.compareBytes, List.cons.injEq]
    by_cases h : a < b
    · simp only [h, if_true]
      constructor
      · intro h; cases h
      · rintro ⟨rfl, _⟩; exact absurd h (by simp)
    · by_cases g : b < a
      · simp only [h, g, if_true, if_false]
        constructor
        · intro h; cases h
        · rintro ⟨rfl, _⟩; exact absurd g (by simp)
      · have : a = b := by rcases DS a b with d | d | d; exact absurd d h; exact d; exact absurd d g
        subst this
        simp [h, AE ax bs]
theorem rL (a b : ByteArray) : jz a b = Op.bytesLess a.data.toList b.data.toList := by unfold jz; rw [ByteArray.toList_eq, ByteArray.toList_eq]
theorem tM {a b : ByteArray} (h : a.data.toList = b.data.toList) : a = b := ByteArray.ext (Array.toList_inj.1 h)
theorem mL (a : ByteArray) : jz a a = false := by rw [rL, oz]
theorem tK {a b c : ByteArray} (d : jz a b = true) (g : jz b c = true) : jz a c = true := by rw [rL] at *; exact rq _ _ _ d g
theorem tO (a b : ByteArray) : jz a b = true ∨ a = b ∨ jz b a = true := by
  rw [rL, rL]
  rcases vh a.data.toList b.data.toList with h | h | h
  · exact .inl h
  · exact .inr (.inl (tM h))
  · exact .inr (.inr h)
theorem Dg {a b : ByteArray} (h : jz a b = true) : jz b a = false := by
  cases d : jz b a with
  | false => rfl
  | true => have := tK h d; rw [mL] at this; cases this
theorem Jc (P : ByteArray → Prop) : tZ (fun a b => jz a b = true) P :=
  ⟨fun x _ h => (by rw [mL] at h; cases h), fun x y z _ _ _ => tK, fun x y _ _ => tO x y⟩
def uO (b : UInt8) : Bool := decide (97 ≤ b.toNat) && decide (b.toNat ≤ 122)
def wB (b : UInt8) : Bool := uO b || (decide (48 ≤ b.toNat) && decide (b.toNat ≤ 57)) || decide (b.toNat = 45)
def fY (s : ByteArray) : Bool := decide (1 ≤ s.size) && decide (s.size ≤ 16) && (match s.data.toList with | [] => false | b :: _ => uO b) && s.data.toList.all wB
theorem gL {s : ByteArray} (h : fY s = true) : 1 ≤ s.size ∧ s.size ≤ 16 := by
  simp only [fY, Bool.and_eq_true, decide_eq_true_eq] at h
  exact h.1.1
theorem GP : ∀ n : Nat, n < 256 → decide (qw (⟨#[97, 98, 99, 100, 101, 102, 103, 104, 105, 106, 107, 108, 109, 110, 111, 112, 113, 114, 115, 116, 117, 118, 119, 120, 121, 122]⟩ : ByteArray) (n : Int) ≥ 0) = uO (UInt8.ofNat n) := by decide +kernel
theorem H6 : ∀ n : Nat, n < 256 → decide (qw (⟨#[97, 98, 99, 100, 101, 102, 103, 104, 105, 106, 107, 108, 109, 110, 111, 112, 113, 114, 115, 116, 117, 118, 119, 120, 121, 122, 48, 49, 50, 51, 52, 53, 54, 55, 56, 57, 45]⟩ : ByteArray) (n : Int) < 0) = !wB (UInt8.ofNat n) := by decide +kernel
theorem pX (s : ByteArray) : s.size = s.data.toList.length := by rw [Array.length_toList]; rfl
theorem zN {s : ByteArray} (h : s.size ≤ 16) : wG s = some (mB s) := by
  unfold wG; rw [if_pos (by unfold maxLen; omega)]
theorem EV : ∀ l : List UInt8, om (l.map fun b => (b.toNat : Int)) = some (l.all wB)
  | [] => rfl
  | b :: l => by
    rw [List.map_cons, om]
    simp only [kQ, gV, Option.bind_some]
    have a := H6 b.toNat (UInt8.toNat_lt b)
    rw [a]
    simp only [UInt8.ofNat_toNat, List.all_cons]
    cases wB b with
    | true => simp [EV l]
    | false => simp
theorem CZ {s : ByteArray} {b : UInt8} {l : List UInt8} (h : s.data.toList = b :: l) : ue s 0 = some b := by
  unfold ue
  rw [if_pos (Int.le_refl 0)]
  have d : s.data[0]? = some b := by rw [← Array.getElem?a, h]; rfl
  show s[0]? = some b
  rw [← d]
  rfl
theorem rS (s : ByteArray) : lT s = some (fY s) := by
  unfold lT
  simp only [xh, Option.bind_some, gh]
  by_cases a : 1 ≤ s.size
  · by_cases d : s.size ≤ 16
    · rw [if_pos (by simp; omega)]
      obtain ⟨b, l, g⟩ : ∃ b l, s.data.toList = b :: l := by
        cases h : s.data.toList with
        | nil => rw [pX, h] at a; simp at a
        | cons b l => exact ⟨b, l, rfl⟩
      rw [CZ g]
      simp only [Option.bind_some, kQ, gV]
      rw [GP b.toNat (UInt8.toNat_lt b)]
      simp only [UInt8.ofNat_toNat, fY, a, d, g, decide_true, Bool.true_and]
      cases uO b with
      | false => simp
      | true =>
        simp only [if_true, vU, zN d, Option.bind_some, mB]
        rw [EV, g]
        simp
    · rw [if_neg (by simp; omega)]
      simp [fY, d]
  · rw [if_neg (by simp; omega)]
    simp [fY, a]
theorem JH {s : ByteArray} {A B : List UInt8} {b : UInt8} (h : s.data.toList = A ++ b :: B) (i : Int) (g : i = (A.length : Int)) : ue s i = some b := by
  subst g
  unfold ue
  rw [if_pos (by omega), Int.toNat_natCast]
  have d : s.data[A.length]? = some b := by rw [← Array.getElem?a, h]; simp
  show s[A.length]? = some b
  rw [← d]
  rfl
theorem yp (s : ByteArray) (w : s.size ≤ 16) : ∀ (B A : List UInt8) (n : Nat), s.data.toList = A ++ B → B.length < n → jG s n (A.length : Int) = some (B.all wB)
  | [], A, 0, _, h => by simp at h
  | [], A, n + 1, h, _ => by
    have : s.size = A.length := by rw [pX, h]; simp
    rw [jG, if_neg (by rw [this]; simp)]
    rfl
  | b :: B, A, 0, _, h => by simp at h
  | b :: B, A, n + 1, h, v => by
    have l : s.size = A.length + B.length + 1 := by rw [pX, h]; simp; omega
    rw [jG, if_pos (by rw [l]; simp; omega)]
    rw [JH h _ rfl]
    simp only [Option.bind_some]
    rw [cP (x := (A.length : Int) + 1) (by omega) (by omega)]
    have ih := yp s w B (A ++ [b]) n (by rw [h]; simp) (by simp at v; omega)
    rw [show ((A ++ [b]).length : Int) = (A.length : Int) + 1 by simp] at ih
    simp only [List.all_cons]
    have k : ∀ n : Nat, n < 256 → wB (UInt8.ofNat n) = !((decide (n < 97) || decide (n > 122)) && (decide (n < 48) || decide (n > 57)) && decide (n ≠ 45)) := by decide +kernel
    have m := k b.toNat (UInt8.toNat_lt b)
    simp only [UInt8.ofNat_toNat] at m
    rw [m]
    by_cases p : b.toNat < 97 <;> by_cases q : b.toNat > 122 <;> by_cases r : b.toNat < 48 <;> by_cases t : b.toNat > 57 <;> by_cases u : b.toNat = 45 <;>
      first
      | omega
      | (have a : ((b.toNat : Int) < 97) = (b.toNat < 97) := by rw [eq_iff_iff]; omega
         have d : ((b.toNat : Int) > 122) = (b.toNat > 122) := by rw [eq_iff_iff]; omega
         have g : ((b.toNat : Int) < 48) = (b.toNat < 48) := by rw [eq_iff_iff]; omega
         have i : ((b.toNat : Int) > 57) = (b.toNat > 57) := by rw [eq_iff_iff]; omega
         have j : ((b.toNat : Int) != 45) = !decide (b.toNat = 45) := by rw [Bool.eq_iff_iff]; simp; omega
         simp [p, q, r, t, u, a, d, g, i, j, ih])
theorem oy (a : ByteArray) : dA a a = true := eB.2 rfl
theorem Jw : zS.size = 0 := rfl
theorem Jd {s : ByteArray} : s = zS ↔ s.size = 0 := by
  constructor
  · rintro rfl; rfl
  · intro h; exact tM (by rw [pX] at h; rw [List.length_eq_zero_iff.1 h]; rfl)
theorem ry (s : ByteArray) : kD s = some (fY s) := by
  unfold kD
  simp only [Kv, Option.bind_some, gh]
  by_cases g : s.size = 0
  · have : s = zS := Jd.2 g
    subst this
    rw [oy]
    rfl
  · have p : dA s zS = false := by
      cases h : dA s zS with
      | false => rfl
      | true => exact absurd (Jd.1 (eB.1 h)) g
    rw [p]
    simp only [Bool.false_or]
    by_cases i : s.size ≤ 16
    · rw [if_neg (by simp; omega)]
      obtain ⟨b, l, k⟩ : ∃ b l, s.data.toList = b :: l := by
        cases h : s.data.toList with
        | nil => rw [pX, h] at g; simp at g
        | cons b l => exact ⟨b, l, rfl⟩
      rw [CZ k]
      simp only [Option.bind_some, Kv]
      have m := yp s i s.data.toList [] bL rfl (by rw [qe, ← pX]; omega)
      simp only [List.length_nil] at m
      rw [show (0 : Int) = ((0 : Nat) : Int) from rfl] at *
      rw [m]
      have j : ((b.toNat : Int) < 97) = (b.toNat < 97) := by rw [eq_iff_iff]; omega
      have d : ((b.toNat : Int) > 122) = (b.toNat > 122) := by rw [eq_iff_iff]; omega
      have n : 1 ≤ s.size := by omega
      simp only [fY, n, i, k, uO, decide_true, Bool.true_and, j, d]
      by_cases a : b.toNat < 97
      · simp [a, show ¬ 97 ≤ b.toNat by omega]
      · by_cases c : b.toNat > 122
        · simp [a, c, show ¬ b.toNat ≤ 122 by omega]
        · simp [a, c, show 97 ≤ b.toNat by omega, show b.toNat ≤ 122 by omega]
    · rw [if_pos (by simp; omega)]
      simp [fY, i]
def ey (r : aA) : Bool := fY r.aC && fY r.aJ
theorem sw (r : aA) : jy r = some (ey r) := by
  unfold jy ey
  simp only [rS, Option.bind_some]
  cases fY r.aC <;> simp
theorem uQ (r : aA) : mn r = some (ey r) := by
  unfold mn ey
  simp only [ry, Option.bind_some]
  cases fY r.aC <;> simp
def vC (a b : aA) : Bool := jz a.aC b.aC || (dA a.aC b.aC && jz a.aJ b.aJ)
theorem vA (a b : aA) : pV a b = some (vC a b) := by
  unfold pV vC
  cases jz a.aC b.aC <;> cases dA a.aC b.aC <;> simp
theorem Fl {a b : ByteArray} (h : a ≠ b) : dA a b = false := by
  cases d : dA a b with
  | false => rfl
  | true => exact absurd (eB.1 d) h
theorem uE {a b : aA} : vC a b = true ↔ jz a.aC b.aC = true ∨ (a.aC = b.aC ∧ jz a.aJ b.aJ = true) := by
  simp [vC, eB]
theorem LY (P : aA → Prop) : tZ (fun a b => vC a b = true) P := by
  refine ⟨fun x _ h => ?_, fun x y z _ _ _ g d => ?_, fun x y _ _ => ?_⟩
  · rw [uE] at h
    simp [mL] at h
  · rw [uE] at *
    rcases g with g | ⟨j, g⟩
    · rcases d with d | ⟨i, d⟩
      · exact .inl (tK g d)
      · exact .inl (by rw [← i]; exact g)
    · rcases d with d | ⟨i, d⟩
      · exact .inl (by rw [j]; exact d)
      · exact .inr ⟨j.trans i, tK g d⟩
  · simp only [uE]
    rcases tO x.aC y.aC with h | h | h
    · exact .inl (.inl h)
    · rcases tO x.aJ y.aJ with d | d | d
      · exact .inl (.inr ⟨h, d⟩)
      · refine .inr (.inl ?_)
        cases x; cases y; simp at h d; simp [h, d]
      · exact .inr (.inr (.inr ⟨h.symm, d⟩))
    · exact .inr (.inr (.inl h))
theorem ul (a b : aA) : ∃ c, kY a b = some c ∧ (c < 0 ↔ vC a b = true) := by
  unfold kY
  simp only [jc, fX, Option.bind_some, ol, lU]
  have i : ∀ a b : ByteArray, (iO a b < 0 ↔ jz a b = true) := fun a b => by rw [rL]; exact wK _ _
  have g : ∀ a b : ByteArray, (iO a b = 0 ↔ a = b) := fun a b => by
    unfold iO; rw [AE]; exact ⟨tM, fun h => by rw [h]⟩
  by_cases e : iO a.aC b.aC = 0
  · rw [if_neg (by simp [e])]
    have e' := (g _ _).1 e
    by_cases d : iO a.aJ b.aJ = 0
    · rw [if_neg (by simp [d])]
      refine ⟨0, rfl, ?_⟩
      rw [uE, e', (g _ _).1 d]
      simp [mL]
    · rw [if_pos (by simp [d])]
      refine ⟨_, rfl, ?_⟩
      rw [uE, e', i]
      simp [mL]
  · rw [if_pos (by simp [e])]
    refine ⟨_, rfl, ?_⟩
    rw [uE, i]
    have : a.aC ≠ b.aC := fun h => e ((g _ _).2 h)
    simp [this]
def zR : aA := ⟨zS, zS⟩
theorem CB (a b : ByteArray) : dA a b = dA b a := by rw [Bool.eq_iff_iff, eB, eB]; exact eq_comm
theorem yB (a b : aA) : bB a b = bB b a := by rw [Bool.eq_iff_iff, bD, bD]; exact eq_comm
theorem pP (a : aA) : bB a a = true := bD.2 rfl
def dS (c : aB) : Bool := ey c.Head && (
  if c.Kind == 1 then fY c.cH && bB zR c.B && bB zR c.C && dA zS c.cO
  else if c.Kind == 2 then ey c.B && dA zS c.cH && bB zR c.C && dA zS c.cO
  else if c.Kind == 3 then ey c.B && dA c.B.aC c.Head.aC && fY c.cO && dA zS c.cH && bB zR c.C
  else if c.Kind == 4 then ey c.B && ey c.C && vC c.B c.C && dA zS c.cH && dA zS c.cO
  else false)
theorem pF (c : aB) : nj c = some (dS c) := by
  unfold nj dS
  simp only [sw, rS, Option.bind_some]
  obtain ⟨k, j, a⟩ := ul c.B c.C
  rw [j]
  have b : decide (k < 0) = vC c.B c.C := by rw [Bool.eq_iff_iff, ← a]; simp
  simp only [Option.bind_some, b]
  by_cases d : c.Kind = 1
  · cases ey c.Head <;> cases fY c.cH <;> simp [d, bT, pP, oy, zR, Bool.and_assoc]
  · by_cases g : c.Kind = 2
    · cases ey c.Head <;> cases ey c.B <;> simp [g, bT, pP, oy, zR, Bool.and_assoc]
    · by_cases h : c.Kind = 3
      · cases ey c.Head <;> cases ey c.B <;> cases dA c.B.aC c.Head.aC <;> cases fY c.cO <;> simp [h, bT, pP, oy, zR, Bool.and_assoc]
      · by_cases i : c.Kind = 4
        · cases ey c.Head <;> cases ey c.B <;> cases ey c.C <;> cases vC c.B c.C <;> simp [i, bT, pP, oy, zR, Bool.and_assoc]
        · simp [d, g, h, i]
theorem ve (c : aB) : oZ c = some (dS c) := by
  unfold oZ dS
  simp only [uQ, ry, vA, Option.bind_some]
  rw [show (⟨zS, zS⟩ : aA) = zR from rfl, yB c.B zR, yB c.C zR, CB c.cO zS, CB c.cH zS]
  by_cases a : c.Kind = 1
  · cases ey c.Head <;> cases fY c.cH <;> cases bB zR c.B <;> cases bB zR c.C <;> simp [a]
  · by_cases b : c.Kind = 2
    · cases ey c.Head <;> cases ey c.B <;> cases dA zS c.cH <;> cases bB zR c.C <;> simp [b]
    · by_cases d : c.Kind = 3
      · cases ey c.Head <;> cases ey c.B <;> cases dA zS c.cH <;> cases bB zR c.C <;> cases dA c.B.aC c.Head.aC <;> simp [d]
      · by_cases g : c.Kind = 4
        · cases ey c.Head <;> cases ey c.B <;> cases dA zS c.cH <;> cases dA zS c.cO <;> cases ey c.C <;> simp [g]
        · cases ey c.Head <;> cases ey c.B <;> cases dA zS c.cH <;> simp [a, b, d, g]
end Go.Proofs.YtmlncblocfcmiaaGreat
namespace Go.Proofs.YtmlncblocfcmiaaGreat
open Go.RowKit
theorem eW {α : Type} {b : Nat} {l m : List α} (h : (l.length + m.length) * b ≤ 140737488355328) (a : l.length + m.length ≤ 9223372036854775807) : eS b l m = some (l ++ m) := by
  unfold eS; rw [if_pos ⟨h, by unfold maxLen; omega⟩]
theorem As {l m : List Int} (h : l.length + m.length ≤ 1000000) : eS 1 l m = some (l ++ m) := eW (by omega) (by omega)
def pG (s : ByteArray) : List Int := (s.size : Int) :: mB s
def lH (r : aA) : List Int := pG r.aC ++ pG r.aJ
def sG (c : aB) : List Int := if c.Kind = 1 then pG c.cH else if c.Kind = 2 then lH c.B else if c.Kind = 3 then lH c.B ++ pG c.cO else lH c.B ++ lH c.C
def mI (c : aB) : List Int := c.Kind :: (lH c.Head ++ sG c)
theorem ng (s : ByteArray) : (pG s).length = s.size + 1 := by simp [pG, iR]
theorem ic {r : aA} (h : ey r = true) : (lH r).length ≤ 34 := by
  simp only [ey, Bool.and_eq_true] at h
  have a := gL h.1
  have b := gL h.2
  simp [lH, ng]; omega
theorem rE {l : List Int} {n : Int} (a : 0 ≤ n) (b : n < 128) (d : l.length ≤ 100000) : gz l n = some (true, l ++ [n]) := by
  have hw : IntKind.u8.wrap n = n := by
    obtain ⟨k, rfl⟩ : ∃ k : Nat, n = k := ⟨n.toNat, by omega⟩
    have : ∀ k : Nat, k < 128 → IntKind.u8.wrap (k : Int) = (k : Int) := by decide +kernel
    exact this k (by omega)
  unfold gz
  rw [if_neg (by simp; omega), eE, jx, if_neg (by simp; omega), hw, As (by simp; omega)]
  rfl
theorem zq {l : List Int} {s : ByteArray} (h : fY s = true) (b : l.length ≤ 10000) : na l s = some (true, l ++ pG s) := by
  have a := gL h
  unfold na
  simp only [rS, Option.bind_some, h, if_true, zN a.2]
  unfold qE
  rw [if_neg (by rw [iR]; simp; omega)]
  rw [iR, rE (by omega) (by omega) (by omega)]
  simp only [Option.bind_some]
  rw [As (by simp [iR]; omega)]
  simp [pG]
theorem D1 {l : List Int} {r : aA} (h : ey r = true) (d : l.length ≤ 9000) : jw l r = some (true, l ++ lH r) := by
  have a := h
  simp only [ey, Bool.and_eq_true] at h
  have b := gL h.1
  unfold jw
  simp only [sw, Option.bind_some, a, if_true]
  rw [zq h.1 (by omega)]
  simp only [Option.bind_some, if_true]
  rw [zq h.2 (by simp [ng]; omega)]
  simp [lH]
theorem wA {l : List Int} {r : aA} (h : ey r = true) (a : l.length ≤ 1000) : jw l r = some (true, l ++ lH r) := D1 h (by omega)
theorem wq {c : aB} (h : dS c = true) : ey c.Head = true := by
  simp only [dS, Bool.and_eq_true] at h; exact h.1
theorem ib {c : aB} (h : dS c = true) :
    (c.Kind = 1 ∧ fY c.cH = true ∧ c.B = zR ∧ c.C = zR ∧ c.cO = zS) ∨
    (c.Kind = 2 ∧ ey c.B = true ∧ c.cH = zS ∧ c.C = zR ∧ c.cO = zS) ∨
    (c.Kind = 3 ∧ ey c.B = true ∧ fY c.cO = true ∧ c.B.aC = c.Head.aC ∧ c.cH = zS ∧ c.C = zR) ∨
    (c.Kind = 4 ∧ ey c.B = true ∧ ey c.C = true ∧ vC c.B c.C = true ∧ c.cH = zS ∧ c.cO = zS) := by
  simp only [dS, Bool.and_eq_true] at h
  obtain ⟨_, h⟩ := h
  split at h
  · a b
    simp only [Bool.and_eq_true, bD, eB] at h
    exact .inl ⟨by simpa using b, h.1.1.1, h.1.1.2.symm, h.1.2.symm, h.2.symm⟩
  · split at h
    · a b
      simp only [Bool.and_eq_true, bD, eB] at h
      exact .inr (.inl ⟨by simpa using b, h.1.1.1, h.1.1.2.symm, h.1.2.symm, h.2.symm⟩)
    · split at h
      · a b
        simp only [Bool.and_eq_true, bD, eB] at h
        exact .inr (.inr (.inl ⟨by simpa using b, h.1.1.1.1, h.1.1.2, h.1.1.1.2, h.1.2.symm, h.2.symm⟩))
      · split at h
        · a b
          simp only [Bool.and_eq_true, bD, eB] at h
          exact .inr (.inr (.inr ⟨by simpa using b, h.1.1.1.1, h.1.1.1.2, h.1.1.2, h.1.2.symm, h.2.symm⟩))
        · cases h
theorem vx (c : aB) : pR c = some (if dS c then mI c else []) := by
  unfold pR
  rw [pF]
  simp only [Option.bind_some]
  cases h : dS c with
  | false => simp
  | true =>
    have i := wq h
    have l := ic i
    simp only [Bool.not_true, Bool.false_eq_true, if_false, if_true]
    have j : 0 ≤ c.Kind ∧ c.Kind < 128 := by rcases ib h with h | h | h | h <;> omega
    rw [rE j.1 j.2 (by simp)]
    simp only [Option.bind_some]
    rw [wA i (by simp)]
    simp only [Option.bind_some, nl, nB]
    rcases ib h with ⟨k, a, _⟩ | ⟨k, a, _⟩ | ⟨k, a, b, _⟩ | ⟨k, a, b, _⟩
    · have d := gL a
      simp only [k, beq_self_eq_true, if_true, zq a (show (([] ++ [(1:Int)]) ++ lH c.Head).length ≤ 10000 by simp; omega), Option.bind_some]
      rw [As (by simp [ng]; omega)]
      simp [mI, sG, k]
    · have d := ic a
      simp only [k, show ((2 : Int) == 1) = false from rfl, Bool.false_eq_true, beq_self_eq_true, if_true, if_false, wA a (show (([] ++ [(2:Int)]) ++ lH c.Head).length ≤ 1000 by simp; omega), Option.bind_some]
      rw [As (by simp; omega)]
      simp [mI, sG, k]
    · have d := ic a
      have g := gL b
      simp only [k, show ((3 : Int) == 1) = false from rfl, show ((3 : Int) == 2) = false from rfl, Bool.false_eq_true, beq_self_eq_true, if_true, if_false, wA a (show (([] ++ [(3:Int)]) ++ lH c.Head).length ≤ 1000 by simp; omega), Option.bind_some]
      rw [zq b (by simp; omega)]
      simp only [Option.bind_some]
      rw [As (by simp [ng]; omega)]
      simp [mI, sG, k]
    · have d := ic a
      have g := ic b
      simp only [k, show ((4 : Int) == 1) = false from rfl, show ((4 : Int) == 2) = false from rfl, show ((4 : Int) == 3) = false from rfl, Bool.false_eq_true, beq_self_eq_true, if_true, if_false, wA a (show (([] ++ [(4:Int)]) ++ lH c.Head).length ≤ 1000 by simp; omega), Option.bind_some]
      rw [wA b (by simp; omega)]
      simp only [Option.bind_some]
      rw [As (by simp; omega)]
      simp [mI, sG, k]
def pB (l : List Int) : ByteArray := ⟨(nt l).toArray⟩
theorem nQ (l : List Int) : (pB l).data.toList = nt l := rfl
theorem BD : ∀ (l : List Int) (r : ByteArray), (l.foldl (fun r n => r.push (UInt8.ofNat n.toNat)) r).data.toList = r.data.toList ++ nt l
  | [], r => by simp [nt]
  | x :: l, r => by
    rw [List.foldl_cons, BD l]
    show ((r.data.push _).toList) ++ _ = _
    simp [nt]
theorem J4 (l : List Int) : yb l = pB l := tM (by unfold yb; rw [BD]; rfl)
theorem EW (l : List Int) : (pB l).size = l.length := by rw [pX, nQ]; simp [nt]
theorem GB (a b : List Int) : nt (a ++ b) = nt a ++ nt b := by simp [nt]
theorem lz (a b : List Int) (h : a.length + b.length ≤ 1000000) : pW (pB a) (pB b) = some (pB (a ++ b)) := by
  unfold pW
  rw [if_neg]
  · congr 1
    refine tM ?_
    rw [nQ, GB, ← nQ a, ← nQ b]
    exact ByteArray.toList_data_append ▸ rfl
  · rw [EW, EW]
    show ¬ (_ > (9223372036854775807 : Int))
    omega
theorem xl (s : ByteArray) : pB (mB s) = s := tM (by rw [nQ]; simp [nt, mB, Function.comp_def])
theorem rC {n : Int} (a : 0 ≤ n) (b : n < 128) : jT n = some (pB [n]) := by
  have hw : IntKind.u8.wrap n = n := by
    obtain ⟨k, rfl⟩ : ∃ k : Nat, n = k := ⟨n.toNat, by omega⟩
    have : ∀ k : Nat, k < 128 → IntKind.u8.wrap (k : Int) = (k : Int) := by decide +kernel
    exact this k (by omega)
  unfold jT
  rw [eE, mD, if_neg (by simp; omega), hw, J4, show zS = pB [] from rfl, lz _ _ (by simp)]
  rfl
theorem zx {s : ByteArray} (h : fY s = true) : nf s = some (pB (pG s)) := by
  have a := gL h
  unfold nf
  rw [rC (by omega) (by omega)]
  simp only [Option.bind_some]
  have := lz [(s.size : Int)] (mB s) (by rw [iR]; simp; omega)
  rw [xl] at this
  rw [this]
  simp [pG]
theorem uI {r : aA} (h : ey r = true) : ms r = some (pB (lH r)) := by
  simp only [ey, Bool.and_eq_true] at h
  have a := gL h.1
  have b := gL h.2
  unfold ms
  rw [zx h.1, zx h.2]
  simp only [Option.bind_some]
  rw [lz _ _ (by simp [ng]; omega)]
  rfl
theorem vj (c : aB) : pi c = some (pB (if dS c then mI c else [])) := by
  unfold pi
  rw [ve]
  simp only [Option.bind_some]
  cases h : dS c with
  | false => rfl
  | true =>
    have i := wq h
    have l := ic i
    simp only [Bool.not_true, Bool.false_eq_true, if_false, if_true]
    have j : 0 ≤ c.Kind ∧ c.Kind < 128 := by rcases ib h with h | h | h | h <;> omega
    unfold tX
    rw [rC j.1 j.2, uI i]
    simp only [Option.bind_some]
    rw [lz _ _ (by simp; omega)]
    simp only [Option.bind_some]
    rcases ib h with ⟨k, a, _⟩ | ⟨k, a, _⟩ | ⟨k, a, b, _⟩ | ⟨k, a, b, _⟩
    · have d := gL a
      simp only [k, beq_self_eq_true, if_true, zx a, Option.bind_some]
      rw [lz _ _ (by simp [ng]; omega)]
      simp [mI, sG, k]
    · have d := ic a
      simp only [k, show ((2 : Int) == 1) = false from rfl, show ((2 : Int) == 3) = false from rfl, show ((2 : Int) == 4) = false from rfl, Bool.false_eq_true, if_false, uI a, Option.bind_some]
      rw [lz _ _ (by simp; omega)]
      simp [mI, sG, k]
    · have d := ic a
      have g := gL b
      simp only [k, show ((3 : Int) == 1) = false from rfl, show ((3 : Int) == 4) = false from rfl, Bool.false_eq_true, beq_self_eq_true, if_true, if_false, uI a, Option.bind_some]
      rw [lz _ _ (by simp; omega)]
      simp only [Option.bind_some, zx b]
      rw [lz _ _ (by simp [ng]; omega)]
      simp [mI, sG, k]
    · have d := ic a
      have g := ic b
      simp only [k, show ((4 : Int) == 1) = false from rfl, show ((4 : Int) == 3) = false from rfl, Bool.false_eq_true, beq_self_eq_true, if_true, if_false, uI a, Option.bind_some]
      rw [lz _ _ (by simp; omega)]
      simp only [Option.bind_some, uI b]
      rw [lz _ _ (by simp; omega)]
      simp [mI, sG, k]
def EN (c : aB) : List UInt8 := nt (if dS c then mI c else [])
def uT (a b : aB) : Bool := Op.bytesLess (EN a) (EN b)
theorem zz (a b : aB) : ∃ c, mT a b = some c ∧ (c < 0 ↔ uT a b = true) := by
  unfold mT
  rw [vx, vx]
  exact ⟨_, rfl, wK _ _⟩
theorem ym (a b : aB) : ∃ c, lW a b = some c ∧ (c < 0 ↔ uT a b = true) := by
  unfold lW
  rw [vj, vj]
  simp only [Option.bind_some]
  have h : jz (pB (if dS a then mI a else [])) (pB (if dS b then mI b else [])) = uT a b := by rw [rL]; rfl
  rw [h]
  cases uT a b with
  | true => exact ⟨_, rfl, by decide⟩
  | false =>
    simp only [Bool.false_eq_true, if_false, Bool.false_or]
    cases d : dA (pB (if dS a then mI a else [])) (pB (if dS b then mI b else [])) with
    | true => exact ⟨0, by simp, by decide⟩
    | false => exact ⟨1, by simp, by decide⟩
theorem KZ {a b : Int} (ha : 0 ≤ a ∧ a < 256) (d : 0 ≤ b ∧ b < 256) (h : a.toNat.toUInt8 = b.toNat.toUInt8) : a = b := by
  have := congrArg UInt8.toNat h
  simp only [UInt8.toNat_ofNat', Nat.toUInt8] at this
  simp at this
  omega
theorem FK : ∀ {a b : List Int}, (∀ x ∈ a, 0 ≤ x ∧ x < 256) → (∀ x ∈ b, 0 ≤ x ∧ x < 256) → nt a = nt b → a = b
  | [], [], _, _, _ => rfl
  | [], _ :: _, _, _, h => by simp [nt] at h
  | _ :: _, [], _, _, h => by simp [nt] at h
  | x :: a, y :: b, ha, g, h => by
    simp only [nt, List.map_cons, List.cons.injEq] at h
    rw [KZ (ha x (by simp)) (g y (by simp)) h.1, FK (fun z d => ha z (by simp [d])) (fun z d => g z (by simp [d])) h.2]
theorem tk {s : ByteArray} (h : fY s = true) : ∀ x ∈ pG s, 0 ≤ x ∧ x < 256 := by
  have d := gL h
  intro x a
  rcases List.mem_cons.1 a with rfl | a
  · omega
  · simp only [mB, List.mem_map] at a
    obtain ⟨b, _, rfl⟩ := a
    have := UInt8.toNat_lt b
    omega
theorem qU {r : aA} (h : ey r = true) : ∀ x ∈ lH r, 0 ≤ x ∧ x < 256 := by
  simp only [ey, Bool.and_eq_true] at h
  intro x a
  rcases List.mem_append.1 a with a | a
  · exact tk h.1 x a
  · exact tk h.2 x a
theorem zX {c : aB} (h : dS c = true) : ∀ x ∈ mI c, 0 ≤ x ∧ x < 256 := by
  intro x a
  rcases List.mem_cons.1 a with rfl | a
  · rcases ib h with h | h | h | h <;> omega
  · rcases List.mem_append.1 a with a | a
    · exact qU (wq h) x a
    · unfold sG at a
      rcases ib h with ⟨k, b, _⟩ | ⟨k, b, _⟩ | ⟨k, b, d, _⟩ | ⟨k, b, d, _⟩
      · rw [if_pos k] at a; exact tk b x a
      · rw [if_neg (by omega), if_pos k] at a; exact qU b x a
      · rw [if_neg (by omega), if_neg (by omega), if_pos k] at a
        rcases List.mem_append.1 a with a | a
        · exact qU b x a
        · exact tk d x a
      · rw [if_neg (by omega), if_neg (by omega), if_neg (by omega)] at a
        rcases List.mem_append.1 a with a | a
        · exact qU b x a
        · exact qU d x a
theorem F8 {s t : ByteArray} (h : mB s = mB t) : s = t := by rw [← xl s, h, xl]
theorem vw {s t : ByteArray} {X Y : List Int} (h : pG s ++ X = pG t ++ Y) : s = t ∧ X = Y := by
  simp only [pG, List.cons_append, List.cons.injEq] at h
  obtain ⟨d, a⟩ := h
  have b : (mB s).length = (mB t).length := by rw [iR, iR]; omega
  have := List.append_inj a b
  exact ⟨F8 this.1, this.2⟩
theorem tV {a b : aA} {X Y : List Int} (h : lH a ++ X = lH b ++ Y) : a = b ∧ X = Y := by
  simp only [lH, List.append_assoc] at h
  obtain ⟨d, i⟩ := vw h
  obtain ⟨g, j⟩ := vw i
  exact ⟨by cases a; cases b; simp at d g; simp [d, g], j⟩
theorem Hy {a b : aB} (ha : dS a = true) (y : dS b = true) (h : mI a = mI b) : a = b := by
  simp only [mI, List.cons.injEq] at h
  obtain ⟨v, w⟩ := h
  obtain ⟨u, h⟩ := tV w
  clear w
  have p : ∀ {X Y : List Int}, X = Y → X ++ [] = Y ++ [] := fun h => by rw [h]
  unfold sG at h
  obtain ⟨J, x, M, E, G, A⟩ := a
  obtain ⟨L, z, O, F, I, D⟩ := b
  simp only at v u h
  subst v u
  rcases ib ha with ⟨k, r, l, m, g⟩ | ⟨k, r, l, m, g⟩ | ⟨k, r, l, m, g, n⟩ | ⟨k, r, l, m, g, n⟩ <;>
  rcases ib y with ⟨k', q, i, j, d⟩ | ⟨k', q, i, j, d⟩ | ⟨k', q, i, j, d, g5⟩ | ⟨k', q, i, j, d, g5⟩ <;> simp only at k k' l m g i j d <;> (try omega)
  · rw [if_pos k, if_pos k] at h
    simp [vw (p h), l, m, g, i, j, d]
  · rw [if_neg (by omega), if_pos k, if_neg (by omega), if_pos k] at h
    simp [tV (p h), l, m, g, i, j, d]
  · rw [if_neg (by omega), if_neg (by omega), if_pos k, if_neg (by omega), if_neg (by omega), if_pos k] at h
    obtain ⟨s, t⟩ := tV h
    simp only at n g5
    simp [s, vw (p t), g, n, d, g5]
  · rw [if_neg (by omega), if_neg (by omega), if_neg (by omega), if_neg (by omega), if_neg (by omega), if_neg (by omega)] at h
    obtain ⟨s, t⟩ := tV h
    simp only at n g5
    simp [s, tV (p t), g, n, d, g5]
theorem vv : tZ (fun a b => uT a b = true) (fun c => dS c = true) := by
  refine ⟨fun x _ h => ?_, fun x y z _ _ _ i j => rq _ _ _ i j, fun x y d g => ?_⟩
  · unfold uT at h; rw [oz] at h; cases h
  · rcases vh (EN x) (EN y) with h | h | h
    · exact .inl h
    · refine .inr (.inl (Hy d g ?_))
      unfold EN at h
      rw [if_pos d, if_pos g] at h
      exact FK (zX d) (zX g) h
    · exact .inr (.inr h)
end Go.Proofs.YtmlncblocfcmiaaGreat
namespace Go.Proofs.YtmlncblocfcmiaaGreat
open Go.RowKit
def kK {α : Type} (R : α → Bool) (lt : α → α → Bool) (last : Option α) : List α → Bool → α → Bool × α
  | [], ok, b => (ok, b)
  | x :: xs, ok, b => if R x && last.all (fun y => lt y x) && (!ok || lt x b) then kK R lt last xs true x else kK R lt last xs ok b
def tY {α : Type} (w : Nat) (R : α → Bool) (lt : α → α → Bool) (d : α) (l : List α) : Nat → List α → Option (List α)
  | 0, _ => none
  | n + 1, out => if !(kK R lt out.getLast? l false d).1 then some out else (eS w out [(kK R lt out.getLast? l false d).2]).bind fun o => tY w R lt d l n o
section
variable {α : Type} {R : α → Bool} {lt : α → α → Bool}
theorem yD (H : tZ (fun a b => lt a b = true) (fun x => R x = true)) (last : Option α) : ∀ (l : List α) (ok : Bool) (b : α), (ok = true → R b = true ∧ last.all (fun y => lt y b) = true) →
    ((kK R lt last l ok b).1 = false → ok = false ∧ ∀ x ∈ l, R x = true → last.all (fun y => lt y x) = false) ∧
    ((kK R lt last l ok b).1 = true → R (kK R lt last l ok b).2 = true ∧ last.all (fun y => lt y (kK R lt last l ok b).2) = true ∧ ((kK R lt last l ok b).2 ∈ l ∨ (ok = true ∧ (kK R lt last l ok b).2 = b)) ∧
      (∀ x ∈ l, R x = true → last.all (fun y => lt y x) = true → lt x (kK R lt last l ok b).2 = false) ∧ (ok = true → lt b (kK R lt last l ok b).2 = false))
  | [], ok, b, m => by
    simp only [kK]
    exact ⟨fun h => ⟨h, by simp⟩, fun h => ⟨(m h).1, (m h).2, .inr ⟨h, trivial⟩, by simp, fun _ => by
      cases p : lt b b with
      | false => rfl
      | true => exact absurd p (H.irrefl b (m h).1)⟩⟩
  | x :: xs, ok, b, m => by
    rw [kK]
    by_cases n : (R x && last.all (fun y => lt y x) && (!ok || lt x b)) = true
    · rw [if_pos n]
      simp only [Bool.and_eq_true, Bool.or_eq_true, Bool.not_eq_true'] at n
      obtain ⟨⟨I, D⟩, E⟩ := n
      obtain ⟨t, A⟩ := yD H last xs true x (fun _ => ⟨I, D⟩)
      refine ⟨fun h => ?_, fun h => ?_⟩
      · cases (t h).1
      · obtain ⟨s, v, g, w, q⟩ := A h
        refine ⟨s, v, ?_, ?_, ?_⟩
        · rcases g with g | ⟨_, g⟩
          · exact .inl (by simp [g])
          · exact .inl (by rw [g]; simp)
        · intro y j d i
          rcases List.mem_cons.1 j with rfl | j
          · exact q rfl
          · exact w y j d i
        · intro k
          cases p : lt b (kK R lt last xs true x).2 with
          | false => rfl
          | true =>
            have F : lt x b = true := by rcases E with h | h; rw [k] at h; cases h; exact h
            have := H.trans x b _ I (m k).1 s F p
            simp only [q rfl] at this
            cases this
    · rw [if_neg n]
      obtain ⟨t, A⟩ := yD H last xs ok b m
      refine ⟨fun h => ⟨(t h).1, fun y j d => ?_⟩, fun h => ?_⟩
      · rcases List.mem_cons.1 j with rfl | j
        · have k := (t h).1
          cases D : last.all (fun z => lt z y) with
          | false => rfl
          | true => exact absurd (by simp [d, D, k]) n
        · exact (t h).2 y j d
      · obtain ⟨s, v, g, w, q⟩ := A h
        refine ⟨s, v, ?_, ?_, q⟩
        · rcases g with g | g
          · exact .inl (by simp [g])
          · exact .inr g
        · intro y j d i
          rcases List.mem_cons.1 j with rfl | j
          · cases p : lt y (kK R lt last xs ok b).2 with
            | false => rfl
            | true =>
              cases ok with
              | false => exact absurd (by simp [d, i]) n
              | true =>
                have G : lt y b = false := by
                  cases J : lt y b with
                  | false => rfl
                  | true => exact absurd (by simp [d, i, J]) n
                have u := m rfl
                rcases H.total y b d u.1 with r | r | r
                · rw [G] at r; cases r
                · subst r; rw [q rfl] at p; cases p
                · have := H.trans b y _ u.1 d s r p
                  simp only [q rfl] at this
                  cases this
          · exact w y j d i
theorem nS (H : tZ (fun a b => lt a b = true) (fun x => R x = true)) {l : List α} (g : ∀ x ∈ l, R x = true) (h : l.Pairwise (fun a b => lt a b = true)) : l.Nodup := by
  refine h.imp_of_mem (fun {a b} ha i d e => ?_)
  subst e
  exact H.irrefl a (g a ha) d
theorem eG : ∀ {l m : List α}, l.Nodup → (∀ x ∈ l, x ∈ m) → l.length ≤ m.length
  | [], _, _, _ => by simp
  | x :: l, m, g, b => by
    obtain ⟨A, B, rfl⟩ := List.append_of_mem (b x (by simp))
    have a := List.nodup_cons.1 g
    have := eG (l := l) (m := A ++ B) a.2 (fun y d => by
      have := b y (List.mem_cons_of_mem _ d)
      simp only [List.mem_append, List.mem_cons] at this ⊢
      rcases this with h | h | h
      · exact .inl h
      · subst h; exact absurd d a.1
      · exact .inr h)
    simp at this ⊢; omega
theorem vM (H : tZ (fun a b => lt a b = true) (fun x => R x = true)) {w : Nat} (hw : w ≤ 1000) (d : α) (l : List α) (O : l.length ≤ 1000000000) : ∀ (n : Nat) (out : List α), l.length < n + out.length → out.Pairwise (fun a b => lt a b = true) → (∀ x ∈ out, x ∈ l ∧ R x = true) →
    (∀ x ∈ l, R x = true → x ∈ out ∨ out.getLast?.all (fun y => lt y x) = true) → ∃ s, tY w R lt d l n out = some s ∧ oM (fun a b => lt a b = true) (fun x => R x = true) l s
  | 0, out, P, hp, hm, D => by
    exfalso
    have := eG (nS H (fun x g => (hm x g).2) hp) (fun x g => (hm x g).1)
    omega
  | n + 1, out, P, hp, hm, D => by
    rw [tY]
    obtain ⟨J, L⟩ := yD H out.getLast? l false d (fun h => by cases h)
    have hlen := eG (nS H (fun x g => (hm x g).2) hp) (fun x g => (hm x g).1)
    cases F : (kK R lt out.getLast? l false d).1 with
    | false =>
      rw [if_pos (by simp)]
      refine ⟨out, rfl, hp, fun x => ⟨hm x, fun g => ?_⟩⟩
      rcases D x g.1 g.2 with h | h
      · exact h
      · rw [(J F).2 x g.1 g.2] at h; cases h
    | true =>
      rw [if_neg (by simp)]
      obtain ⟨t, u, G, I, _⟩ := L F
      generalize (kK R lt out.getLast? l false d).2 = b at *
      have v : b ∈ l := by rcases G with h | ⟨h, _⟩; exact h; cases h
      have q : ∀ y ∈ out, lt y b = true := by
        intro y i
        obtain ⟨A, z, rfl⟩ : ∃ A z, out = A ++ [z] := by
          rcases List.eq_nil_or_concat out with h | ⟨A, z, h⟩
          · subst h; cases i
          · exact ⟨A, z, by rw [h]; simp⟩
        simp at u
        rcases List.mem_append.1 i with i | i
        · have E : lt y z = true := (List.pairwise_append.1 hp).2.2 y i z (by simp)
          exact H.trans y z b (hm y (by simp [i])).2 (hm z (by simp)).2 t E u
        · simp at i; subst i; exact u
      have r : (out ++ [b]).Pairwise (fun a b => lt a b = true) := List.pairwise_append.2 ⟨hp, by simp, fun x g y i => by simp at i; subst i; exact q x g⟩
      have m : ∀ x ∈ out ++ [b], x ∈ l ∧ R x = true := fun x g => by
        rcases List.mem_append.1 g with g | g
        · exact hm x g
        · simp at g; subst g; exact ⟨v, t⟩
      have k := eG (nS H (fun x g => (m x g).2) r) (fun x g => (m x g).1)
      simp at k
      rw [eW (by simp only [List.length_cons, List.length_nil]; have : (out.length + (0 + 1)) * w ≤ 1000000000 * 1000 := Nat.mul_le_mul (by omega) hw; omega) (by simp; omega)]
      simp only [Option.bind_some]
      refine vM H hw d l O n (out ++ [b]) (by simp; omega) r m (fun x g j => ?_)
      rcases D x g j with h | h
      · exact .inl (by simp [h])
      · have M := I x g j h
        rcases H.total x b j t with p | p | p
        · rw [M] at p; cases p
        · subst p; exact .inl (by simp)
        · exact .inr (by simp [p])
end
theorem AB {α : Type} (A : List α) (x : α) (a : A.length < 4611686018427387904) : dU (A ++ [x]) (IntKind.i64.wrap (((A ++ [x]).length : Int) - 1)) = some x := by
  rw [cP (by simp; try omega) (by simp; try omega)]
  rw [fj A x [] _ (by simp; try omega)]
theorem AK (out : List aB) (m : out.length < 4611686018427387904) : ∀ (l : List aB) (ok : Bool) (b : aB), kZ out l ok b = some (kK dS uT out.getLast? l ok b)
  | [], ok, b => rfl
  | x :: xs, ok, b => by
    rw [kZ, kK]
    have cmp : ∀ a b, ∃ c, lW a b = some c ∧ decide (c < 0) = uT a b := fun a b => by
      obtain ⟨c, j, k⟩ := ym a b
      exact ⟨c, j, by rw [Bool.eq_iff_iff, ← k]; simp⟩
    rw [ve, AK out m xs true x, AK out m xs ok b]
    obtain ⟨c, j, k⟩ := cmp x b
    rcases List.eq_nil_or_concat out with h | ⟨A, z, h⟩
    · subst h
      simp only [j, Option.bind_some, k, List.length_nil, Option.all, List.getLast?q]
      generalize uT x b = p
      cases dS x <;> cases ok <;> cases p <;> simp
    · have i : out = A ++ [z] := by rw [h]; simp
      obtain ⟨v, t, u⟩ := cmp z x
      have d : out.getLast? = some z := by rw [i]; simp
      have g : dU out (IntKind.i64.wrap ((out.length : Int) - 1)) = some z := by rw [i]; exact AB A z (by rw [i] at m; simp at m; omega)
      have n : ((out.length : Int) == 0) = false := by rw [i]; simp; omega
      rw [d]
      simp only [n, g, t, j, Option.bind_some, k, u, Option.all]
      rcases Bool.eq_false_or_eq_true (uT x b) with hp | hp <;> rcases Bool.eq_false_or_eq_true (uT z x) with r | r <;> rcases Bool.eq_false_or_eq_true (dS x) with s | s <;> cases ok <;> simp [hp, r, s]
theorem Na (a b : ByteArray) : (!(jz a b || dA a b)) = jz b a := by
  rcases tO a b with h | h | h
  · simp [h, Dg h]
  · subst h; simp [oy, mL]
  · have d := Dg h
    have g : dA a b = false := Fl (by rintro rfl; rw [mL] at h; cases h)
    simp [h, d, g]
theorem Hg {s : ByteArray} (h : fY s = true) : dA s zS = false := Fl (fun e => by have := gL h; rw [e, Jw] at this; omega)
theorem Ax (out : List ByteArray) (m : out.length < 4611686018427387904) : ∀ (l : List ByteArray) (b : ByteArray),
    ∃ n, kW out l b = some n ∧ (kK fY jz out.getLast? l (!dA b zS) b) = (!dA n zS, n)
  | [], b => ⟨b, rfl, rfl⟩
  | x :: xs, b => by
    rw [kW, kK]
    obtain ⟨y, v, d⟩ := Ax out m xs x
    obtain ⟨D, w, j⟩ := Ax out m xs b
    rw [ry, v, w]
    by_cases i : fY x = true
    · rw [Hg i] at d
      simp only [Bool.not_false] at d
      rcases List.eq_nil_or_concat out with h | ⟨A, z, h⟩
      · subst h
        simp only [Option.bind_some, List.length_nil, Option.all, List.getLast?s, i] at *
        rw [d, j]
        generalize jz x b = p
        generalize dA b zS = q
        cases p <;> cases q <;> simp
      · have k : out = A ++ [z] := by rw [h]; simp
        have a : out.getLast? = some z := by rw [k]; simp
        have g : dU out (IntKind.i64.wrap ((out.length : Int) - 1)) = some z := by rw [k]; exact AB A z (by rw [k] at m; simp at m; omega)
        have r : ((out.length : Int) == 0) = false := by rw [k]; simp; omega
        rw [a] at d j ⊢
        simp only [r, g, Option.bind_some, Option.all, Na, i]
        rw [d, j]
        rcases Bool.eq_false_or_eq_true (jz x b) with hp | hp <;> rcases Bool.eq_false_or_eq_true (jz z x) with t | t <;> rcases Bool.eq_false_or_eq_true (dA b zS) with u | u <;> simp [hp, t, u]
    · simp only [Bool.not_eq_true] at i
      rw [i, j]
      simp
theorem Jf (a : List aB) : ∀ (n : Nat) (out s : List aB), tY 136 dS uT (⟨0, ⟨zS, zS⟩, zS, ⟨zS, zS⟩, ⟨zS, zS⟩, zS⟩ : aB) a n out = some s → s.length < 4611686018427387904 → mV a n out = some s ∧ out.length ≤ s.length
  | 0, out, s, h, _ => by cases h
  | n + 1, out, s, h, k => by
    rw [tY] at h
    rw [mV]
    have key : out.length ≤ s.length → kZ out a false (⟨0, ⟨zS, zS⟩, zS, ⟨zS, zS⟩, ⟨zS, zS⟩, zS⟩ : aB) = _ := fun m => AK out (by omega) a false _
    split at h
    · b g
      cases h
      rw [key (Nat.le_refl _)]
      simp only [Option.bind_some]
      rw [if_pos g]
      exact ⟨rfl, Nat.le_refl _⟩
    · b g
      obtain ⟨o, d, i⟩ := bind_some h
      have j := Jf a n o s i k
      have l : out.length + 1 = o.length := by
        unfold eS at d; split at d
        · cases d; simp
        · cases d
      rw [key (by omega)]
      simp only [Option.bind_some]
      rw [if_neg g, d]
      exact ⟨j.1, by omega⟩
theorem Jk (a : List ByteArray) : ∀ (n : Nat) (out s : List ByteArray), tY 16 fY jz zS a n out = some s → s.length < 4611686018427387904 → mR a n out = some s ∧ out.length ≤ s.length
  | 0, out, s, h, _ => by cases h
  | n + 1, out, s, h, p => by
    rw [tY] at h
    rw [mR]
    have key : out.length ≤ s.length → ∃ g, kW out a zS = some g ∧ kK fY jz out.getLast? a false zS = (!dA g zS, g) := fun r => by
      have := Ax out (by omega) a zS
      rw [oy] at this
      exact this
    split at h
    · b i
      cases h
      obtain ⟨g, j, k⟩ := key (Nat.le_refl _)
      rw [j]
      rw [k] at i
      simp only [Option.bind_some]
      rw [if_pos (by simpa using i)]
      exact ⟨rfl, Nat.le_refl _⟩
    · b i
      obtain ⟨o, d, l⟩ := bind_some h
      have m := Jk a n o s l p
      have q : out.length + 1 = o.length := by
        unfold eS at d; split at d
        · cases d; simp
        · cases d
      obtain ⟨g, j, k⟩ := key (by omega)
      rw [j]
      rw [k] at i d
      simp only [Option.bind_some]
      rw [if_neg (by simpa using i), d]
      exact ⟨m.1, by omega⟩
abbrev Lw (l s : List ByteArray) := oM (fun a b => jz a b = true) (fun x => fY x = true) l s
abbrev Ev (l s : List aB) := oM (fun a b => uT a b = true) (fun x => dS x = true) l s
theorem uW {α : Type} {lt : α → α → Bool} {R : α → Bool} (H : tZ (fun a b => lt a b = true) (fun x => R x = true)) {l s : List α} (h : oM (fun a b => lt a b = true) (fun x => R x = true) l s) : s.length ≤ l.length :=
  eG (nS H (fun x d => ((h.2 x).1 d).2) h.1) (fun x d => ((h.2 x).1 d).1)
theorem Cw (l : List aB) (d : l.length ≤ 1000000000) : ∃ s, nV l = some s ∧ Ev l s := by
  obtain ⟨s, b, a⟩ := vM vv (w := 136) (by omega) (⟨0, ⟨zS, zS⟩, zS, ⟨zS, zS⟩, ⟨zS, zS⟩, zS⟩ : aB) l d bL [] (by rw [qe]; omega) (by simp) (by simp) (fun x _ _ => .inr rfl)
  exact ⟨s, (Jf l bL [] s b (by have := uW vv a; omega)).1, a⟩
theorem J2 (l : List ByteArray) (d : l.length ≤ 1000000000) : ∃ s, tE l = some s ∧ Lw l s := by
  obtain ⟨s, b, a⟩ := vM (Jc (fun x => fY x = true)) (w := 16) (by omega) zS l d bL [] (by rw [qe]; omega) (by simp) (by simp) (fun x _ _ => .inr rfl)
  exact ⟨s, (Jk l bL [] s b (by have := uW (Jc _) a; omega)).1, a⟩
end Go.Proofs.YtmlncblocfcmiaaGreat
namespace Go.Proofs.YtmlncblocfcmiaaGreat
open Go.RowKit
def zC : aB := ⟨0, ⟨zS, zS⟩, zS, ⟨zS, zS⟩, ⟨zS, zS⟩, zS⟩
theorem F0 (f : aB → Option Bool) : ∀ (n : Nat) (l : List aB) (i j : Int), ga f n l i j = xm f zC n l i j
  | 0, _, _, _ => rfl
  | n + 1, l, i, j => by
    rw [ga, xm]
    simp only [F0 f n]
    rfl
theorem Fw (f : aB → Option Bool) : ∀ (l : List aB) (i : Nat), gZ f l i = sW f l i
  | [], _ => rfl
  | x :: l, i => by rw [gZ, sW]; simp only [Fw f l]
theorem Ah (f : aB → Option Bool) (l : List aB) : gF l f = Cp f zC l := by
  unfold gF Cp nv
  simp only [Fw, F0]
theorem Ez (i : Int) : ∀ (n : Nat) (l : List aB) (k j : Int), gE i n l k j = uX bT i n l k j
  | 0, _, _, _ => rfl
  | n + 1, l, k, j => by
    rw [gE, uX]
    simp only [Ez i n]
theorem EX (l : List aB) : ∀ (n : Nat) (i : Int), gG l n i = wm bT zC l n i
  | 0, _ => rfl
  | n + 1, i => by
    rw [gG, wm]
    simp only [EX l n, Ez]
    rfl
theorem Ip (l : List aB) : lX l = EO bT zC l := by
  unfold lX EO
  simp only [EX]
theorem D4 {l : List aB} (a : l.length ≤ 1000000000) : iy l = some l := by
  unfold iy
  rw [eW (by simp; omega) (by simp; omega)]
  simp
theorem GH (l : List aB) (h : l.length ≤ 1000000000) : ∃ s, nP l = some s ∧ Ev l s := by
  unfold nP
  rw [D4 h]
  simp only [Option.bind_some]
  rw [Ah, wS _ (fun x => !dS x) zC l (by omega) (fun x _ => by simp [ri, pF])]
  simp only [Option.bind_some, Bool.not_not]
  have k : (l.filter fun x => dS x).length ≤ l.length := List.length_filter_le _ _
  obtain ⟨s, g, j, d⟩ := zL (eq := bT) (lt := fun a b => uT a b = true) (P := fun x => dS x = true) (cf := fun x => mT x.1 x.2) (l := l.filter fun x => dS x) (fun x y => eU) vv (fun x i => (List.mem_filter.1 i).2) (by omega) (fun x y _ _ => zz x y)
  rw [g]
  simp only [Option.bind_some]
  rw [Ip, D7 _ _ _ (by omega)]
  refine ⟨_, rfl, d.1, fun x => ?_⟩
  rw [d.2]
  simp
theorem CE (b : List aB) : ∀ (A l : List aB), jj (A ++ l) l A.length = some true
  | A, [] => rfl
  | A, x :: l => by
    rw [jj, fj A x l _ rfl]
    simp only [Option.bind_some]
    rw [eU.2 rfl]
    simp only [Bool.not_true, Bool.false_eq_true, if_false]
    have := CE b (A ++ [x]) l
    simpa using this
theorem DD (l : List aB) : fW l l = some true := by
  unfold fW
  rw [if_neg (by simp)]
  exact CE [] [] l
end Go.Proofs.YtmlncblocfcmiaaGreat
namespace Go.Proofs.YtmlncblocfcmiaaGreat
open Go.RowKit
def tt {κ : Type} (ks : List κ) : List (κ × Bool) := ks.map fun k => (k, true)
def eP {κ : Type} (beq : κ → κ → Bool) (ks : List κ) (k : κ) : Bool := ks.any fun x => beq k x
def ins {κ : Type} (beq : κ → κ → Bool) (ks : List κ) (k : κ) : List κ := if eP beq ks k then ks else ks ++ [k]
section
variable {κ : Type} {beq : κ → κ → Bool}
theorem mw (a : ∀ {x y}, beq x y = true ↔ x = y) (ks : List κ) (k : κ) : eP beq ks k = true ↔ k ∈ ks := by
  simp [eP, List.any_eq_true, a]
theorem HZ (ks : List κ) : (tt ks).length = ks.length := by simp [tt]
theorem IT (ks : List κ) (k : κ) : tC beq (tt ks) k false = eP beq ks k := by
  unfold tC dE eP tt
  induction ks with
  | nil => rfl
  | cons x xs ih =>
    simp only [List.map_cons, List.find?a, List.any_cons]
    cases h : beq k x with
    | true => simp
    | false => simpa using ih
theorem Ju (t : ∀ {x y}, beq x y = true ↔ x = y) (ks : List κ) (k : κ) : gH beq (tt ks) k true = tt (ins beq ks k) := by
  unfold gH ins
  have u : (tt ks).findIdx? (fun p => beq k p.1) = ks.findIdx? (fun x => beq k x) := by
    unfold tt; rw [List.findIdx?n]; rfl
  rw [u]
  cases h : ks.findIdx? (fun x => beq k x) with
  | none =>
    rw [List.findIdx?b] at h
    rw [if_neg]
    · simp [tt]
    · intro l
      unfold eP at l
      rw [List.any_eq_true] at l
      obtain ⟨x, v, g⟩ := l
      rw [h x v] at g
      cases g
  | some i =>
    rw [List.findIdx?a] at h
    obtain ⟨s, r, _⟩ := h
    have e := t.1 r
    rw [if_pos]
    · simp only [tt]
      apply List.ext_getElem?
      intro j
      rw [List.getElem?q]
      split
      · d m
        subst m
        simp [s, e]
      · rfl
    · unfold eP
      exact List.any_eq_true.2 ⟨ks[i], List.getElem_mem s, r⟩
end
section
variable {all : List aB} {wants : List aA} {T : List aA} {W : List ByteArray} {R : List aB}
def gO (c : aB) : List aA := if c.Kind = 1 then [] else if c.Kind = 4 then [c.B, c.C] else [c.B]
end
theorem zr (x : aB) : ∀ l : List aB, po l x = some (eP bT l x)
  | [] => rfl
  | y :: l => by
    have ih := zr x l
    unfold po at ih ⊢
    rw [qn, ih]
    have : bT y x = bT x y := by rw [Bool.eq_iff_iff, eU, eU]; exact eq_comm
    rw [this]
    simp only [eP, List.any_cons]
    cases bT x y <;> simp
end Go.Proofs.YtmlncblocfcmiaaGreat
namespace Go.Proofs.YtmlncblocfcmiaaGreat
open Go.RowKit
theorem Lt {c : aB} (h : dS c = true) : rU c = some (c.Head :: gO c) := by
  unfold rU
  rw [pF, h]
  simp only [Option.bind_some, Bool.not_true, Bool.false_eq_true, if_false]
  have a : c.Kind = 1 ∨ c.Kind = 2 ∨ c.Kind = 3 ∨ c.Kind = 4 := by rcases ib h with h | h | h | h <;> simp [h.1]
  rcases a with k | k | k | k
  · simp [k, gO]
  · rw [if_pos (by simp [k]), eW (by simp) (by simp)]
    simp [k, gO]
  · rw [if_pos (by simp [k]), eW (by simp) (by simp)]
    simp [k, gO]
  · rw [if_pos (by simp [k]), eW (by simp) (by simp)]
    simp only [Option.bind_some]
    rw [if_pos (by simp [k]), eW (by simp) (by simp)]
    simp [k, gO]
theorem oM.congr {α : Type} {lt : α → α → Prop} {P : α → Prop} {l m s : List α} (h : oM lt P l s) (hm : ∀ x, x ∈ l ↔ x ∈ m) : oM lt P m s := ⟨h.1, fun x => by rw [h.2, hm]⟩
theorem Jy {κ : Type} (ks : List κ) : (tt ks).map (·.1) = ks := by simp [tt, Function.comp_def]
end Go.Proofs.YtmlncblocfcmiaaGreat
namespace Go.Proofs.YtmlncblocfcmiaaGreat
open Go.RowKit
def rl (c : aB) : Nat := c.Head.aC.size + c.Head.aJ.size + c.cH.size + c.B.aC.size + c.B.aJ.size + c.C.aC.size + c.C.aJ.size + c.cO.size
end Go.Proofs.YtmlncblocfcmiaaGreat
namespace Go.Proofs.YtmlncblocfcmiaaGreat
open Go.RowKit
section
variable {κ γ : Type} {beq : κ → κ → Bool}
theorem kl (d : ∀ {x y}, beq x y = true ↔ x = y) {A B : List (κ × γ)} {k : κ} {x : γ} (g : ∀ p ∈ A, p.1 ≠ k) : dE beq (A ++ (k, x) :: B) k = some x := by
  unfold dE
  rw [List.find?b]
  have : A.find? (fun p => beq k p.1) = none := List.find?a.2 (fun p hp h => g p hp (d.1 h).symm)
  rw [this]
  simp [d.2 (rfl : k = k)]
theorem pt (b : ∀ {x y}, beq x y = true ↔ x = y) {l : List (κ × γ)} {k : κ} (h : ∀ p ∈ l, p.1 ≠ k) : dE beq l k = none := by
  unfold dE
  rw [List.find?a.2 (fun p hp d => h p hp (b.1 d).symm)]
  rfl
theorem qk (g : ∀ {x y}, beq x y = true ↔ x = y) {A B : List (κ × γ)} {k : κ} {x y : γ} (j : ∀ p ∈ A, p.1 ≠ k) : gH beq (A ++ (k, x) :: B) k y = A ++ (k, y) :: B := by
  have i : (A ++ (k, x) :: B).findIdx? (fun p => beq k p.1) = some A.length := by
    rw [List.findIdx?b, List.findIdx?a.2 (fun p hp => by
      cases h : beq k p.1 with
      | false => rfl
      | true => exact absurd (g.1 h).symm (j p hp))]
    simp [List.findIdx?d, g.2 (rfl : k = k)]
  rw [kk i]
  simp
theorem wM (b : ∀ {x y}, beq x y = true ↔ x = y) {l : List (κ × γ)} {k : κ} {y : γ} (h : ∀ p ∈ l, p.1 ≠ k) : gH beq l k y = l ++ [(k, y)] := by
  refine oC (List.findIdx?a.2 (fun p hp => ?_)) y
  cases d : beq k p.1 with
  | false => rfl
  | true => exact absurd (b.1 d).symm (h p hp)
theorem nL (k : κ) : ∀ (l : List (κ × γ)), (∀ p ∈ l, p.1 ≠ k) ∨ ∃ A x B, l = A ++ (k, x) :: B ∧ ∀ p ∈ A, p.1 ≠ k
  | [] => .inl (fun _ h => by cases h)
  | p :: l => by
    by_cases hp : p.1 = k
    · exact .inr ⟨[], p.2, l, by rw [← hp]; rfl, fun _ h => by cases h⟩
    · rcases nL k l with h | ⟨A, x, B, rfl, h⟩
      · exact .inl (fun q a => by rcases List.mem_cons.1 a with rfl | a; exact hp; exact h q a)
      · exact .inr ⟨p :: A, x, B, rfl, fun q a => by rcases List.mem_cons.1 a with rfl | a; exact hp; exact h q a⟩
theorem Au (b : ∀ {x y}, beq x y = true ↔ x = y) (A B : List (κ × γ)) (k : κ) : dE beq (A ++ B) k = (dE beq A k).or (dE beq B k) := by
  unfold dE
  rw [List.find?a]
  cases A.find? (fun p => beq k p.1) <;> rfl
theorem vE (p : κ × γ) (l : List (κ × γ)) (k : κ) : dE beq (p :: l) k = if beq k p.1 = true then some p.2 else dE beq l k := by
  unfold dE
  rw [List.find?a]
  cases beq k p.1 <;> simp
theorem yZ (b : ∀ {x y}, beq x y = true ↔ x = y) (l : List (κ × γ)) (k d : κ) (y : γ) : dE beq (gH beq l k y) d = if beq d k = true then some y else dE beq l d := by
  rcases nL k l with h | ⟨A, x, B, rfl, h⟩
  · rw [wM b h, Au b, vE]
    by_cases a : beq d k = true
    · have := b.1 a
      subst this
      rw [if_pos a, if_pos a, pt b h]; rfl
    · rw [if_neg a, if_neg a]
      show (dE beq l d).or none = _
      cases dE beq l d <;> rfl
  · rw [qk b h, Au b, vE, Au b, vE]
    by_cases a : beq d k = true
    · have := b.1 a
      subst this
      rw [if_pos a, if_pos a, pt b h]; rfl
    · rw [if_neg a, if_neg a, if_neg a]
end
abbrev iB := List (aA × List ByteArray)
def mm (T : iB) : List (aA × List (ByteArray × Bool)) := T.map fun p => (p.1, tt p.2)
def lm (T : iB) (r : aA) : List ByteArray := (dE bB T r).getD []
def FS (T : iB) : List aV := T.flatMap fun p => p.2.map fun w => (⟨p.1, w⟩ : aV)
def ze (T : iB) (r : aA) (w : ByteArray) : iB := gH bB T r (lm T r ++ [w])
theorem yz (A B : iB) : mm (A ++ B) = mm A ++ mm B := by simp [mm]
theorem sS {A : iB} {r : aA} (h : ∀ p ∈ A, p.1 ≠ r) : ∀ p ∈ mm A, p.1 ≠ r := by
  intro p hp
  simp only [mm, List.mem_map] at hp
  obtain ⟨q, a, rfl⟩ := hp
  exact h q a
theorem JJ (T : iB) (r : aA) : dE bB (mm T) r = (dE bB T r).map tt := by
  rcases nL r T with h | ⟨A, x, B, rfl, h⟩
  · rw [pt bD h, pt bD (sS h)]; rfl
  · rw [kl bD h, yz]
    exact kl bD (sS h)
theorem Fx (T : iB) (r : aA) : (dE bB (mm T) r).getD [] = tt (lm T r) := by
  rw [JJ, lm]; cases dE bB T r <;> rfl
theorem AS (T : iB) (r : aA) (w : ByteArray) : (FS (ze T r w)).Perm (FS T ++ [(⟨r, w⟩ : aV)]) := by
  unfold ze lm
  rcases nL r T with h | ⟨A, x, B, rfl, h⟩
  · rw [wM bD h, pt bD h]
    simp [FS]
  · rw [qk bD h, kl bD h]
    simp only [FS, List.flatMap_append, List.flatMap_cons, Option.getD_some, List.map_append, List.map_cons, List.map_nil, List.append_assoc]
    refine List.Perm.append_left _ (List.Perm.append_left _ ?_)
    exact List.perm_append_comm
theorem H7 {T : iB} (g : (T.map (·.1)).Nodup) (r : aA) (w : ByteArray) : ((ze T r w).map (·.1)).Nodup := by
  unfold ze
  rcases nL r T with h | ⟨A, x, B, rfl, h⟩
  · rw [wM bD h]
    simp only [List.map_append, List.map_cons, List.map_nil]
    refine List.nodup_append.2 ⟨g, by simp, fun a ha b d e => ?_⟩
    simp at d; subst d; subst e
    obtain ⟨p, hp, e⟩ := List.mem_map.1 ha
    exact h p hp e
  · rw [qk bD h]
    simpa using g
theorem vn {T : iB} (b : (T.map (·.1)).Nodup) (f : aV) : f ∈ FS T ↔ f.cH ∈ lm T f.aA := by
  simp only [FS, List.mem_flatMap, List.mem_map]
  constructor
  · rintro ⟨p, hp, w, hw, rfl⟩
    obtain ⟨A, B, rfl⟩ := List.append_of_mem hp
    have a : ∀ q ∈ A, q.1 ≠ p.1 := fun q g e => by
      rw [List.map_append, List.map_cons] at b
      exact (List.nodup_append.1 b).2.2 q.1 (List.mem_map.2 ⟨q, g, rfl⟩) p.1 (by simp) e
    rw [lm, show p = (p.1, p.2) from rfl, kl bD a]
    exact hw
  · intro h
    unfold lm at h
    rcases nL f.aA T with d | ⟨A, x, B, rfl, a⟩
    · rw [pt bD d] at h; cases h
    · rw [kl bD a] at h
      exact ⟨(f.aA, x), by simp, f.cH, h, rfl⟩
theorem Fa {T : iB} (h : (FS T).Nodup) (r : aA) : (lm T r).Nodup := by
  unfold lm
  rcases nL r T with d | ⟨A, x, B, rfl, b⟩
  · rw [pt bD d]; simp
  · rw [kl bD b]
    simp only [FS, List.flatMap_append, List.flatMap_cons] at h
    have a := (List.nodup_append.1 (List.nodup_append.1 h).2.1).1
    simp only [List.Nodup, List.pairwise_map] at a
    exact a.imp (fun h e => h (by rw [e]))
inductive ir (C : List aB) : aV → Prop
  | mem (c) : c ∈ C → c.Kind = 1 → ir C ⟨c.Head, c.cH⟩
  | inc (c w) : c ∈ C → c.Kind = 2 → ir C ⟨c.B, w⟩ → ir C ⟨c.Head, w⟩
  | BJ (c b w) : c ∈ C → c.Kind = 3 → ir C ⟨c.B, b⟩ → ir C ⟨⟨b, c.cO⟩, w⟩ → ir C ⟨c.Head, w⟩
  | both (c w) : c ∈ C → c.Kind = 4 → ir C ⟨c.B, w⟩ → ir C ⟨c.C, w⟩ → ir C ⟨c.Head, w⟩
theorem ir.mono {C C' : List aB} (h : ∀ c ∈ C, c ∈ C') {f : aV} (j : ir C f) : ir C' f := by
  induction j with
  | mem c a d => exact .mem c (h c a) d
  | inc c w a d _ ih => exact .inc c w (h c a) d ih
  | BJ c b w a d _ _ g i => exact .BJ c b w (h c a) d g i
  | both c w a d _ _ g i => exact .both c w (h c a) d g i
def Ac (C : List aB) : List aV := (C.map (·.Head)).flatMap fun r => (C.map (·.cH)).map fun w => (⟨r, w⟩ : aV)
theorem xd (C : List aB) : (Ac C).length = C.length * C.length := by
  unfold Ac
  have : ∀ l : List aA, (l.flatMap fun r => (C.map (·.cH)).map fun w => (⟨r, w⟩ : aV)).length = l.length * C.length := fun l => by
    induction l with
    | nil => simp
    | cons x l ih => simp only [List.flatMap_cons, List.length_append, ih, List.length_map, List.length_cons, Nat.add_mul]; omega
  rw [this, List.length_map]
theorem Jv {C : List aB} {r : aA} {w : ByteArray} : (⟨r, w⟩ : aV) ∈ Ac C ↔ (∃ c ∈ C, c.Head = r) ∧ ∃ c ∈ C, c.cH = w := by
  unfold Ac
  simp only [List.mem_flatMap, List.mem_map, aV.mk.injEq]
  constructor
  · rintro ⟨g, ⟨c, d, rfl⟩, h, ⟨b, a, rfl⟩, rfl, rfl⟩; exact ⟨⟨c, d, rfl⟩, b, a, rfl⟩
  · rintro ⟨⟨c, d, rfl⟩, b, a, rfl⟩; exact ⟨_, ⟨c, d, rfl⟩, _, ⟨b, a, rfl⟩, rfl, rfl⟩
theorem ir.Fo {C : List aB} {f : aV} (h : ir C f) : ∃ c ∈ C, c.Kind = 1 ∧ c.cH = f.cH := by
  induction h with
  | mem c g i => exact ⟨c, g, i, rfl⟩
  | inc c w g i _ ih => exact ih
  | BJ c b w g i _ _ a d => exact d
  | both c w g i _ _ a d => exact a
theorem ir.head {C : List aB} {f : aV} (h : ir C f) : ∃ c ∈ C, c.Head = f.aA := by
  cases h with
  | mem c a d => exact ⟨c, a, rfl⟩
  | inc c w a d _ => exact ⟨c, a, rfl⟩
  | BJ c b w a d _ _ => exact ⟨c, a, rfl⟩
  | both c w a d _ _ => exact ⟨c, a, rfl⟩
theorem ir.Ac {C : List aB} {f : aV} (h : ir C f) : f ∈ Ac C := by
  obtain ⟨c, a, _, hw⟩ := h.Fo
  exact Jv.2 ⟨h.head, c, a, hw⟩
structure jF (C : List aB) (T : iB) (td : List aV) (n : Int) : Prop where
  keys : (T.map (·.1)).Nodup
  nd : (FS T).Nodup
  FE : td.Nodup
  sub : ∀ f ∈ td, f ∈ FS T
  num : n = (FS T).length
  qK : ∀ f ∈ FS T, ir C f
theorem jF.len {C : List aB} {T : iB} {b : List aV} {n : Int} (h : jF C T b n) : (FS T).length ≤ C.length * C.length := by
  rw [← xd]; exact eG h.nd (fun f a => (h.qK f a).Ac)
theorem jF.KJ {C : List aB} {T : iB} {a : List aV} {n : Int} (h : jF C T a n) : a.length ≤ (FS T).length := eG h.FE h.sub
theorem jF.mono {C C' : List aB} {T : iB} {a : List aV} {n : Int} (h : jF C T a n) (b : ∀ c ∈ C, c ∈ C') : jF C' T a n := ⟨h.keys, h.nd, h.FE, h.sub, h.num, fun f d => (h.qK f d).mono b⟩
structure tU (T : iB) (td : List aV) (T' : iB) (td' : List aV) : Prop where
  eO : ∀ f ∈ FS T, f ∈ FS T'
  todo : ∀ f ∈ td, f ∈ td'
  new : ∀ f ∈ FS T', f ∈ FS T ∨ f ∈ td'
  fresh : ∀ f ∈ td', f ∈ td ∨ f ∉ FS T
theorem tU.refl (T : iB) (a : List aV) : tU T a T a := ⟨fun _ h => h, fun _ h => h, fun _ h => .inl h, fun _ h => .inl h⟩
theorem tU.trans {T T' T'' : iB} {j i a : List aV} (h : tU T j T' i) (k : tU T' i T'' a) : tU T j T'' a :=
  ⟨fun f d => k.eO f (h.eO f d), fun f d => k.todo f (h.todo f d), fun f d => by
    rcases k.new f d with b | b
    · rcases h.new f b with g | g
      · exact .inl g
      · exact .inr (k.todo f g)
    · exact .inr b, fun f d => by
    rcases k.fresh f d with b | b
    · exact h.fresh f b
    · exact .inr (fun g => b (h.eO f g))⟩
theorem Bj {α : Type} (p : α → Bool) : ∀ l : List α, (l.filter p).length + (l.filter fun x => !p x).length = l.length
  | [] => rfl
  | x :: l => by
    have := Bj p l
    cases h : p x <;> simp [h] <;> omega
theorem jF.Aa {C C' : List aB} {T T' : iB} {i d : List aV} {n p : Int} (j : jF C' T' d p) (g : jF C T i n) (x : tU T i T' d) : d.length + (FS T).length ≤ i.length + (FS T').length := by
  classical
  have q : (d.filter fun f => decide (f ∈ FS T)).length ≤ i.length := eG (j.FE.filter _) (fun f k => by
    have := List.mem_filter.1 k
    rcases x.fresh f this.1 with h | h
    · exact h
    · exact absurd (by simpa using this.2) h)
  have l : (FS T ++ d.filter fun f => !decide (f ∈ FS T)).length ≤ (FS T').length := eG (List.nodup_append.2 ⟨g.nd, j.FE.filter _, fun a ha b m e => by
    subst e
    have := (List.mem_filter.1 m).2
    simp [ha] at this⟩) (fun f k => by
    rcases List.mem_append.1 k with h | h
    · exact x.eO f h
    · exact j.sub f (List.mem_filter.1 h).1)
  have r : (d.filter fun f => decide (f ∈ FS T)).length + (d.filter fun f => !decide (f ∈ FS T)).length = d.length := by
    exact Bj (fun f => decide (f ∈ FS T)) d
  rw [List.length_append] at l
  omega
def wk (C : List aB) (T : iB) (g : List aV) (b : Option (List (aA × List (ByteArray × Bool)) × List aV × Int)) (Q : iB → Prop) : Prop :=
  ∃ T' a d, b = some (mm T', a, d) ∧ jF C T' a d ∧ tU T g T' a ∧ Q T'
theorem wk.mono {C : List aB} {T : iB} {g : List aV} {a : Option (List (aA × List (ByteArray × Bool)) × List aV × Int)} {Q Q' : iB → Prop} (h : wk C T g a Q) (l : ∀ T', (∀ f ∈ FS T, f ∈ FS T') → Q T' → Q' T') : wk C T g a Q' := by
  obtain ⟨T', b, m, i, j, d, k⟩ := h
  exact ⟨T', b, m, i, j, d, l T' d.eO k⟩
def ky (C : List aB) : Prop := C.length ≤ 1000000
theorem ky.sq {C : List aB} (h : ky C) : C.length * C.length ≤ 1000000000000 := Nat.mul_le_mul h h
theorem mK {T : iB} (a : (T.map (·.1)).Nodup) (r : aA) (w : ByteArray) : tC dA ((dE bB (mm T) r).getD []) w false = true ↔ (⟨r, w⟩ : aV) ∈ FS T := by
  rw [Fx, IT, mw eB, vn a]
theorem wE {C : List aB} (z : ky C) {T : iB} {m : List aV} {n : Int} (h : jF C T m n) (cs : List aB) (us : List (aA × List aB)) (ws : List (ByteArray × List aB)) {r : aA} {w : ByteArray} (D : ir C ⟨r, w⟩) :
    wk C T m (gp (mm T) cs us ws m n r w) (fun T' => (⟨r, w⟩ : aV) ∈ FS T') := by
  unfold gp
  have F := z.sq
  have J := h.len
  have G := h.KJ
  by_cases g : (⟨r, w⟩ : aV) ∈ FS T
  · rw [if_pos ((mK h.keys r w).2 g)]
    exact ⟨T, m, n, rfl, h, tU.refl _ _, g⟩
  · rw [if_neg (fun u => g ((mK h.keys r w).1 u))]
    have E : jF C (ze T r w) (m ++ [⟨r, w⟩]) (n + 1) := by
      have hp := AS T r w
      refine ⟨H7 h.keys r w, (hp.nodup_iff).2 (List.nodup_append.2 ⟨h.nd, by simp, fun a ha b q e => ?_⟩), List.nodup_append.2 ⟨h.FE, by simp, fun a ha b q e => ?_⟩, fun f d => hp.mem_iff.2 ?_, ?_, fun f d => ?_⟩
      · simp at q; subst q; subst e; exact g ha
      · simp at q; subst q; subst e; exact g (h.sub _ ha)
      · rcases List.mem_append.1 d with d | d
        · exact List.mem_append_left _ (h.sub f d)
        · exact List.mem_append_right _ d
      · rw [hp.length_eq, h.num]; simp
      · rcases List.mem_append.1 (hp.mem_iff.1 d) with d | d
        · exact h.qK f d
        · simp at d; subst d; exact D
    have v : ((if (dE bB (mm T) r).isNone = true then ((AM bB (mm T) r []).bind fun l => some l) else some (mm T)) : Option _).bind (fun l => (Af bB dA l r w true)) = some (mm (ze T r w)) := by
      unfold ze lm
      rcases nL r T with k | ⟨A, x, B, rfl, t⟩
      · have s := pt bD (sS k)
        rw [s, pt bD k, wM bD k, yz]
        simp only [Option.isNone_none, if_true, AM, s, Option.bind_some]
        rw [wM bD (sS k)]
        unfold Af
        rw [kl bD (sS k)]
        simp only [Option.map_some]
        rw [qk bD (sS k)]
        rfl
      · have p := sS t
        have y : dE bB (mm (A ++ (r, x) :: B)) r = some (tt x) := by rw [yz]; exact kl bD p
        rw [y, kl bD t, qk bD t]
        simp only [Option.isNone_some, Bool.false_eq_true, if_false, Option.bind_some, Af, y, Option.map_some, Option.getD_some]
        have I : w ∉ x := fun hw => g (by
          rw [vn h.keys, lm, kl bD t]; exact hw)
        rw [Ju eB]
        rw [show ins dA x w = x ++ [w] from by unfold ins; rw [if_neg (fun u => I ((mw eB x w).1 u))]]
        rw [yz, show mm ((r, x) :: B) = (r, tt x) :: mm B from rfl, qk bD p, yz]
        rfl
    refine ⟨ze T r w, m ++ [⟨r, w⟩], n + 1, ?_, E, ⟨fun f d => (AS T r w).mem_iff.2 (List.mem_append_left _ d), fun f d => List.mem_append_left _ d, fun f d => ?_, fun f d => ?_⟩, (AS T r w).mem_iff.2 (by simp)⟩
    · have i := v
      generalize ((if (dE bB (mm T) r).isNone = true then ((AM bB (mm T) r []).bind fun l => some l) else some (mm T)) : Option _) = o at i
      cases o with
      | none => cases i
      | some l =>
        simp only [Option.bind_some] at i ⊢
        rw [i]
        simp only [Option.bind_some]
        rw [eW (by simp; omega) (by simp; omega)]
        simp only [Option.bind_some]
        rw [cP (by rw [h.num]; omega) (by rw [h.num]; omega)]
    · rcases List.mem_append.1 ((AS T r w).mem_iff.1 d) with j | j
      · exact .inl j
      · exact .inr (List.mem_append_right _ j)
    · rcases List.mem_append.1 d with j | j
      · exact .inl j
      · simp at j; subst j; exact .inr g
end Go.Proofs.YtmlncblocfcmiaaGreat
namespace Go.Proofs.YtmlncblocfcmiaaGreat
open Go.RowKit
theorem tD (l : List ByteArray) (x : ByteArray) : x ∈ oq l ↔ x ∈ l := by unfold oq; simp
def lK (C : List aB) : Prop := ∀ c ∈ C, dS c = true
theorem Ho {c : aB} (h : dS c = true) (a : c.Kind = 1) : c.cH.size ≤ 16 := by
  rcases ib h with h | h | h | h
  · exact (gL h.2.1).2
  · exact absurd (a.symm.trans h.1) (by decide)
  · exact absurd (a.symm.trans h.1) (by decide)
  · exact absurd (a.symm.trans h.1) (by decide)
theorem IR {T : iB} (r : aA) (d : (T.map (·.1)).Nodup) : (lm T r).length ≤ (FS T).length := by
  unfold lm
  rcases nL r T with b | ⟨A, x, B, rfl, a⟩
  · rw [pt bD b]; simp
  · rw [kl bD a]
    simp only [FS, List.flatMap_append, List.flatMap_cons, List.length_append, List.length_map, Option.getD_some]
    omega
theorem AV {C : List aB} (a : ky C) (b : lK C) {T : iB} {j : List aV} {n : Int} (h : jF C T j n) (cs : List aB) (us : List (aA × List aB)) (ws : List (ByteArray × List aB)) (q : List aV) (z : Int) (r : aA) :
    jN (mm T) cs us ws q z r = some (oq (lm T r)) := by
  unfold jN gY
  rw [Fx]
  simp only [Option.bind_some, gh]
  have m := IR r h.keys
  have k := h.len
  have l := a.sq
  unfold Bh
  rw [Jy, if_pos]
  refine ⟨Fa h.nd r, fun p hp => ?_, by rw [HZ]; omega⟩
  simp only [tt, List.mem_map] at hp
  obtain ⟨w, hw, rfl⟩ := hp
  have g := h.qK ⟨r, w⟩ ((vn h.keys ⟨r, w⟩).2 hw)
  obtain ⟨c, d, i, e⟩ := g.Fo
  have := Ho (b c d) i
  simp only at e ⊢
  rw [← e]
  unfold maxLen
  omega
theorem Hv {C : List aB} (g : ky C) (cs : List aB) (us : List (aA × List aB)) (ws : List (ByteArray × List aB)) (head : aA) : ∀ (l : List ByteArray) {T : iB} {a : List aV} {n : Int}, jF C T a n → (∀ w ∈ l, ir C ⟨head, w⟩) →
    wk C T a (ju cs us ws head l (mm T) a n) (fun T' => ∀ w ∈ l, (⟨head, w⟩ : aV) ∈ FS T')
  | [], T, a, n, h, _ => ⟨T, a, n, rfl, h, tU.refl _ _, fun _ hw => by cases hw⟩
  | w :: l, T, a, n, h, i => by
    rw [ju]
    obtain ⟨T1, t, u, j, m, x1, r⟩ := wE g h cs us ws (i w (by simp))
    rw [j]
    simp only [Option.bind_some]
    obtain ⟨T2, d, q, k, p, x2, s⟩ := Hv g cs us ws head l m (fun w hw => i w (by simp [hw]))
    refine ⟨T2, d, q, k, p, x1.trans x2, fun v b => ?_⟩
    rcases List.mem_cons.1 b with rfl | b
    · exact x2.eO _ r
    · exact s v b
theorem Ls {C : List aB} (b : ky C) (d : lK C) {T : iB} {a : List aV} {n : Int} (h : jF C T a n) (cs : List aB) (us : List (aA × List aB)) (ws : List (ByteArray × List aB)) (r head : aA) (g : ∀ w, (⟨r, w⟩ : aV) ∈ FS T → ir C ⟨head, w⟩) :
    wk C T a (nr (mm T) cs us ws a n r head) (fun T' => ∀ w, (⟨r, w⟩ : aV) ∈ FS T → (⟨head, w⟩ : aV) ∈ FS T') := by
  unfold nr
  rw [AV b d h]
  simp only [Option.bind_some]
  refine (Hv b cs us ws head _ h (fun w hw => g w ((vn h.keys ⟨r, w⟩).2 ((tD _ _).1 hw)))).mono (fun T' _ i w hw => i w ((tD _ _).2 ((vn h.keys ⟨r, w⟩).1 hw)))
def yV (c : aB) (f : aV) (T T' : iB) : Prop :=
  (c.Kind = 2 → f.aA = c.B → (⟨c.Head, f.cH⟩ : aV) ∈ FS T') ∧
  (c.Kind = 3 → f.aA = c.B → ∀ w, (⟨⟨f.cH, c.cO⟩, w⟩ : aV) ∈ FS T → (⟨c.Head, w⟩ : aV) ∈ FS T') ∧
  (c.Kind = 4 → (⟨c.B, f.cH⟩ : aV) ∈ FS T → (⟨c.C, f.cH⟩ : aV) ∈ FS T → (⟨c.Head, f.cH⟩ : aV) ∈ FS T')
theorem yV.mono {c : aB} {f : aV} {T T' T0 T1 : iB} (h : yV c f T T') (g : ∀ f ∈ FS T0, f ∈ FS T) (i : ∀ f ∈ FS T', f ∈ FS T1) : yV c f T0 T1 :=
  ⟨fun a b => i _ (h.1 a b), fun a b w hw => i _ (h.2.1 a b w (g _ hw)), fun a b d => i _ (h.2.2 a (g _ b) (g _ d))⟩
theorem Jq (x : Option (List (aA × List (ByteArray × Bool)) × List aV × Int)) : (x.bind fun r => some (r.1, r.2.1, r.2.2)) = x := by cases x <;> rfl
theorem HV {C : List aB} (m : ky C) (t : lK C) {T : iB} {i : List aV} {n : Int} (h : jF C T i n) (cs : List aB) (us : List (aA × List aB)) (ws : List (ByteArray × List aB)) {c : aB} (p : c ∈ C) {f : aV} (r : f ∈ FS T) (s : f.aA ∈ gO c) :
    wk C T i (kO (mm T) cs us ws i n c f) (yV c f T) := by
  unfold kO
  simp only [Jq, xh]
  by_cases a : c.Kind = 2
  · have l : f.aA = c.B := by simpa [gO, a] using s
    rw [if_pos (by simp [a])]
    have q : ir C ⟨c.Head, f.cH⟩ := .inc c f.cH p a (by rw [← l]; exact h.qK f r)
    refine (wE m h cs us ws q).mono (fun T' _ g => ⟨fun _ _ => g, fun k => absurd (a.symm.trans k) (by decide), fun k => absurd (a.symm.trans k) (by decide)⟩)
  rw [if_neg (by simp [a])]
  by_cases b : c.Kind = 3
  · have l : f.aA = c.B := by simpa [gO, b] using s
    rw [if_pos (by simp [b])]
    refine (Ls m t h cs us ws ⟨f.cH, c.cO⟩ c.Head (fun w hw => .BJ c f.cH w p b (by rw [← l]; exact h.qK f r) (h.qK _ hw))).mono (fun T' _ g => ⟨fun k => absurd k a, fun _ _ w hw => g w hw, fun k => absurd (b.symm.trans k) (by decide)⟩)
  rw [if_neg (by simp [b])]
  by_cases j : c.Kind = 4
  · rw [if_pos (by simp [j])]
    simp only [Option.bind_some]
    by_cases d : (⟨c.B, f.cH⟩ : aV) ∈ FS T ∧ (⟨c.C, f.cH⟩ : aV) ∈ FS T
    · rw [if_pos (by rw [Bool.and_eq_true, mK h.keys, mK h.keys]; exact d)]
      have q : ir C ⟨c.Head, f.cH⟩ := .both c f.cH p j (h.qK _ d.1) (h.qK _ d.2)
      exact (wE m h cs us ws q).mono (fun T' _ g => ⟨fun k => absurd k a, fun k => absurd k b, fun _ _ _ => g⟩)
    · rw [if_neg (by rw [Bool.and_eq_true, mK h.keys, mK h.keys]; exact d)]
      exact ⟨T, i, n, rfl, h, tU.refl _ _, fun k => absurd k a, fun k => absurd k b, fun _ x y => absurd ⟨x, y⟩ d⟩
  · rw [if_neg (by simp [j])]
    exact ⟨T, i, n, rfl, h, tU.refl _ _, fun k => absurd k a, fun k => absurd k b, fun k => absurd k j⟩
theorem Eh {C : List aB} (g : ky C) (i : lK C) (cs : List aB) (us : List (aA × List aB)) (ws : List (ByteArray × List aB)) {c : aB} (j : c ∈ C) (k : c.B ∈ gO c) : ∀ (l : List ByteArray) {T : iB} {a : List aV} {n : Int}, jF C T a n → (∀ w ∈ l, (⟨c.B, w⟩ : aV) ∈ FS T) →
    wk C T a (iL cs us ws c l (mm T) a n) (fun T' => ∀ w ∈ l, yV c ⟨c.B, w⟩ T T')
  | [], T, a, n, h, _ => ⟨T, a, n, rfl, h, tU.refl _ _, fun _ hw => by cases hw⟩
  | w :: l, T, a, n, h, hm => by
    rw [iL]
    obtain ⟨T1, x, y, m, q, x1, t⟩ := HV g i h cs us ws j (f := ⟨c.B, w⟩) (hm w (by simp)) k
    rw [m]
    simp only [Option.bind_some]
    obtain ⟨T2, d, s, p, r, x2, u⟩ := Eh g i cs us ws j k l q (fun w hw => x1.eO _ (hm w (by simp [hw])))
    refine ⟨T2, d, s, p, r, x1.trans x2, fun v b => ?_⟩
    rcases List.mem_cons.1 b with rfl | b
    · exact t.mono (fun _ h => h) x2.eO
    · exact (u v b).mono x1.eO (fun _ h => h)
def zK (c : aB) (T : iB) (a : List aV) : Prop :=
  (c.Kind = 1 → (⟨c.Head, c.cH⟩ : aV) ∈ FS T) ∧
  (c.Kind = 2 → ∀ w, (⟨c.B, w⟩ : aV) ∈ FS T → (⟨c.B, w⟩ : aV) ∉ a → (⟨c.Head, w⟩ : aV) ∈ FS T) ∧
  (c.Kind = 3 → ∀ b w, (⟨c.B, b⟩ : aV) ∈ FS T → (⟨c.B, b⟩ : aV) ∉ a → (⟨⟨b, c.cO⟩, w⟩ : aV) ∈ FS T → (⟨⟨b, c.cO⟩, w⟩ : aV) ∉ a → (⟨c.Head, w⟩ : aV) ∈ FS T) ∧
  (c.Kind = 4 → ∀ w, (⟨c.B, w⟩ : aV) ∈ FS T → (⟨c.B, w⟩ : aV) ∉ a → (⟨c.C, w⟩ : aV) ∈ FS T → (⟨c.C, w⟩ : aV) ∉ a → (⟨c.Head, w⟩ : aV) ∈ FS T)
theorem zK.ext {c : aB} {T T' : iB} {n d : List aV} (h : zK c T n) (x : tU T n T' d) : zK c T' d := by
  have eO : ∀ f, f ∈ FS T' → f ∉ d → f ∈ FS T ∧ f ∉ n := fun f r p => by
    rcases x.new f r with m | m
    · exact ⟨m, fun q => p (x.todo f q)⟩
    · exact absurd m p
  refine ⟨fun k => x.eO _ (h.1 k), fun k w a b => ?_, fun k b w g i j l => ?_, fun k w g i j l => ?_⟩
  · exact x.eO _ (h.2.1 k w (eO _ a b).1 (eO _ a b).2)
  · exact x.eO _ (h.2.2.1 k b w (eO _ g i).1 (eO _ g i).2 (eO _ j l).1 (eO _ j l).2)
  · exact x.eO _ (h.2.2.2 k w (eO _ g i).1 (eO _ g i).2 (eO _ j l).1 (eO _ j l).2)
theorem Ii {C : List aB} (s : ky C) (v : lK C) {T : iB} {u : List aV} {n : Int} (h : jF C T u n) (cs : List aB) (us : List (aA × List aB)) (ws : List (ByteArray × List aB)) {c : aB} (y : c ∈ C) :
    ∃ T' d j, lZ (mm T) cs us ws u n c = some (mm T', d, j) ∧ jF C T' d j ∧ tU T u T' d ∧ zK c T' d := by
  unfold lZ
  simp only [Jq]
  by_cases i : c.Kind = 1
  · rw [if_pos (by simp [i])]
    obtain ⟨T', d, j, e, g, x, q⟩ := wE s h cs us ws (ir.mem c y i)
    exact ⟨T', d, j, e, g, x, fun _ => q, fun k => absurd (i.symm.trans k) (by decide), fun k => absurd (i.symm.trans k) (by decide), fun k => absurd (i.symm.trans k) (by decide)⟩
  · rw [if_neg (by simp [i]), AV s v h]
    simp only [Option.bind_some]
    have D : c.B ∈ gO c := by unfold gO; rw [if_neg i]; split <;> simp
    obtain ⟨T', d, j, e, g, x, q⟩ := Eh s v cs us ws y D (oq (lm T c.B)) h (fun w hw => (vn h.keys ⟨c.B, w⟩).2 ((tD _ _).1 hw))
    have eO : ∀ f, f ∈ FS T' → f ∉ d → f ∈ FS T := fun f z A => by
      rcases x.new f z with i | i
      · exact i
      · exact absurd i A
    have t : ∀ w, (⟨c.B, w⟩ : aV) ∈ FS T → yV c ⟨c.B, w⟩ T T' := fun w hw => q w ((tD _ _).2 ((vn h.keys ⟨c.B, w⟩).1 hw))
    refine ⟨T', d, j, e, g, x, fun k => absurd k i, fun k w a b => ?_, fun k b w l m p r => ?_, fun k w l m p r => ?_⟩
    · exact (t w (eO _ a b)).1 k rfl
    · exact (t b (eO _ l m)).2.1 k rfl w (eO _ p r)
    · exact (t w (eO _ l m)).2.2 k (eO _ l m) (eO _ p r)
structure yy (C : List aB) (us : List (aA × List aB)) (ws : List (ByteArray × List aB)) : Prop where
  Ij : ∀ r c, c ∈ (dE bB us r).getD [] ↔ c ∈ C ∧ r ∈ gO c
  word : ∀ w c, c ∈ (dE dA ws w).getD [] ↔ c ∈ C ∧ c.Kind = 3 ∧ c.cO = w
  LC : ∀ r, ((dE bB us r).getD []).length ≤ 2 * C.length
  Lp : ∀ w, ((dE dA ws w).getD []).length ≤ C.length
theorem CL {C : List aB} (g : ky C) (i : lK C) (cs : List aB) (us : List (aA × List aB)) (ws : List (ByteArray × List aB)) {f : aV} : ∀ (l : List aB) {T : iB} {a : List aV} {n : Int}, jF C T a n → f ∈ FS T → (∀ c ∈ l, c ∈ C ∧ f.aA ∈ gO c) →
    wk C T a (iz cs us ws f l (mm T) a n) (fun T' => ∀ c ∈ l, yV c f T T')
  | [], T, a, n, h, _, _ => ⟨T, a, n, rfl, h, tU.refl _ _, fun _ hw => by cases hw⟩
  | c :: l, T, a, n, h, j, hm => by
    rw [iz]
    obtain ⟨T1, w, x, k, p, x1, t⟩ := HV g i h cs us ws (hm c (by simp)).1 j (hm c (by simp)).2
    rw [k]
    simp only [Option.bind_some]
    obtain ⟨T2, d, s, m, q, x2, u⟩ := CL g i cs us ws l p (x1.eO _ j) (fun c r => hm c (by simp [r]))
    refine ⟨T2, d, s, m, q, x1.trans x2, fun v b => ?_⟩
    rcases List.mem_cons.1 b with rfl | b
    · exact t.mono (fun _ h => h) x2.eO
    · exact (u v b).mono x1.eO (fun _ h => h)
theorem yd {C : List aB} (m : ky C) (w : lK C) (cs : List aB) (us : List (aA × List aB)) (ws : List (ByteArray × List aB)) {f : aV} : ∀ (l : List aB) {T : iB} {g : List aV} {n : Int}, jF C T g n → f ∈ FS T → (∀ c ∈ l, c ∈ C ∧ c.Kind = 3 ∧ c.cO = f.aA.aJ) →
    wk C T g (gw f cs us ws l (mm T) g n) (fun T' => ∀ c ∈ l, (⟨c.B, f.aA.aC⟩ : aV) ∈ FS T → (⟨c.Head, f.cH⟩ : aV) ∈ FS T')
  | [], T, g, n, h, _, _ => ⟨T, g, n, rfl, h, tU.refl _ _, fun _ hw => by cases hw⟩
  | c :: l, T, g, n, h, q, hm => by
    rw [gw]
    have s := hm c (by simp)
    by_cases i : (⟨c.B, f.aA.aC⟩ : aV) ∈ FS T
    · rw [if_pos ((mK h.keys _ _).2 i)]
      have r : f = ⟨⟨f.aA.aC, c.cO⟩, f.cH⟩ := by rw [s.2.2]
      have z : ir C ⟨c.Head, f.cH⟩ := .BJ c f.aA.aC f.cH s.1 s.2.1 (h.qK _ i) (by rw [← r]; exact h.qK f q)
      obtain ⟨T1, E, F, x, y, x1, D⟩ := wE m h cs us ws z
      rw [x]
      simp only [Option.bind_some]
      obtain ⟨T2, d, t, j, k, x2, u⟩ := yd m w cs us ws l y (x1.eO _ q) (fun c p => hm c (by simp [p]))
      refine ⟨T2, d, t, j, k, x1.trans x2, fun v b a => ?_⟩
      rcases List.mem_cons.1 b with rfl | b
      · exact x2.eO _ D
      · exact u v b (x1.eO _ a)
    · rw [if_neg (fun A => i ((mK h.keys _ _).1 A))]
      obtain ⟨T2, d, t, j, k, x2, u⟩ := yd m w cs us ws l h q (fun c p => hm c (by simp [p]))
      refine ⟨T2, d, t, j, k, x2, fun v b a => ?_⟩
      rcases List.mem_cons.1 b with rfl | b
      · exact absurd a i
      · exact u v b a
theorem CP {C : List aB} (M : ky C) (O : lK C) {cs : List aB} {us : List (aA × List aB)} {ws : List (ByteArray × List aB)} (y : yy C us ws) : ∀ (m : Nat) {T : iB} {p : List aV} {n : Int}, jF C T p n → (∀ c ∈ C, zK c T p) → C.length * C.length + p.length < m + (FS T).length →
    ∃ T' U, fN cs us ws m (mm T) p n = some (mm T', [], U) ∧ jF C T' [] U ∧ (∀ c ∈ C, zK c T' []) ∧ (∀ f ∈ FS T, f ∈ FS T')
  | 0, T, p, n, h, _, hm => by have := h.len; omega
  | m + 1, T, [], n, h, s, hm => by
    rw [fN]
    exact ⟨T, n, rfl, h, s, fun _ h => h⟩
  | m + 1, T, f :: p, n, h, s, hm => by
    rw [fN]
    rw [if_pos (by simp)]
    have R : f ∈ FS T := h.sub f (by simp)
    have hn := (List.nodup_cons.1 h.FE)
    simp only [dU, Int.le_refl, if_true, Int.toNat_zero, List.getElem?q, Option.bind_some]
    rw [show lR (decide ((0 : Nat) ≤ 1) && decide ((1 : Int) ≤ ((f :: p).length : Int))) = some () by simp [lR]; omega]
    simp only [Option.bind_some, show Int.toNat 1 = 1 from rfl, List.drop_one, List.tail_cons]
    have Q : jF C T p n := ⟨h.keys, h.nd, hn.2, fun g A => h.sub g (by simp [A]), h.num, h.qK⟩
    obtain ⟨T1, a0, n1, Y, g1, x1, q1⟩ := CL M O cs us ws ((dE bB us f.aA).getD []) Q R (fun c j => (y.Ij _ c).1 j)
    rw [Y]
    simp only [Option.bind_some]
    obtain ⟨T2, t, n2, Z, P, x2, q2⟩ := yd M O cs us ws ((dE dA ws f.aA.aJ).getD []) g1 (x1.eO _ R) (fun c j => (y.word _ c).1 j)
    rw [Z]
    simp only [Option.bind_some]
    have x := x1.trans x2
    have eO : ∀ g, g ∈ FS T2 → g ∉ t → g ∈ FS T ∧ (g = f ∨ g ∉ f :: p) := fun g A D => by
      rcases x.new g A with L | L
      · refine ⟨L, ?_⟩
        by_cases he : g = f
        · exact .inl he
        · exact .inr (fun v => by
            rcases List.mem_cons.1 v with v | v
            · exact he v
            · exact D (x.todo g v))
      · exact absurd L D
    have E : ∀ c ∈ C, f.aA ∈ gO c → yV c f T T2 := fun c j hr => (q1 c ((y.Ij _ c).2 ⟨j, hr⟩)).mono (fun _ h => h) x2.eO
    have z : ∀ c ∈ C, zK c T2 t := fun c j => by
      have k := s c j
      refine ⟨fun i => x.eO _ (k.1 i), fun i w a b => ?_, fun i b w F G I J => ?_, fun i w F G I J => ?_⟩
      · obtain ⟨r, d⟩ := eO _ a b
        rcases d with d | d
        · subst d; exact (E c j (by simp [gO, i])).1 i rfl
        · exact x.eO _ (k.2.1 i w r d)
      · obtain ⟨r, d⟩ := eO _ F G
        obtain ⟨u, l⟩ := eO _ I J
        rcases d with d | d
        · subst d; exact (E c j (by simp [gO, i])).2.1 i rfl w u
        · rcases l with l | l
          · subst l
            exact q2 c ((y.word _ c).2 ⟨j, i, rfl⟩) (x1.eO _ r)
          · exact x.eO _ (k.2.2.1 i b w r d u l)
      · obtain ⟨r, d⟩ := eO _ F G
        obtain ⟨u, l⟩ := eO _ I J
        rcases d with d | d
        · subst d; exact (E c j (by simp [gO, i])).2.2 i r u
        · rcases l with l | l
          · subst l; exact (E c j (by simp [gO, i])).2.2 i r u
          · exact x.eO _ (k.2.2.2 i w r d u l)
    have hlen : t.length + (FS T).length ≤ p.length + (FS T2).length := by
      exact P.Aa Q x
    obtain ⟨T3, n3, e3, g3, W, o3⟩ := CP M O y m P z (by simp only [List.length_cons] at hm; omega)
    exact ⟨T3, n3, e3, g3, W, fun g A => o3 g (x.eO g A)⟩
end Go.Proofs.YtmlncblocfcmiaaGreat
namespace Go.Proofs.YtmlncblocfcmiaaGreat
open Go.RowKit
theorem FT (c : aB) : ∀ (l : List aB) (i : Nat), ∃ z, jr c l i = some z ∧ (z ≥ 0 ↔ c ∈ l)
  | [], i => ⟨-1, rfl, by simp⟩
  | x :: l, i => by
    rw [jr]
    by_cases h : bT c x = true
    · rw [if_pos h]
      exact ⟨_, rfl, by simp [eU.1 h]⟩
    · rw [if_neg h]
      obtain ⟨z, e, b⟩ := FT c l (i + 1)
      refine ⟨z, e, ?_⟩
      rw [b, List.mem_cons]
      exact ⟨.inr, fun a => a.resolve_left (fun e => h (eU.2 e))⟩
theorem D8 (c : aB) (l : List aB) : ∃ b, km l c = some b ∧ (b = true ↔ c ∈ l) := by
  obtain ⟨z, e, a⟩ := FT c l 0
  refine ⟨decide (z ≥ 0), ?_, by simpa using a⟩
  unfold km lD py
  rw [e]
  rfl
theorem FI (c : aB) (ws : List (ByteArray × List aB)) (C : List aB) (hw : ∀ w, ((dE dA ws w).getD []).length ≤ 2000000) : ∀ (j : List aA) (us : List (aA × List aB)), (∀ r, ((dE bB us r).getD []).length + j.length ≤ 4000000) →
    ∃ g i, gP c ws C j us = some (C, g, i) ∧ (∀ r x, x ∈ (dE bB g r).getD [] ↔ x ∈ (dE bB us r).getD [] ∨ (x = c ∧ r ∈ j)) ∧
      (∀ w x, x ∈ (dE dA i w).getD [] ↔ x ∈ (dE dA ws w).getD [] ∨ (x = c ∧ c.Kind = 3 ∧ w = c.cO)) ∧ (∀ r, ((dE bB g r).getD []).length ≤ ((dE bB us r).getD []).length + j.length) ∧
      (∀ w, ((dE dA i w).getD []).length ≤ ((dE dA ws w).getD []).length + 1)
  | [], us, _ => by
    rw [gP]
    by_cases k : c.Kind = 3
    · rw [if_pos (by simp [k])]
      have h := hw c.cO
      rw [eW (by simp; omega) (by simp; omega)]
      simp only [Option.bind_some]
      refine ⟨us, _, rfl, by simp, fun w x => ?_, by simp, fun w => ?_⟩
      · rw [yZ eB]
        by_cases a : dA w c.cO = true
        · rw [if_pos a, eB.1 a]; simp [k]
        · rw [if_neg a]
          have : w ≠ c.cO := fun e => a (eB.2 e)
          simp [this]
      · rw [yZ eB]
        by_cases a : dA w c.cO = true
        · rw [if_pos a, eB.1 a]; simp
        · rw [if_neg a]; exact Nat.le_succ _
    · rw [if_neg (by simp [k])]
      exact ⟨us, ws, rfl, by simp, by simp [k], by simp, by simp⟩
  | b :: j, us, l => by
    rw [gP]
    have h := l b
    simp only [List.length_cons] at h
    rw [eW (by simp; omega) (by simp; omega)]
    simp only [Option.bind_some]
    have d : ∀ r, (dE bB (gH bB us b (((dE bB us b).getD []) ++ [c])) r).getD [] = if bB r b = true then ((dE bB us b).getD []) ++ [c] else (dE bB us r).getD [] := fun r => by
      rw [yZ bD]; by_cases a : bB r b = true
      · rw [if_pos a, if_pos a]; rfl
      · rw [if_neg a, if_neg a]
    obtain ⟨g, i, e, m, n, p, q⟩ := FI c ws C hw j (gH bB us b (((dE bB us b).getD []) ++ [c])) (fun r => by
      rw [d r]
      have s := l r
      simp only [List.length_cons] at s
      by_cases a : bB r b = true
      · rw [if_pos a]; simp; omega
      · rw [if_neg a]; omega)
    refine ⟨g, i, e, fun r x => ?_, n, fun r => ?_, q⟩
    · rw [m, d]
      by_cases a : bB r b = true
      · rw [if_pos a, bD.1 a]
        simp only [List.mem_append, List.mem_cons, List.not_mem_nil, or_false]
        constructor
        · rintro ((h | h) | h)
          · exact .inl h
          · exact .inr ⟨h, .inl trivial⟩
          · exact .inr ⟨h.1, .inr h.2⟩
        · rintro (h | h)
          · exact .inl (.inl h)
          · exact .inl (.inr h.1)
      · rw [if_neg a]
        have : r ≠ b := fun e => a (bD.2 e)
        simp [this]
    · have := p r
      rw [d r] at this
      by_cases a : bB r b = true
      · rw [if_pos a] at this; rw [bD.1 a] at this ⊢; simp at this ⊢; omega
      · rw [if_neg a] at this; simp; omega
theorem Jx {C : List aB} {us : List (aA × List aB)} {ws : List (ByteArray × List aB)} (g : yy C us ws) (t : C.length + 1 ≤ 1000000) {c : aB} (p : dS c = true) (i : List (aA × List (ByteArray × Bool))) (s : List aV) (n : Int) :
    ∃ a b, mJ i C us ws s n c = some (C ++ [c], a, b) ∧ yy (C ++ [c]) a b := by
  unfold mJ
  rw [eW (by simp; omega) (by simp; omega)]
  simp only [Option.bind_some, Lt p]
  rw [show lR (decide ((0 : Nat) ≤ 1) && decide ((1 : Int) ≤ ((c.Head :: gO c).length : Int))) = some () by simp [lR]; omega]
  simp only [Option.bind_some, show Int.toNat 1 = 1 from rfl, List.drop_one, List.tail_cons]
  have q : (gO c).length ≤ 2 := by unfold gO; split; simp; split <;> simp
  obtain ⟨a, b, e, j, k, l, m⟩ := FI c ws (C ++ [c]) (fun w => by have := g.Lp w; omega) (gO c) us (fun r => by have := g.LC r; omega)
  refine ⟨a, b, e, fun r x => ?_, fun w x => ?_, fun r => ?_, fun w => ?_⟩
  · rw [j, g.Ij, List.mem_append, List.mem_singleton]
    constructor
    · rintro (h | h)
      · exact ⟨.inl h.1, h.2⟩
      · exact ⟨.inr h.1, by rw [h.1]; exact h.2⟩
    · rintro ⟨h | h, d⟩
      · exact .inl ⟨h, d⟩
      · exact .inr ⟨h, by rw [← h]; exact d⟩
  · rw [k, g.word, List.mem_append, List.mem_singleton]
    constructor
    · rintro (h | h)
      · exact ⟨.inl h.1, h.2⟩
      · exact ⟨.inr h.1, by rw [h.1]; exact ⟨h.2.1, h.2.2.symm⟩⟩
    · rintro ⟨h | h, d⟩
      · exact .inl ⟨h, d⟩
      · subst h; exact .inr ⟨rfl, d.1, d.2.symm⟩
  · have := l r; have := g.LC r; simp; omega
  · have := m w; have := g.Lp w; simp; omega
structure MS (C : List aB) (T : iB) (us : List (aA × List aB)) (ws : List (ByteArray × List aB)) (n : Int) : Prop where
  yf : jF C T [] n
  cl : ∀ c ∈ C, zK c T []
  MQ : yy C us ws
  right : lK C
theorem MS.all {C : List aB} {T : iB} {us : List (aA × List aB)} {ws : List (ByteArray × List aB)} {n : Int} (h : MS C T us ws n) (f : aV) : f ∈ FS T ↔ ir C f := by
  refine ⟨h.yf.qK f, fun j => ?_⟩
  induction j with
  | mem c a d => exact (h.cl c a).1 d
  | inc c w a d _ ih => exact (h.cl c a).2.1 d w ih (by simp)
  | BJ c b w a d _ _ g i => exact (h.cl c a).2.2.1 d b w g (by simp) i (by simp)
  | both c w a d _ _ g i => exact (h.cl c a).2.2.2 d w g (by simp) i (by simp)
theorem D0 (q : Int) (y : 0 ≤ q ∧ q ≤ 1000000000000) : ∀ (l : List aB) {C : List aB} {T : iB} {p : List aV} {us : List (aA × List aB)} {ws : List (ByteArray × List aB)} {n : Int}, jF C T p n → (∀ c ∈ C, zK c T p) → yy C us ws → lK C → C.length + l.length ≤ 1000000 →
    ∃ C' T' a d j, gq q l (mm T) C us ws p n = some (j - q, mm T', C', a, d, [], j) ∧ MS C' T' a d j ∧ (∀ c, c ∈ C' ↔ c ∈ C ∨ (c ∈ l ∧ dS c = true)) ∧ C'.length ≤ C.length + l.length ∧ (∀ f ∈ FS T, f ∈ FS T')
  | [], C, T, p, us, ws, n, g, i, t, r, J => by
    rw [gq]
    have U : ky C := by unfold ky; simp at J; omega
    have a0 := U.sq
    have hlen := g.len
    have a4 := g.KJ
    obtain ⟨T', j, e, E, Y, o⟩ := CP U r t (cs := C) bL g i (by rw [qe]; omega)
    unfold nR
    rw [e]
    simp only [Option.bind_some]
    have L := E.len
    have W := E.num
    rw [cP (by omega) (by omega)]
    exact ⟨C, T', us, ws, j, rfl, ⟨E, Y, t, r⟩, by simp, by simp, o⟩
  | x :: l, C, T, p, us, ws, n, g, i, t, r, J => by
    rw [gq, pF]
    simp only [List.length_cons] at J
    obtain ⟨b, hb, u⟩ := D8 x C
    simp only [Option.bind_some, hb, xh]
    by_cases k : dS x = true ∧ x ∉ C
    · have G : b = false := by cases b with | false => rfl | true => exact absurd (u.1 rfl) k.2
      rw [k.1, G]
      simp only [Bool.not_false, Bool.and_self, if_true]
      obtain ⟨P, Q, e1, U1⟩ := Jx t (by omega) k.1 (mm T) p n
      rw [e1]
      simp only [Option.bind_some]
      have F : ky (C ++ [x]) := by unfold ky; simp; omega
      have s : lK (C ++ [x]) := fun c v => by
        rcases List.mem_append.1 v with h | h
        · exact r c h
        · simp at h; subst h; exact k.1
      have g1 : jF (C ++ [x]) T p n := g.mono (fun c v => List.mem_append_left _ v)
      obtain ⟨T2, O, n2, e2, g2, x2, Z⟩ := Ii F s g1 (C ++ [x]) P Q (c := x) (by simp)
      rw [e2]
      simp only [Option.bind_some]
      have w : ∀ c ∈ C ++ [x], zK c T2 O := fun c v => by
        rcases List.mem_append.1 v with h | h
        · exact (i c h).ext x2
        · simp at h; subst h; exact Z
      obtain ⟨C', T', a, d, j, e, m, A, R, D⟩ := D0 q y l g2 w U1 s (by simp; omega)
      refine ⟨C', T', a, d, j, e, m, fun c => ?_, by simp at R ⊢; omega, fun f I => D f (x2.eO f I)⟩
      rw [A]
      simp only [List.mem_append, List.mem_cons, List.not_mem_nil, or_false]
      constructor
      · rintro ((h | h) | h)
        · exact .inl h
        · subst h; exact .inr ⟨.inl rfl, k.1⟩
        · exact .inr ⟨.inr h.1, h.2⟩
      · rintro (h | ⟨h | h, z⟩)
        · exact .inl (.inl h)
        · exact .inl (.inr h)
        · exact .inr ⟨h, z⟩
    · have I : (dS x && !b) = false := by
        cases hr : dS x with
        | false => rfl
        | true =>
          have : x ∈ C := Classical.byContradiction fun M => k ⟨hr, M⟩
          rw [u.2 this]; rfl
      rw [I]
      simp only [Bool.false_eq_true, if_false]
      obtain ⟨C', T', a, d, j, e, m, A, R, D⟩ := D0 q y l g i t r (by omega)
      refine ⟨C', T', a, d, j, e, m, fun c => ?_, by simp; omega, D⟩
      rw [A, List.mem_cons]
      constructor
      · rintro (h | h)
        · exact .inl h
        · exact .inr ⟨.inr h.1, h.2⟩
      · rintro (h | ⟨h | h, z⟩)
        · exact .inl h
        · subst h
          exact .inl (Classical.byContradiction fun M => k ⟨z, M⟩)
        · exact .inr ⟨h, z⟩
theorem Le {C : List aB} {T : iB} {us : List (aA × List aB)} {ws : List (ByteArray × List aB)} {n : Int} (h : MS C T us ws n) (l : List aB) (i : C.length + l.length ≤ 1000000) :
    ∃ C' T' a b d, nq (mm T) C us ws [] n l = some (d - n, mm T', C', a, b, [], d) ∧ MS C' T' a b d ∧ (∀ c, c ∈ C' ↔ c ∈ C ∨ (c ∈ l ∧ dS c = true)) ∧ C'.length ≤ C.length + l.length ∧ (∀ f ∈ FS T, f ∈ FS T') := by
  have g : ky C := by unfold ky; omega
  have j := h.yf.len
  have k := g.sq
  have m := h.yf.num
  exact D0 n ⟨by omega, by omega⟩ l h.yf h.cl h.MQ h.right i
theorem yy.zero : yy [] [] [] := ⟨fun r c => by simp [dE], fun w c => by simp [dE], fun r => by simp [dE], fun w => by simp [dE]⟩
theorem jF.zero : jF [] [] [] 0 := ⟨by simp, by simp [FS], by simp, by simp, by simp [FS], by simp [FS]⟩
theorem MS.zero : MS [] [] [] [] 0 := ⟨jF.zero, fun c a => (by cases a), yy.zero, fun c a => (by cases a)⟩
theorem GG (l : List aB) (h : l.length ≤ 1000000) : ∃ C T us ws n, rY l = some (mm T, C, us, ws, [], n) ∧ MS C T us ws n ∧ (∀ c, c ∈ C ↔ c ∈ l ∧ dS c = true) ∧ C.length ≤ l.length := by
  unfold rY
  obtain ⟨C', T', a, b, i, e, m, d, g, j⟩ := Le MS.zero l (by simpa using h)
  rw [show nq [] [] [] [] [] 0 l = _ from e]
  exact ⟨C', T', a, b, i, rfl, m, by simpa using d, by simpa using g⟩
theorem ir.congr {C C' : List aB} (h : ∀ c, c ∈ C ↔ c ∈ C') (f : aV) : ir C f ↔ ir C' f := ⟨fun d => d.mono (fun c a => (h c).1 a), fun d => d.mono (fun c a => (h c).2 a)⟩
end Go.Proofs.YtmlncblocfcmiaaGreat
namespace Go.Proofs.YtmlncblocfcmiaaGreat
open Go.RowKit
def sK (a b : aV) : Bool := vC a.aA b.aA || (bB a.aA b.aA && jz a.cH b.cH)
theorem uG {a b : aV} : sK a b = true ↔ vC a.aA b.aA = true ∨ (a.aA = b.aA ∧ jz a.cH b.cH = true) := by simp [sK, bD]
def xu (_ : aV) : Bool := true
theorem AR : tZ (fun a b => sK a b = true) (fun x => xu x = true) := by
  have H := LY (fun _ => True)
  refine ⟨fun x _ => ?_, fun x y z _ _ _ g d => ?_, fun x y _ _ => ?_⟩
  · rw [uG]
    rintro (h | ⟨_, h⟩)
    · exact H.irrefl _ trivial h
    · rw [mL] at h; cases h
  · rw [uG] at *
    rcases g with g | ⟨j, g⟩
    · rcases d with d | ⟨i, d⟩
      · exact .inl (H.trans _ _ _ trivial trivial trivial g d)
      · exact .inl (by rw [← i]; exact g)
    · rcases d with d | ⟨i, d⟩
      · exact .inl (by rw [j]; exact d)
      · exact .inr ⟨j.trans i, tK g d⟩
  · simp only [uG]
    rcases H.total x.aA y.aA trivial trivial with h | h | h
    · exact .inl (.inl h)
    · rcases tO x.cH y.cH with d | d | d
      · exact .inl (.inr ⟨h, d⟩)
      · refine .inr (.inl ?_)
        cases x; cases y; simp at h d; simp [h, d]
      · exact .inr (.inr (.inr ⟨h.symm, d⟩))
    · exact .inr (.inr (.inl h))
theorem A0 (a b : ByteArray) : iO a b = 0 ↔ a = b := by unfold iO; rw [AE]; exact ⟨tM, fun h => by rw [h]⟩
theorem LR (a b : ByteArray) : iO a b < 0 ↔ jz a b = true := by rw [rL]; exact wK _ _
theorem Hp (a b : aA) : ∃ c, kY a b = some c ∧ (c < 0 ↔ vC a b = true) ∧ (c = 0 ↔ a = b) := by
  obtain ⟨c, e, h⟩ := ul a b
  refine ⟨c, e, h, ?_⟩
  unfold kY at e
  simp only [jc, fX, Option.bind_some, ol, lU, gh] at e
  by_cases d : iO a.aC b.aC = 0
  · rw [if_neg (by simp [d])] at e
    have i := (A0 _ _).1 d
    by_cases g : iO a.aJ b.aJ = 0
    · rw [if_neg (by simp [g])] at e
      have j := (A0 _ _).1 g
      cases e
      refine ⟨fun _ => ?_, fun _ => rfl⟩
      cases a; cases b; simp at i j; simp [i, j]
    · rw [if_pos (by simp [g])] at e
      cases e
      exact ⟨fun k => absurd k g, fun k => by rw [k] at g; exact absurd ((A0 _ _).2 rfl) g⟩
  · rw [if_pos (by simp [d])] at e
    cases e
    exact ⟨fun k => absurd k d, fun k => by rw [k] at d; exact absurd ((A0 _ _).2 rfl) d⟩
theorem It (a b : aV) : ∃ c, jv a b = some c ∧ (c < 0 ↔ sK a b = true) := by
  unfold jv
  obtain ⟨c, e, i, j⟩ := Hp a.aA b.aA
  rw [e]
  simp only [jc, fX, Option.bind_some, ol, lU, gh]
  by_cases g : c = 0
  · rw [if_neg (by simp [g])]
    have m := j.1 g
    have d : ¬ vC a.aA b.aA = true := fun l => by have := i.2 l; omega
    by_cases h : iO a.cH b.cH = 0
    · rw [if_neg (by simp [h])]
      refine ⟨0, rfl, ?_⟩
      rw [uG]
      simp [d, (A0 _ _).1 h, mL]
    · rw [if_pos (by simp [h])]
      refine ⟨_, rfl, ?_⟩
      rw [uG, LR]
      exact ⟨fun k => .inr ⟨m, k⟩, fun k => k.elim (fun k => absurd k d) (·.2)⟩
  · rw [if_pos (by simp [g])]
    refine ⟨c, rfl, ?_⟩
    rw [uG, i]
    have : a.aA ≠ b.aA := fun k => g (j.2 k)
    simp [this]
theorem FO {α : Type} {eq : α → α → Bool} (he : ∀ x y, eq x y = true ↔ x = y) : ∀ (l : List α) (p : α), (p :: l).Nodup → fu eq p l = l
  | [], p, _ => rfl
  | y :: l, p, h => by
    have a := List.nodup_cons.1 h
    rw [fu, if_neg (fun e => a.1 (by rw [← (he _ _).1 e]; simp)), FO he l y a.2]
theorem LX {α : Type} {eq : α → α → Bool} (he : ∀ x y, eq x y = true ↔ x = y) : ∀ l : List α, l.Nodup → dd eq l = l
  | [], _ => rfl
  | x :: l, h => by rw [dd, FO he l x h]
def uL (P : aV → Prop) (s : List aV) : Prop := s.Pairwise (fun a b => sK a b = true) ∧ ∀ f, f ∈ s ↔ P f
theorem uL.unique {P : aV → Prop} {s t : List aV} (h : uL P s) (k : uL P t) : s = t :=
  oM.unique (l := s) AR ⟨h.1, fun x => ⟨fun a => ⟨a, rfl⟩, fun a => a.1⟩⟩ ⟨k.1, fun x => by rw [k.2, h.2]; exact ⟨fun a => ⟨a, rfl⟩, fun a => a.1⟩⟩
theorem BE {l : List aV} (i : l.Nodup) (m : l.length ≤ 1000000000000) : ∃ s, tF (fun (x : aV × aV) => jv x.1 x.2) l = some s ∧ uL (fun f => f ∈ l) s := by
  obtain ⟨s, g, k, d⟩ := zL (eq := uJ) (lt := fun a b => sK a b = true) (P := fun x => xu x = true) (cf := fun (x : aV × aV) => jv x.1 x.2) (l := l) (fun x y => tu) AR (fun _ _ => rfl) (by omega) (fun x y _ _ => It x y)
  have j : s.Nodup := by
    have := (Be g).2
    rw [this]
    unfold mW
    exact (List.mergeSort_perm l _).nodup_iff.2 i
  rw [LX (fun x y => tu) s j] at d
  exact ⟨s, g, d.1, fun f => by rw [d.2]; exact ⟨fun h => h.1, fun h => ⟨h, rfl⟩⟩⟩
theorem Ke (T : iB) : (mm T).flatMap (fun p => p.2.map (fun q => (fun (a : aA) (b : ByteArray) => (⟨a, b⟩ : aV)) p.1 q.1)) = FS T := by
  unfold mm FS tt
  rw [List.flatMap_map]
  congr 1
  funext p
  simp [Function.comp_def]
theorem Ix {C : List aB} (j : ky C) {T : iB} {us : List (aA × List aB)} {ws : List (ByteArray × List aB)} {n : Int} (h : MS C T us ws n) (cs : List aB) (u : List (aA × List aB)) (w : List (ByteArray × List aB)) (l : List aV) (z : Int) :
    ∃ s, pv (mm T) cs u w l z = some s ∧ uL (ir C) s := by
  have k := j.sq
  have hlen := h.yf.len
  obtain ⟨s, m, i⟩ := BE h.yf.nd (by omega)
  have g : uL (ir C) s := ⟨i.1, fun f => (i.2 f).trans (h.all f)⟩
  refine ⟨s, ?_, g⟩
  unfold pv HO
  rw [Ke]
  rw [if_pos ⟨by omega, by unfold maxLen; omega⟩]
  simp only [Option.bind_some, gh]
  refine BN (fun o b => ?_)
  obtain ⟨p, d, a⟩ := BE ((b.nodup_iff).2 h.yf.nd) (by rw [b.length_eq]; omega)
  rw [d]
  congr 1
  exact uL.unique ⟨a.1, fun f => (a.2 f).trans (b.mem_iff.trans (h.all f))⟩ g
theorem Jb (r : aA) (w : ByteArray) : ∀ l : List aV, ∃ b, pa r w l = some b ∧ (b = true ↔ (⟨r, w⟩ : aV) ∈ l)
  | [] => ⟨false, rfl, by simp⟩
  | x :: l => by
    rw [pa]
    simp only [xh, Option.bind_some]
    obtain ⟨b, e, g⟩ := Jb r w l
    by_cases h : (bB x.aA r && dA x.cH w) = true
    · rw [if_pos h]
      have a : x = ⟨r, w⟩ := by
        rw [Bool.and_eq_true, bD, eB] at h
        cases x; simp at h; simp [h]
      exact ⟨true, rfl, by simp [a]⟩
    · rw [if_neg h]
      refine ⟨b, e, ?_⟩
      rw [g, List.mem_cons]
      refine ⟨.inr, fun d => d.resolve_left (fun e => h ?_)⟩
      rw [← e]; simp [pP, oy]
theorem tf (l : List aV) (r : aA) (w : ByteArray) : ∃ b, nM l r w = some b ∧ (b = true ↔ (⟨r, w⟩ : aV) ∈ l) := Jb r w l
def qu (l : List aV) (c : aB) (names : List ByteArray) (w : ByteArray) : Prop :=
  (c.Kind = 1 ∧ c.cH = w) ∨ (c.Kind = 2 ∧ (⟨c.B, w⟩ : aV) ∈ l) ∨ (c.Kind = 4 ∧ (⟨c.B, w⟩ : aV) ∈ l ∧ (⟨c.C, w⟩ : aV) ∈ l) ∨
  (c.Kind ≠ 1 ∧ c.Kind ≠ 2 ∧ c.Kind ≠ 4 ∧ ∃ b ∈ names, (⟨c.B, b⟩ : aV) ∈ l ∧ (⟨⟨b, c.cO⟩, w⟩ : aV) ∈ l)
theorem Ba (l : List aV) (c : aB) (w : ByteArray) : ∀ names : List ByteArray, ∃ b, nD l c w names = some b ∧ (b = true ↔ ∃ b ∈ names, (⟨c.B, b⟩ : aV) ∈ l ∧ (⟨⟨b, c.cO⟩, w⟩ : aV) ∈ l)
  | [] => ⟨false, rfl, by simp⟩
  | x :: names => by
    rw [nD]
    obtain ⟨i, k, d⟩ := tf l c.B x
    obtain ⟨j, m, g⟩ := tf l ⟨x, c.cO⟩ w
    obtain ⟨b, e, n⟩ := Ba l c w names
    rw [k, m, e]
    simp only [Option.bind_some, xh]
    by_cases h : (i && j) = true
    · rw [if_pos h]
      rw [Bool.and_eq_true, d, g] at h
      exact ⟨true, rfl, by simp [h]⟩
    · rw [if_neg h]
      rw [Bool.and_eq_true, d, g] at h
      refine ⟨b, rfl, ?_⟩
      rw [n]
      constructor
      · rintro ⟨y, a, q⟩; exact ⟨y, by simp [a], q⟩
      · rintro ⟨y, a, q⟩
        rcases List.mem_cons.1 a with rfl | a
        · exact absurd q h
        · exact ⟨y, a, q⟩
theorem JD (l : List aV) (c : aB) (names : List ByteArray) (w : ByteArray) : ∃ b, se l c names w = some b ∧ (b = true ↔ qu l c names w) := by
  unfold se qu
  simp only [gh]
  by_cases a : c.Kind = 1
  · rw [if_pos (by simp [a])]; exact ⟨_, rfl, by simp [a, eB]⟩
  rw [if_neg (by simp [a])]
  by_cases d : c.Kind = 2
  · rw [if_pos (by simp [d])]
    obtain ⟨b, e, h⟩ := tf l c.B w
    exact ⟨b, e, by simp [d, h]⟩
  rw [if_neg (by simp [d])]
  by_cases g : c.Kind = 4
  · rw [if_pos (by simp [g])]
    obtain ⟨n, k, i⟩ := tf l c.B w
    obtain ⟨p, m, j⟩ := tf l c.C w
    rw [k, m]
    simp only [Option.bind_some, xh]
    exact ⟨_, rfl, by simp [g, i, j]⟩
  rw [if_neg (by simp [g])]
  obtain ⟨b, e, h⟩ := Ba l c w names
  exact ⟨b, e, by rw [h]; simp [a, d, g]⟩
theorem qu.qK {C : List aB} {l : List aV} (a : ∀ f ∈ l, ir C f) {c : aB} (d : c ∈ C) (j : c.Kind = 1 ∨ c.Kind = 2 ∨ c.Kind = 3 ∨ c.Kind = 4) {names : List ByteArray} {w : ByteArray} (h : qu l c names w) : ir C ⟨c.Head, w⟩ := by
  rcases h with ⟨k, rfl⟩ | ⟨k, h⟩ | ⟨k, g, i⟩ | ⟨m, n, p, b, _, g, i⟩
  · exact .mem c d k
  · exact .inc c w d k (a _ h)
  · exact .both c w d k (a _ g) (a _ i)
  · exact .BJ c b w d (by omega) (a _ g) (a _ i)
theorem Gp {c : aB} (h : dS c = true) : c.Kind = 1 ∨ c.Kind = 2 ∨ c.Kind = 3 ∨ c.Kind = 4 := by rcases ib h with h | h | h | h <;> simp [h.1]
structure yQ (C : List aB) (out : List aV) : Prop where
  nd : out.Nodup
  qK : ∀ f ∈ out, ir C f
theorem yQ.len {C : List aB} {out : List aV} (h : yQ C out) : out.length ≤ C.length * C.length := by
  rw [← xd]; exact eG h.nd (fun f a => (h.qK f a).Ac)
theorem AA {C : List aB} (u : ky C) (x : lK C) {c : aB} (m : c ∈ C) (names : List ByteArray) : ∀ (l : List ByteArray) (out : List aV) (i : Bool), yQ C out →
    ∃ g d, nz c names l out i = some (g, d) ∧ yQ C g ∧ (d = true → i = true ∨ out.length < g.length) ∧ (d = false → i = false ∧ g = out ∧ ∀ w ∈ l, qu out c names w → (⟨c.Head, w⟩ : aV) ∈ out) ∧ out.length ≤ g.length
  | [], out, i, h => ⟨out, i, rfl, h, .inl, fun h => ⟨h, rfl, fun _ hw => by cases hw⟩, Nat.le_refl _⟩
  | w :: l, out, i, h => by
    rw [nz]
    obtain ⟨D, J, E⟩ := tf out c.Head w
    obtain ⟨I, L, F⟩ := JD out c names w
    rw [J, L]
    simp only [Option.bind_some, xh]
    by_cases j : (!D && I) = true
    · rw [if_pos j]
      rw [Bool.and_eq_true] at j
      have y : (⟨c.Head, w⟩ : aV) ∉ out := fun O => by have := E.2 O; rw [this] at j; exact absurd j.1 (by decide)
      have Q := h.len
      have P := u.sq
      rw [eW (by simp; omega) (by simp; omega)]
      simp only [Option.bind_some]
      have M : yQ C (out ++ [⟨c.Head, w⟩]) := ⟨List.nodup_append.2 ⟨h.nd, by simp, fun a ha b j e => by simp at j; subst j; subst e; exact y ha⟩, fun f k => by
        rcases List.mem_append.1 k with k | k
        · exact h.qK f k
        · simp at k; subst k; exact (F.1 j.2).qK h.qK m (Gp (x c m))⟩
      obtain ⟨g, d, e, n, A, p, q⟩ := AA u x m names l _ true M
      simp at q
      exact ⟨g, d, e, n, fun _ => .inr (by omega), fun k => (by cases (p k).1), by omega⟩
    · rw [if_neg j]
      obtain ⟨g, d, e, n, A, p, q⟩ := AA u x m names l out i h
      refine ⟨g, d, e, n, A, fun k => ?_, q⟩
      obtain ⟨r, s, t⟩ := p k
      refine ⟨r, s, fun v z G => ?_⟩
      rcases List.mem_cons.1 z with rfl | z
      · refine Classical.byContradiction fun y => j ?_
        rw [Bool.and_eq_true, F.2 G]
        cases D with
        | false => exact ⟨rfl, rfl⟩
        | true => exact absurd (E.1 rfl) y
      · exact t v z G
theorem DM {C : List aB} (n : ky C) (p : lK C) (names : List ByteArray) : ∀ (l : List aB) (out : List aV) (a : Bool), (∀ c ∈ l, c ∈ C) → yQ C out →
    ∃ b g, oU names l out a = some (b, g) ∧ yQ C b ∧ (g = true → a = true ∨ out.length < b.length) ∧ (g = false → a = false ∧ b = out ∧ ∀ c ∈ l, ∀ w ∈ names, qu out c names w → (⟨c.Head, w⟩ : aV) ∈ out) ∧ out.length ≤ b.length
  | [], out, a, _, h => ⟨out, a, rfl, h, .inl, fun h => ⟨h, rfl, fun _ hw => by cases hw⟩, Nat.le_refl _⟩
  | c :: l, out, a, q, h => by
    rw [oU]
    obtain ⟨E, y, A, r, s, t, P⟩ := AA n p (q c (by simp)) names names out a h
    rw [A]
    simp only [Option.bind_some]
    obtain ⟨F, z, D, u, v, x, Q⟩ := DM n p names l E y (fun d i => q d (by simp [i])) r
    refine ⟨F, z, D, u, fun j => ?_, fun j => ?_, by omega⟩
    · rcases v j with k | k
      · rcases s k with m | m
        · exact .inl m
        · exact .inr (by omega)
      · exact .inr (by omega)
    · obtain ⟨G, I, J⟩ := x j
      obtain ⟨L, M, O⟩ := t G
      subst M
      refine ⟨L, I, fun d i => ?_⟩
      rcases List.mem_cons.1 i with rfl | i
      · exact O
      · exact J d i
end Go.Proofs.YtmlncblocfcmiaaGreat
namespace Go.Proofs.YtmlncblocfcmiaaGreat
open Go.RowKit
def zF : aV := ⟨⟨zS, zS⟩, zS⟩
theorem ED (a b : aV) : ni a b = some (sK a b) := by
  unfold ni sK
  simp only [vA, Option.bind_some, xh, Kv]
def Lg (a : List aV) (b : Int) (p : Bool × aV) : Prop := (p.1 = false ∧ b = -1) ∨ (p.1 = true ∧ 0 ≤ b ∧ dU a b = some p.2)
theorem vO (out a : List aV) (i : out.length < 4611686018427387904) : ∀ (rest A : List aV) (b : Int) (p : Bool × aV), a = A ++ rest → Lg a b p →
    ∃ d, iw out a rest A.length b = some d ∧ Lg a d (kK xu sK out.getLast? rest p.1 p.2)
  | [], A, b, p, ha, j => ⟨b, rfl, j⟩
  | x :: rest, A, b, p, ha, j => by
    rw [iw, kK]
    simp only [xu, Bool.true_and]
    have n : ((if ((out.length : Int) == 0) = true then some true else (dU out (IntKind.i64.wrap ((out.length : Int) - 1))).bind fun y => (ni y x).bind fun r => some r) : Option Bool) = some (out.getLast?.all fun y => sK y x) := by
      rcases List.eq_nil_or_concat out with h | ⟨B, z, h⟩
      · subst h; rfl
      · subst h
        rw [if_neg (by simp; omega)]
        rw [List.concat_eq_append] at i ⊢
        rw [AB B z (by simp at i; omega)]
        simp [ED]
    have q : ((if decide (b < 0) = true then some true else (dU a b).bind fun y => (ni x y).bind fun r => some r) : Option Bool) = some (!p.1 || sK x p.2) := by
      rcases j with ⟨k, l⟩ | ⟨k, l, m⟩
      · rw [if_pos (by simp [l]), k]; rfl
      · rw [if_neg (by simpa using l), m, k]
        simp [ED]
    rw [n]
    simp only [Option.bind_some]
    rw [q]
    simp only [Option.bind_some, xh]
    have s : dU a (A.length : Int) = some x := by rw [ha]; exact fj A x rest _ rfl
    by_cases g : ((out.getLast?.all fun y => sK y x) && (!p.1 || sK x p.2)) = true
    · rw [if_pos g, if_pos g]
      have := vO out a i rest (A ++ [x]) (A.length : Int) (true, x) (by rw [ha]; simp) (.inr ⟨rfl, by simp, s⟩)
      simpa using this
    · rw [if_neg g, if_neg g]
      have := vO out a i rest (A ++ [x]) b p (by rw [ha]; simp) j
      simpa using this
theorem Ab {out a : List aV} (g : out.length < 4611686018427387904) (h : (kK xu sK out.getLast? a false zF).1 = false) : ∀ Aa : List aV, iv a Aa out = some out
  | [] => rfl
  | x :: Aa => by
    rw [iv]
    obtain ⟨b, e, j⟩ := vO out a g a [] (-1) (false, zF) rfl (.inl ⟨rfl, rfl⟩)
    rw [show iw out a a 0 (-1) = some b from e]
    simp only [Option.bind_some]
    rcases j with ⟨_, i⟩ | ⟨d, _⟩
    · rw [if_neg (by simp [i])]; exact Ab g h Aa
    · rw [h] at d; cases d
theorem Dd (a : List aV) : ∀ (Aa : List aV) (out s : List aV), tY 48 xu sK zF a (Aa.length + 1) out = some s → s.length < 4611686018427387904 → iv a Aa out = some s ∧ out.length ≤ s.length
  | [], out, s, h, j => by
    rw [tY] at h
    cases hp : (kK xu sK out.getLast? a false zF).1 with
    | false =>
      rw [hp] at h
      simp only [Bool.not_false, if_true] at h
      cases h
      exact ⟨rfl, Nat.le_refl _⟩
    | true =>
      rw [hp] at h
      simp only [Bool.not_true, Bool.false_eq_true, if_false] at h
      obtain ⟨o, d, h⟩ := bind_some h
      replace h : tY 48 xu sK zF a 0 o = some s := h
      rw [tY] at h
      cases h
  | x :: Aa, out, s, h, j => by
    rw [tY] at h
    cases hp : (kK xu sK out.getLast? a false zF).1 with
    | false =>
      rw [hp] at h
      simp only [Bool.not_false, if_true] at h
      cases h
      exact ⟨Ab j hp _, Nat.le_refl _⟩
    | true =>
      rw [hp] at h
      simp only [Bool.not_true, Bool.false_eq_true, if_false] at h
      obtain ⟨o, d, h⟩ := bind_some h
      have i := d
      unfold eS at d
      split at d
      case isFalse => cases d
      cases d
      obtain ⟨n, p⟩ := Dd a Aa _ s h j
      simp at p
      rw [iv]
      obtain ⟨b, e, m⟩ := vO out a (by omega) a [] (-1) (false, zF) rfl (.inl ⟨rfl, rfl⟩)
      rw [show iw out a a 0 (-1) = some b from e]
      simp only [Option.bind_some]
      rcases m with ⟨g, _⟩ | ⟨g, k, l⟩
      · rw [hp] at g; cases g
      · rw [if_pos (by simpa using k), l]
        simp only [Option.bind_some]
        rw [i]
        exact ⟨n, by omega⟩
theorem HX (l : List aV) (g : l.length ≤ 1000000000) : ∃ s, ta l = some s ∧ uL (fun f => f ∈ l) s := by
  obtain ⟨s, d, a⟩ := vM AR (w := 48) (by omega) zF l g (l.length + 1) [] (by simp) (by simp) (fun x b => by cases b) (fun x _ _ => .inr rfl)
  have hlen : s.length ≤ l.length := eG (nS AR (fun _ _ => rfl) a.1) (fun x b => ((a.2 x).1 b).1)
  exact ⟨s, (Dd l l [] s d (by omega)).1, a.1, fun f => by rw [a.2]; exact ⟨fun h => h.1, fun h => ⟨h, rfl⟩⟩⟩
theorem Et : ∀ (l : List aB) (acc : List ByteArray), acc.length + 4 * l.length ≤ 1000000000 → li l acc = tE (acc ++ l.flatMap fun c => [c.cH, c.Head.aC, c.B.aC, c.C.aC])
  | [], acc, _ => by rw [li]; simp [gh]
  | c :: l, acc, h => by
    rw [li]
    simp only [List.length_cons] at h
    rw [eW (by simp; omega) (by simp; omega)]
    simp only [Option.bind_some]
    rw [Et l _ (by simp; omega)]
    simp
def SM (C : List aB) : Prop := C.length ≤ 30000
theorem SM.small {C : List aB} (h : SM C) : ky C := by unfold SM at h; unfold ky; omega
theorem SM.sq {C : List aB} (h : SM C) : C.length * C.length ≤ 900000000 := Nat.mul_le_mul h h
theorem IB {C : List aB} (d : SM C) (i : lK C) : ∃ names, rf C = some names ∧ ∀ c ∈ C, c.Kind = 1 → c.cH ∈ names := by
  have g : C.length ≤ 30000 := d
  unfold rf
  rw [Et C [] (by simp; omega)]
  obtain ⟨s, e, j⟩ := J2 ([] ++ C.flatMap fun c => [c.cH, c.Head.aC, c.B.aC, c.C.aC]) (by
    have : ∀ l : List aB, (l.flatMap fun c => [c.cH, c.Head.aC, c.B.aC, c.C.aC]).length = 4 * l.length := fun l => by
      induction l with
      | nil => rfl
      | cons x l ih => simp [ih]; omega
    rw [List.nil_append, this]; omega)
  refine ⟨s, e, fun c b a => (j.2 _).2 ⟨?_, ?_⟩⟩
  · rw [List.nil_append]; exact List.mem_flatMap.2 ⟨c, b, by simp⟩
  · rcases ib (i c b) with h | h | h | h
    · exact h.2.1
    · exact absurd (a.symm.trans h.1) (by decide)
    · exact absurd (a.symm.trans h.1) (by decide)
    · exact absurd (a.symm.trans h.1) (by decide)
theorem GD {C : List aB} (p : lK C) {names : List ByteArray} (m : ∀ c ∈ C, c.Kind = 1 → c.cH ∈ names) {out : List aV} (h : ∀ c ∈ C, ∀ w ∈ names, qu out c names w → (⟨c.Head, w⟩ : aV) ∈ out) {f : aV} (l : ir C f) : f ∈ out := by
  have hw : ∀ f, ir C f → f.cH ∈ names := fun f l => by
    obtain ⟨c, a, d, e⟩ := l.Fo
    rw [← e]; exact m c a d
  induction l with
  | mem c a d => exact h c a _ (m c a d) (.inl ⟨d, rfl⟩)
  | inc c w a d n ih => exact h c a w (hw _ n) (.inr (.inl ⟨d, ih⟩))
  | BJ c b w a d g k i j => exact h c a w (hw _ k) (.inr (.inr (.inr ⟨by omega, by omega, by omega, b, hw _ g, i, j⟩)))
  | both c w a d g k i j => exact h c a w (hw _ g) (.inr (.inr (.inl ⟨d, i, j⟩)))
theorem El {C : List aB} (a : SM C) (b : lK C) {names : List ByteArray} (i : ∀ c ∈ C, c.Kind = 1 → c.cH ∈ names) : ∀ (m : Nat) (out : List aV), yQ C out → C.length * C.length < m + out.length →
    ∃ s, nx names C m out = some s ∧ uL (ir C) s
  | 0, out, h, hm => by have := h.len; omega
  | m + 1, out, h, hm => by
    rw [nx]
    obtain ⟨o, c, e, j, k, l, t⟩ := DM a.small b names C out false (fun _ h => h) h
    rw [e]
    simp only [Option.bind_some, gh]
    cases c with
    | false =>
      simp only [Bool.not_false, if_true]
      obtain ⟨_, n, p⟩ := l rfl
      subst n
      have u := h.len
      have r := a.sq
      obtain ⟨s, q, g⟩ := HX o (by omega)
      exact ⟨s, q, g.1, fun f => (g.2 f).trans ⟨h.qK f, GD b i p⟩⟩
    | true =>
      simp only [Bool.not_true, Bool.false_eq_true, if_false]
      rcases k rfl with d | d
      · cases d
      · exact El a b i m o j (by omega)
theorem JF (l : List aB) (p : l.length ≤ 30000) : ∃ C s, qp l = some s ∧ uL (ir C) s ∧ ∀ c, c ∈ C ↔ c ∈ l ∧ dS c = true := by
  unfold qp
  obtain ⟨C, e, b⟩ := Cw l (by omega)
  have hlen := uW vv b
  have a : SM C := by unfold SM; omega
  have d : lK C := fun c j => ((b.2 c).1 j).2
  obtain ⟨names, g, m⟩ := IB a d
  rw [e]
  simp only [Option.bind_some]
  rw [g]
  simp only [Option.bind_some]
  have n := a.sq
  obtain ⟨s, h, i⟩ := El a d m bL [] ⟨by simp, fun f k => by cases k⟩ (by rw [qe]; simp; omega)
  exact ⟨C, s, h, i, b.2⟩
theorem wj (w : ByteArray) : ∀ (l : List aV) (acc : List aA), acc.length + l.length ≤ 1000000000 → jM w l acc = some (acc ++ (l.filter fun f => dA f.cH w).map (·.aA))
  | [], acc, _ => by rw [jM]; simp
  | x :: l, acc, h => by
    rw [jM]
    simp only [List.length_cons] at h
    by_cases a : dA x.cH w = true
    · rw [if_pos a, eW (by simp; omega) (by simp; omega)]
      simp only [Option.bind_some]
      rw [wj w l _ (by simp; omega)]
      simp [a]
    · rw [if_neg a, wj w l acc (by omega)]
      simp [a]
end Go.Proofs.YtmlncblocfcmiaaGreat
namespace Go.Proofs.YtmlncblocfcmiaaGreat
open Go.RowKit
theorem Kh {P : aV → Prop} {s t : List aV} (h : uL P s) (b : ∀ f, P f → f ∈ t) : s.length ≤ t.length := eG (nS AR (fun _ _ => rfl) h.1) (fun f a => b f ((h.2 f).1 a))
theorem J5 {C : List aB} {s : List aV} (h : uL (ir C) s) (a : SM C) : s.length ≤ 900000000 := by
  have := Kh h (t := Ac C) (fun f b => b.Ac)
  rw [xd] at this
  have := a.sq
  omega
theorem Hb {C : List aB} {T : iB} {us : List (aA × List aB)} {ws : List (ByteArray × List aB)} {n : Int} (h : MS C T us ws n) (cs : List aB) (u : List (aA × List aB)) (w : List (ByteArray × List aB)) (a : List aV) (z : Int) (r : aA) (Fo : ByteArray) :
    ∃ b, oG (mm T) cs u w a z r Fo = some b ∧ (b = true ↔ ir C ⟨r, Fo⟩) :=
  ⟨_, rfl, by rw [mK h.yf.keys, h.all]⟩
def qA : aA := ⟨⟨#[97]⟩, ⟨#[114]⟩⟩
def qB : aA := ⟨⟨#[98]⟩, ⟨#[115]⟩⟩
def qd : ByteArray := ⟨#[100]⟩
def j1 : aB := ⟨2, qA, zS, qB, ⟨zS, zS⟩, zS⟩
def j2 : aB := ⟨1, qB, qd, ⟨zS, zS⟩, ⟨zS, zS⟩, zS⟩
end Go.Proofs.YtmlncblocfcmiaaGreat
namespace Go.Proofs.YtmlncblocfcmiaaGreat
open Go.RowKit
theorem qu.own {l : List aV} {c : aB} {names : List ByteArray} {w : ByteArray} (h : qu l c names w) : qu l c (l.map (·.cH)) w := by
  rcases h with h | h | h | ⟨d, g, i, b, _, a, j⟩
  · exact .inl h
  · exact .inr (.inl h)
  · exact .inr (.inr (.inl h))
  · exact .inr (.inr (.inr ⟨d, g, i, b, List.mem_map.2 ⟨_, a, rfl⟩, a, j⟩))
theorem qu.subset {a b : List aV} {c : aB} {names : List ByteArray} {w : ByteArray} (h : qu a c names w) (d : ∀ f ∈ a, f ∈ b) : qu b c names w := by
  rcases h with h | h | h | ⟨i, j, k, g, l, m, n⟩
  · exact .inl h
  · exact .inr (.inl ⟨h.1, d _ h.2⟩)
  · exact .inr (.inr (.inl ⟨h.1, d _ h.2.1, d _ h.2.2⟩))
  · exact .inr (.inr (.inr ⟨i, j, k, g, l, d _ m, d _ n⟩))
end Go.Proofs.YtmlncblocfcmiaaGreat
namespace Go.Proofs.YtmlncblocfcmiaaGreat
open Go.RowKit
def tot {α : Type} (a : List (List α)) : Nat := (a.map List.length).sum
end Go.Proofs.YtmlncblocfcmiaaGreat
namespace Go.Proofs.YtmlncblocfcmiaaGreat
open Go.RowKit
def up (w : ByteArray) (g : ByteArray → Nat) : ByteArray → Nat := fun x => if dA w x = true then g x + 1 else g x
end Go.Proofs.YtmlncblocfcmiaaGreat
namespace Go.Proofs.YtmlncblocfcmiaaGreat
open Go.RowKit
theorem KN (F : List aV) (w : ByteArray) (a : F.length ≤ 1000000000) : oS F w = some ((F.filter fun f => dA f.cH w).map (·.aA)) := by
  unfold oS
  rw [wj w F [] (by simp; omega)]
  simp
end Go.Proofs.YtmlncblocfcmiaaGreat
namespace Go.Proofs.YtmlncblocfcmiaaGreat
open Go.RowKit
instance decRole : DecidableEq aA := fun a b => decidable_of_iff (bB a b = true) bD
def DP (F : List aV) (w : ByteArray) : List aA := (F.filter fun f => dA f.cH w).map (·.aA)
structure KF (l : List aB) (F : List aV) : Prop where
  len : l.length ≤ 30000
  C : ∃ C : List aB, uL (ir C) F ∧ (∀ c, c ∈ C ↔ c ∈ l ∧ dS c = true) ∧ SM C
  ref : qp l = some F
theorem Ld (l : List aB) (h : l.length ≤ 30000) : ∃ F, KF l F := by
  obtain ⟨C, F, e, g, i⟩ := JF l h
  obtain ⟨C1, T, us, ws, n, j, k, a, d⟩ := GG l (by omega)
  have b : ∀ c, c ∈ C ↔ c ∈ C1 := fun c => by rw [i, a]
  exact ⟨F, h, ⟨C1, ⟨g.1, fun f => (g.2 f).trans (ir.congr b f)⟩, a, by unfold SM; omega⟩, e⟩
theorem KF.MM {l : List aB} {F : List aV} (h : KF l F) : F.length ≤ 900000000 := by
  obtain ⟨C, a, d, b⟩ := h.C
  exact J5 a b
end Go.Proofs.YtmlncblocfcmiaaGreat
namespace Go.Proofs.YtmlncblocfcmiaaGreat
open Go.RowKit
def B8 (l : List Int) : Prop := ∀ x ∈ l, 0 ≤ x ∧ x < 256
end Go.Proofs.YtmlncblocfcmiaaGreat
namespace Go.Proofs.YtmlncblocfcmiaaGreat
open Go.RowKit
def GA : List ByteArray → List Key → Int
  | _, [] => 0
  | seen, k :: l => if fY k.cH = false then 30 else if k.Key.length < 1 ∨ 32 < k.Key.length then 21 else if eP dA seen k.cH = true then 41 else GA (seen ++ [k.cH]) l
def Ie (l : List Key) : List (ByteArray × List Int) := l.map fun k => (k.cH, k.Key)
def I7 (l : List Key) (o : ByteArray) : Option (List Int) := dE dA (Ie l) o
theorem LD {l : List Int} (h : l.length ≤ 1000000) : nB l = some l := by
  unfold nB
  rw [As (by simpa using h)]; rfl
theorem FD : ∀ (l : List Key) (seen : List ByteArray), GA seen l = 0 → ∀ k ∈ l, 1 ≤ k.Key.length ∧ k.Key.length ≤ 32
  | [], _, _, _, a => by cases a
  | x :: l, seen, h, k, a => by
    unfold GA at h
    split at h
    · cases h
    split at h
    · cases h
    split at h
    · cases h
    rcases List.mem_cons.1 a with rfl | a
    · omega
    · exact FD l _ h k a
theorem Ay : ∀ (l : List Key) (o : ByteArray) (b : List Int), I7 l o = some b → ∃ k ∈ l, k.Key = b
  | [], o, b, h => by cases h
  | x :: l, o, b, h => by
    unfold I7 at h
    rw [show Ie (x :: l) = (x.cH, x.Key) :: Ie l from rfl, vE] at h
    split at h
    · cases h; exact ⟨x, by simp, rfl⟩
    · obtain ⟨k, a, e⟩ := Ay l o b h
      exact ⟨k, by simp [a], e⟩
def K8 (l : List Key) : Prop := ∀ k ∈ l, B8 k.Key
structure Mk (ks : List Key) (c : aB) (k : List Int) : Prop where
  ok : GA [] ks = 0
  rt : dS c = true
  lk : I7 ks c.Head.aC = some k
theorem Mk.len {ks : List Key} {c : aB} {k : List Int} (h : Mk ks c k) : 1 ≤ k.length ∧ k.length ≤ 32 := by
  obtain ⟨q, a, rfl⟩ := Ay _ _ _ h.lk
  exact FD ks [] h.ok q a
theorem Mk.b8 {ks : List Key} {c : aB} {k : List Int} (h : Mk ks c k) (a : K8 ks) : B8 k := by
  obtain ⟨q, b, rfl⟩ := Ay _ _ _ h.lk
  exact a q b
theorem Mk.unique {ks : List Key} {c : aB} {k k' : List Int} (h : Mk ks c k) (a : Mk ks c k') : k = k' := by
  have := h.lk; rw [a.lk] at this; cases this; rfl
end Go.Proofs.YtmlncblocfcmiaaGreat
namespace Go.Proofs.YtmlncblocfcmiaaGreat
open Go.RowKit
def S8 (l : List Signed) : Prop := ∀ s ∈ l, B8 s.Tag
end Go.Proofs.YtmlncblocfcmiaaGreat
namespace Go.Proofs.YtmlncblocfcmiaaGreat
open Go.RowKit
theorem Aq (b : List aB) (x : aB) : lD b x = some (eP bT b x) := by
  obtain ⟨q, e, h⟩ := D8 x b
  unfold km at e
  rw [gh] at e
  rw [e, show q = eP bT b x from by rw [Bool.eq_iff_iff, h, mw eU]]
structure Iw (l : List aB) (F : List aV) : Prop where
  len : F.length ≤ 900000000
  ref : qp l = some F
  Nh : ∃ m, rY l = some m ∧ pv m.1 m.2.1 m.2.2.1 m.2.2.2.1 m.2.2.2.2.1 m.2.2.2.2.2 = some F ∧ ∀ r w, oG m.1 m.2.1 m.2.2.1 m.2.2.2.1 m.2.2.2.2.1 m.2.2.2.2.2 r w = some (eP uJ F ⟨r, w⟩)
  qK : ∀ C : List aB, (∀ c, c ∈ C ↔ c ∈ l ∧ dS c = true) → uL (ir C) F
theorem MK (l : List aB) (y : l.length ≤ 30000) : ∃ F, Iw l F := by
  obtain ⟨F, h⟩ := Ld l y
  refine ⟨F, h.MM, h.ref, ?_, fun C u => ?_⟩
  · obtain ⟨C, d, g, t⟩ := h.C
    obtain ⟨C1, T, us, ws, n, q, p, i, k⟩ := GG l (by omega)
    have a : ∀ c, c ∈ C1 ↔ c ∈ C := fun c => by rw [g, i]
    have m : uL (ir C1) F := ⟨d.1, fun f => (d.2 f).trans (ir.congr a f).symm⟩
    have v : SM C1 := by unfold SM; omega
    refine ⟨_, q, ?_, fun r w => ?_⟩
    · obtain ⟨F1, s, j⟩ := Ix v.small p C1 us ws [] n
      rw [← j.unique m]; exact s
    · obtain ⟨b, e, x⟩ := Hb p C1 us ws [] n r w
      rw [e, show b = eP uJ F ⟨r, w⟩ from by rw [Bool.eq_iff_iff, x, mw tu, m.2]]
  · obtain ⟨C', d, g, t⟩ := h.C
    have a : ∀ c, c ∈ C' ↔ c ∈ C := fun c => by rw [g, u]
    exact ⟨d.1, fun f => (d.2 f).trans (ir.congr a f)⟩
end Go.Proofs.YtmlncblocfcmiaaGreat
namespace Go.Proofs.YtmlncblocfcmiaaGreat
open Go.RowKit
section
variable {α : Type}
structure SWO (lt : α → α → Bool) : Prop where
  Ji : ∀ x, lt x x = false
  tr : ∀ x y z, lt x y = true → lt y z = true → lt x z = true
  Hl : ∀ x y z, lt x z = true → lt x y = true ∨ lt y z = true
variable {lt : α → α → Bool}
theorem SWO.MN (h : SWO lt) {x y : α} (a : lt x y = true) : lt y x = false := by
  cases e : lt y x
  · rfl
  · have := h.tr _ _ _ a e; rw [h.Ji] at this; cases this
def tl (lt : α → α → Bool) (p q : α × Nat) : Prop := lt p.1 q.1 = true ∨ (lt q.1 p.1 = false ∧ p.2 < q.2)
theorem xD (h : SWO lt) {p q r : α × Nat} (a : tl lt p q) (b : tl lt q r) : tl lt p r := by
  unfold tl at *
  rcases a with a | ⟨a, d⟩ <;> rcases b with b | ⟨b, g⟩
  · exact .inl (h.tr _ _ _ a b)
  · rcases h.Hl _ r.1 _ a with c | c
    · exact .inl c
    · rw [b] at c; cases c
  · rcases h.Hl _ p.1 _ b with c | c
    · rw [a] at c; cases c
    · exact .inl c
  · refine .inr ⟨?_, by omega⟩
    cases e : lt r.1 p.1
    · rfl
    · rcases h.Hl _ q.1 _ e with c | c
      · rw [b] at c; cases c
      · rw [a] at c; cases c
theorem JT (h : SWO lt) {p q : α × Nat} (a : tl lt p q) (b : tl lt q p) : False := by
  have c := xD h a b
  rcases c with c | ⟨_, c⟩
  · rw [h.Ji] at c; cases c
  · omega
abbrev gN (lt : α → α → Bool) (t : List (α × Nat)) : Prop := t.Pairwise (tl lt)
theorem Bw (h : SWO lt) : ∀ {t u : List (α × Nat)}, gN lt t → gN lt u → t.Perm u → t = u
  | [], u, _, _, hp => by rw [List.nil_perm] at hp; exact hp.symm
  | p :: t, [], _, _, hp => by simp at hp
  | p :: t, q :: u, b, d, hp => by
    have e : p = q := by
      rcases List.mem_cons.1 (hp.mem_iff.1 (.head _)) with e | g
      · exact e
      · rcases List.mem_cons.1 (hp.mem_iff.2 (.head _)) with e | a
        · exact e.symm
        · exact (JT h ((List.pairwise_cons.1 b).1 _ a) ((List.pairwise_cons.1 d).1 _ g)).elim
    subst e
    rw [Bw h (List.pairwise_cons.1 b).2 (List.pairwise_cons.1 d).2 (List.Perm.cons_inv hp)]
def vg (lt : α → α → Bool) (l : List α) (k : α) : List α := l.filter (fun x => !lt k x) ++ k :: l.filter (fun x => lt k x)
def Ed (lt : α → α → Bool) (l : List α) : List α := l.foldl (vg lt) []
def Ap (lt : α → α → Bool) (t : List (α × Nat)) (k : α × Nat) : List (α × Nat) := t.filter (fun x => !lt k.1 x.1) ++ k :: t.filter (fun x => lt k.1 x.1)
theorem IM (t : List (α × Nat)) (k : α × Nat) : (Ap lt t k).map (·.1) = vg lt (t.map (·.1)) k.1 := by
  simp [Ap, vg, List.filter_map, Function.comp_def]
theorem G7 (t : List (α × Nat)) (k : α × Nat) : (Ap lt t k).Perm (t ++ [k]) := by
  unfold Ap
  refine List.perm_middle.trans ?_
  refine (List.Perm.cons _ ?_).trans (List.perm_append_singleton k t).symm
  have := List.filter_append_perm (fun x : α × Nat => !lt k.1 x.1) t
  simpa using this
theorem IW (h : SWO lt) {t : List (α × Nat)} {k : α × Nat} (i : gN lt t) (l : ∀ x ∈ t, x.2 < k.2) : gN lt (Ap lt t k) := by
  unfold Ap gN
  rw [List.pairwise_append, List.pairwise_cons]
  refine ⟨i.filter _, ⟨fun x b => ?_, i.filter _⟩, fun x b y d => ?_⟩
  · exact .inl (List.mem_filter.1 b).2
  · obtain ⟨j, g⟩ := List.mem_filter.1 b
    simp only [Bool.not_eq_true', ] at g
    have a : tl lt x k := .inr ⟨g, l x j⟩
    rcases List.mem_cons.1 d with rfl | d
    · exact a
    · exact xD h a (.inl (List.mem_filter.1 d).2)
theorem L4 (h : SWO lt) (l : List α) : ∃ t, gN lt t ∧ t.Perm l.zipIdx ∧ t.map (·.1) = Ed lt l := by
  suffices H : ∀ (l r : List α) (t : List (α × Nat)), gN lt t → t.Perm r.zipIdx → ∃ u, gN lt u ∧ u.Perm (r ++ l).zipIdx ∧ u.map (·.1) = l.foldl (vg lt) (t.map (·.1)) by
    obtain ⟨u, g, d, n⟩ := H l [] [] .nil (by simp)
    exact ⟨u, g, by simpa using d, n⟩
  intro l
  induction l with
  | nil => intro r t g d; exact ⟨t, g, by simpa using d, rfl⟩
  | cons k l ih =>
    intro r t g d
    obtain ⟨u, i, j, m⟩ := ih (r ++ [k]) (Ap lt t (k, r.length)) (IW h g (fun x p => by
      obtain ⟨a, b⟩ := x
      have := List.snd_lt_of_mem_zipIdx (d.mem_iff.1 p)
      simpa using this)) ((G7 t _).trans (by rw [List.zipIdx_append]; simpa using d.append_right _))
    refine ⟨u, i, by simpa using j, ?_⟩
    rw [m, IM]
    rfl
theorem J0 (h : SWO lt) {l : List α} {t : List (α × Nat)} (g : gN lt t) (i : t.Perm l.zipIdx) : t.map (·.1) = Ed lt l := by
  obtain ⟨u, a, b, d⟩ := L4 h l
  rw [← d, Bw h g a (i.trans b.symm)]
end
end Go.Proofs.YtmlncblocfcmiaaGreat
namespace Go.Proofs.YtmlncblocfcmiaaGreat
open Go.RowKit
section
variable {α : Type} {lt : α → α → Bool}
abbrev Lk (lt : α → α → Bool) (A B : List (α × Nat)) : Prop := ∀ A' a b B', A = A' ++ [a] → B = b :: B' → tl lt a b
theorem tR (h : SWO lt) {A B : List (α × Nat)} (m : gN lt A) (n : gN lt B) (l : Lk lt A B) : ∀ a ∈ A, ∀ b ∈ B, tl lt a b := by
  intro a ha b d
  rcases List.eq_nil_or_concat A with rfl | ⟨A', z, rfl⟩
  · cases ha
  cases B with
  | nil => cases d
  | cons y B' =>
    have j : tl lt z y := l A' z y B' (by simp) rfl
    have g : a = z ∨ tl lt a z := by
      simp only [List.concat_eq_append, List.mem_append, List.mem_singleton] at ha
      rcases ha with ha | ha
      · refine .inr ?_
        simp only [List.concat_eq_append, gN, List.pairwise_append] at m
        exact m.2.2 a ha z (by simp)
      · exact .inl ha
    have i : b = y ∨ tl lt y b := by
      rcases List.mem_cons.1 d with d | d
      · exact .inl d
      · exact .inr ((List.pairwise_cons.1 n).1 b d)
    have k : tl lt a y := by
      rcases g with rfl | g
      · exact j
      · exact xD h g j
    rcases i with rfl | i
    · exact k
    · exact xD h k i
theorem Eb (h : SWO lt) {A B : List (α × Nat)} (a : gN lt A) (b : gN lt B) (l : Lk lt A B) : gN lt (A ++ B) :=
  List.pairwise_append.2 ⟨a, b, tR h a b l⟩
theorem gN.left {A B : List (α × Nat)} (h : gN lt (A ++ B)) : gN lt A := (List.pairwise_append.1 h).1
theorem gN.right {A B : List (α × Nat)} (h : gN lt (A ++ B)) : gN lt B := (List.pairwise_append.1 h).2.1
theorem gN.two {A B : List (α × Nat)} (h : gN lt (A ++ B)) : ∀ a ∈ A, ∀ b ∈ B, tl lt a b := (List.pairwise_append.1 h).2.2
theorem BT (h : SWO lt) {A B : List (α × Nat)} {x : α × Nat} (g : gN lt (A ++ B)) (k : Lk lt A [x]) (l : Lk lt [x] B) : gN lt (A ++ x :: B) := by
  have i := tR h g.left (List.pairwise_singleton _ x) k
  have j := tR h (List.pairwise_singleton _ x) g.right l
  refine List.pairwise_append.2 ⟨g.left, List.pairwise_cons.2 ⟨fun b d => j x (by simp) b d, g.right⟩, fun a ha b d => ?_⟩
  rcases List.mem_cons.1 d with rfl | d
  · exact i a ha _ (by simp)
  · exact g.two a ha b d
theorem JR (h : SWO lt) {A1 A2 B1 B2 C1 C2 : List (α × Nat)} (g : gN lt (A1 ++ A2)) (i : gN lt (B1 ++ B2)) (l : Lk lt A1 B2) (m : Lk lt B1 A2) (n : C1.Perm (A1 ++ B1)) (p : C2.Perm (A2 ++ B2)) (j : gN lt C1) (k : gN lt C2) : gN lt (C1 ++ C2) := by
  have x1 := tR h g.left i.right l
  have x2 := tR h i.left g.right m
  refine List.pairwise_append.2 ⟨j, k, fun a ha b d => ?_⟩
  rcases List.mem_append.1 (n.mem_iff.1 ha) with ha | ha <;> rcases List.mem_append.1 (p.mem_iff.1 d) with d | d
  · exact g.two a ha b d
  · exact x1 a ha b d
  · exact x2 a ha b d
  · exact i.two a ha b d
end
section
variable {α : Type}
theorem zt (p q : List α) (x y : α) : (p ++ x :: q).set p.length y = p ++ y :: q := by simp
theorem EB (p q : List α) (x y : α) (n : Nat) (h : n = p.length) : (p ++ x :: q).set n y = p ++ y :: q := by subst h; simp
theorem Az (p m q : List α) (x y : α) : ((p ++ x :: (m ++ y :: q)).set p.length y).set (p.length + 1 + m.length) x = p ++ y :: (m ++ x :: q) := by
  rw [zt]
  have : p ++ y :: (m ++ y :: q) = (p ++ y :: m) ++ y :: q := by simp
  rw [this, show p.length + 1 + m.length = (p ++ y :: m).length by simp; omega, zt]
  simp
theorem G9 (p m q : List α) (x y : α) : ((p ++ x :: (m ++ y :: q)).set (p.length + 1 + m.length) x).set p.length y = p ++ y :: (m ++ x :: q) := by
  rw [List.set_comm _ _ (by omega), Az]
theorem pY {l : List α} {n : Nat} (h : n ≤ l.length) : ∃ a b, l = a ++ b ∧ a.length = n := ⟨l.take n, l.drop n, (List.take_append_drop n l).symm, by simp [h]⟩
end
end Go.Proofs.YtmlncblocfcmiaaGreat
namespace Go.Proofs.YtmlncblocfcmiaaGreat
open Go.RowKit
section
variable {c : Formula → Formula → Int} {G : Formula → Prop} {f : Formula × Formula → Option Int}
theorem Ga (x : Formula) : (⟨x.Op, x.K, x.aA, x.Kids⟩ : Formula) = x := by cases x; rfl
abbrev fT (c : Formula → Formula → Int) (x y : Formula) : Bool := decide (c x y < 0)
abbrev wv (f : Formula × Formula → Option Int) (c : Formula → Formula → Int) (G : Formula → Prop) : Prop := ∀ x y, G x → G y → f (x, y) = some (c x y)
theorem MR (w : wv f c G) (pre : List Formula) (x : Formula) (D : G x) : ∀ (k : Nat) (P S : List Formula) (n : Nat) (j a : Int), P.length = k → k < n → (∀ y ∈ P, G y) → (pre ++ (P ++ x :: S)).length ≤ 1000000 → j = ((pre.length + P.length : Nat) : Int) → a = (pre.length : Int) →
    ∃ P1 P2, P = P1 ++ P2 ∧ dX a f n (pre ++ (P ++ x :: S)) j = some (pre ++ (P1 ++ x :: (P2 ++ S))) ∧ (∀ P' z, P1 = P' ++ [z] → fT c x z = false) ∧ (∀ y P', P2 = y :: P' → fT c x y = true) := by
  intro k
  induction k with
  | zero =>
    intro P S n j a h A d m i ha
    obtain rfl := List.eq_nil_of_length_eq_zero h
    obtain ⟨n, rfl⟩ := Nat.exists_eq_succ_of_ne_zero (by omega : n ≠ 0)
    refine ⟨[], [], rfl, ?_, by simp, by simp⟩
    rw [dX]
    have : ¬ (j > a) := by rw [i, ha]; simp
    simp [this]
  | succ k ih =>
    intro P S n j a h A d m i ha
    rcases List.eq_nil_or_concat P with rfl | ⟨P', z, rfl⟩
    · simp at h
    simp only [List.concat_eq_append, List.length_append, List.length_cons, List.length_nil] at h i m d ⊢
    obtain ⟨n, rfl⟩ := Nat.exists_eq_succ_of_ne_zero (by omega : n ≠ 0)
    have l : j > a := by omega
    have p : pre ++ (P' ++ [z] ++ x :: S) = (pre ++ P') ++ z :: x :: S := by simp
    have hw : IntKind.i64.wrap (j - 1) = ((pre.length + P'.length : Nat) : Int) := by rw [cP (by omega) (by omega)]; omega
    have I : dU ((pre ++ P') ++ z :: x :: S) j = some x := by
      rw [show (pre ++ P') ++ z :: x :: S = (pre ++ P' ++ [z]) ++ x :: S by simp]
      exact fj _ _ _ _ (by simp; omega)
    have J : dU ((pre ++ P') ++ z :: x :: S) ((pre.length + P'.length : Nat) : Int) = some z := fj _ _ _ _ (by simp)
    have F : G z := d z (by simp)
    have v : ∀ y ∈ P', G y := fun y E => d y (by simp [E])
    have O : j.toNat = pre.length + P'.length + 1 := by omega
    rw [dX, p]
    simp only [l, decide_true, if_true, I, hw, J, Option.bind_some, w x z D F]
    by_cases g : c x z < 0
    · simp only [g, decide_true, if_true]
      have s1 : ((pre ++ P') ++ z :: x :: S).set j.toNat z = (pre ++ P') ++ z :: z :: S := by
        have := EB (pre ++ P' ++ [z]) S x z j.toNat (by simp; omega)
        simpa only [List.append_assoc, List.singleton_append, List.cons_append, List.nil_append] using this
      have s2 : ((pre ++ P') ++ z :: z :: S).set (pre.length + P'.length) x = (pre ++ P') ++ x :: z :: S := by
        exact EB (pre ++ P') (z :: S) z x _ (by simp)
      have L : dU ((pre ++ P') ++ z :: z :: S) ((pre.length + P'.length : Nat) : Int) = some z := fj _ _ _ _ (by simp)
      rw [s1, L, Option.bind_some, Int.toNat_natCast, Ga, s2]
      have q : (pre ++ P') ++ x :: z :: S = pre ++ (P' ++ x :: (z :: S)) := by simp
      obtain ⟨P1, P2, r, s, t, u⟩ := ih P' (z :: S) n ((pre.length + P'.length : Nat) : Int) a (by omega) (by omega) v (by simp; omega) rfl ha
      rw [q, s]
      refine ⟨P1, P2 ++ [z], by rw [r]; simp, by simp, t, ?_⟩
      intro y Q b
      cases P2 with
      | nil =>
        simp only [List.nil_append, List.cons.injEq] at b
        rw [← b.1]; simp [fT, g]
      | cons M P2 =>
        simp only [List.cons_append, List.cons.injEq] at b
        rw [← b.1]; exact u M P2 rfl
    · simp only [g, decide_false, Bool.false_eq_true, if_false]
      refine ⟨P' ++ [z], [], by simp, by simp, ?_, by simp⟩
      intro Q y b
      have := List.append_inj' b rfl
      simp only [List.cons.injEq, and_true] at this
      rw [← this.2]; simp [fT, g]
theorem Jp (h : SWO (fT c)) (M : wv f c G) (pre post : List Formula) (a b : Int) (ha : a = (pre.length : Int)) : ∀ (S t : List (Formula × Nat)) (n : Nat) (i : Int),
    S.length < n → gN (fT c) t → (∀ x ∈ t, ∀ y ∈ S, x.2 < y.2) → S.Pairwise (fun x y => x.2 < y.2) → (∀ x ∈ t ++ S, G x.1) → (pre ++ (t.map (·.1) ++ (S.map (·.1) ++ post))).length ≤ 1000000 →
    i = ((pre.length + t.length : Nat) : Int) → b = ((pre.length + t.length + S.length : Nat) : Int) →
    ∃ u, dO b a f n (pre ++ (t.map (·.1) ++ (S.map (·.1) ++ post))) i = some (pre ++ (u.map (·.1) ++ post)) ∧ gN (fT c) u ∧ u.Perm (t ++ S)
  | [], t, n, i, I, J, v, L, A, F, O, D => by
    obtain ⟨n, rfl⟩ := Nat.exists_eq_succ_of_ne_zero (by simp at I; omega : n ≠ 0)
    rw [dO]
    simp only [List.length_nil] at D
    have : ¬ (i < b) := by omega
    simp only [this, decide_false, Bool.false_eq_true, if_false]
    exact ⟨t, by simp, J, by simp⟩
  | s :: S, t, n, i, I, J, v, L, A, F, O, D => by
    simp only [List.length_cons] at I D
    obtain ⟨n, rfl⟩ := Nat.exists_eq_succ_of_ne_zero (by omega : n ≠ 0)
    rw [dO]
    have E : i < b := by omega
    simp only [E, decide_true, if_true]
    have m := F
    simp only [List.length_append, List.length_map, List.length_cons] at m
    obtain ⟨P1, P2, R, T, U, W⟩ := MR M pre s.1 (A s (by simp)) (t.map (·.1)).length (t.map (·.1)) (S.map (·.1) ++ post) bL i a rfl (by rw [eE]; simp; omega)
      (fun y r => by obtain ⟨p, hp, rfl⟩ := List.mem_map.1 r; exact A p (by simp [hp])) (by simpa using F) (by simp; omega) ha
    simp only [List.map_cons, List.cons_append]
    rw [T, Option.bind_some]
    obtain ⟨g, j, rfl, P, Q⟩ := List.map_eq_append_iff.1 R
    have hlen : g.length + j.length = (g ++ j).length := by simp
    have hw : IntKind.i64.wrap (i + 1) = ((pre.length + (g ++ s :: j).length : Nat) : Int) := by rw [cP (by omega) (by omega)]; simp at O ⊢; omega
    rw [hw]
    have q : gN (fT c) (g ++ s :: j) := BT h J
      (fun A' z b B' l w => by
        simp only [List.cons.injEq] at w
        rw [← w.1]
        refine .inr ⟨U (A'.map (·.1)) z.1 (by rw [← P, l]; simp), v z (by rw [l]; simp) s (by simp)⟩)
      (fun A' z b B' l w => by
        have Z : z = s := by
          cases A' with
          | nil => simpa using l.symm
          | cons _ A' => simp at l
        rw [Z]
        exact .inl (W b.1 (B'.map (·.1)) (by rw [← Q, w]; simp)))
    have k := List.pairwise_cons.1 L
    have Y : pre ++ (P1 ++ s.1 :: (P2 ++ (S.map (·.1) ++ post))) = pre ++ ((g ++ s :: j).map (·.1) ++ (S.map (·.1) ++ post)) := by rw [← P, ← Q]; simp
    rw [Y]
    obtain ⟨u, u1, u2, u3⟩ := Jp h M pre post a b ha S (g ++ s :: j) n _ (by omega) q
      (fun x d y r => by
        rcases List.mem_append.1 d with d | d
        · exact v x (by simp [d]) y (by simp [r])
        · rcases List.mem_cons.1 d with rfl | d
          · exact k.1 y r
          · exact v x (by simp [d]) y (by simp [r]))
      k.2 (fun x d => A x (by
        simp only [List.mem_append, List.mem_cons] at d ⊢
        rcases d with (d | d | d) | d
        · exact .inl (.inl d)
        · exact .inr (.inl d)
        · exact .inl (.inr d)
        · exact .inr (.inr d))) (by simp at m ⊢; omega) rfl (by simp at D ⊢; omega)
    refine ⟨u, u1, u2, u3.trans ?_⟩
    simp only [List.append_assoc, List.cons_append]
    exact List.Perm.append_left g (List.perm_middle.symm)
theorem FP (h : SWO (fT c)) (p : wv f c G) (pre post : List Formula) (S : List (Formula × Nat)) (a b : Int) (l : S.Pairwise (fun x y => x.2 < y.2)) (m : ∀ x ∈ S, G x.1) (k : (pre ++ (S.map (·.1) ++ post)).length ≤ 1000000) (ha : a = (pre.length : Int)) (j : b = ((pre.length + S.length : Nat) : Int)) :
    ∃ u, fD (pre ++ (S.map (·.1) ++ post)) a b f = some (pre ++ (u.map (·.1) ++ post)) ∧ gN (fT c) u ∧ u.Perm S := by
  unfold fD
  have g := k
  simp only [List.length_append, List.length_map] at g
  cases S with
  | nil =>
    refine ⟨[], ?_, .nil, .nil⟩
    obtain ⟨n, q⟩ := Nat.exists_eq_succ_of_ne_zero (by rw [eE]; omega : bL ≠ 0)
    rw [q, dO]
    have : ¬ (IntKind.i64.wrap (a + 1) < b) := by rw [cP (by omega) (by omega)]; simp at j; omega
    simp [this]
  | cons s S =>
    simp only [List.length_cons] at j g
    have d := List.pairwise_cons.1 l
    obtain ⟨u, t, v, w⟩ := Jp h p pre post a b ha S [s] bL (IntKind.i64.wrap (a + 1)) (by rw [eE]; omega) (List.pairwise_singleton _ _) (fun x i y r => by simp at i; rw [i]; exact d.1 y r) d.2
      (fun x i => m x (by simpa using i)) (by simp at k ⊢; omega) (by rw [cP (by omega) (by omega)]; simp; omega) (by simp; omega)
    exact ⟨u, by simpa using t, v, by simpa using w⟩
end
end Go.Proofs.YtmlncblocfcmiaaGreat
namespace Go.Proofs.YtmlncblocfcmiaaGreat
open Go.RowKit
section
variable {c : Formula → Formula → Int} {G : Formula → Prop} {f : Formula × Formula → Option Int}
theorem fU {x : Int} (n : Nat) (h : x = (n : Int)) (a : n ≤ 4000000) : IntKind.i64.wrap x = (n : Int) := by rw [h, cP (by omega) (by omega)]
theorem LA (p m q : List Formula) (a b N : Int) : ∀ (k : Nat) (X1 X2 Y1 Y2 : List Formula) (n : Nat) (i : Int), X2.length = k → Y2.length = k → X1.length = Y1.length → k < n → (p ++ (Y1 ++ (X2 ++ (m ++ (X1 ++ (Y2 ++ q)))))).length ≤ 1000000 →
    i = (X1.length : Int) → N = ((X1.length + k : Nat) : Int) → a = (p.length : Int) → b = ((p.length + X1.length + k + m.length : Nat) : Int) →
    ew N b a n (p ++ (Y1 ++ (X2 ++ (m ++ (X1 ++ (Y2 ++ q)))))) i = some (p ++ ((Y1 ++ Y2) ++ (m ++ ((X1 ++ X2) ++ q)))) := by
  intro k
  induction k with
  | zero =>
    intro X1 X2 Y1 Y2 n i d g v z s w l ha r
    obtain rfl := List.eq_nil_of_length_eq_zero d
    obtain rfl := List.eq_nil_of_length_eq_zero g
    obtain ⟨n, rfl⟩ := Nat.exists_eq_succ_of_ne_zero (by omega : n ≠ 0)
    rw [ew]
    have : ¬ (i < N) := by omega
    simp [this]
  | succ k ih =>
    intro X1 X2 Y1 Y2 n i d g v z s w l ha r
    cases X2 with
    | nil => simp at d
    | cons x X2 =>
    cases Y2 with
    | nil => simp at g
    | cons y Y2 =>
    simp only [List.length_cons, Nat.add_right_cancel_iff] at d g
    obtain ⟨n, rfl⟩ := Nat.exists_eq_succ_of_ne_zero (by omega : n ≠ 0)
    have j := s
    simp only [List.length_append, List.length_cons] at j
    have h : i < N := by omega
    have F : IntKind.i64.wrap (b + i) = (((p ++ Y1).length + 1 + (X2 ++ (m ++ X1)).length : Nat) : Int) := fU _ (by simp; omega) (by simp; omega)
    have G : IntKind.i64.wrap (a + i) = ((p ++ Y1).length : Int) := fU _ (by simp; omega) (by simp; omega)
    have I : IntKind.i64.wrap (i + 1) = ((X1 ++ [x]).length : Int) := fU _ (by simp; omega) (by simp; omega)
    have t : p ++ (Y1 ++ (x :: X2 ++ (m ++ (X1 ++ (y :: Y2 ++ q))))) = (p ++ Y1) ++ x :: ((X2 ++ (m ++ X1)) ++ y :: (Y2 ++ q)) := by simp
    have A : dU ((p ++ Y1) ++ x :: ((X2 ++ (m ++ X1)) ++ y :: (Y2 ++ q))) (((p ++ Y1).length + 1 + (X2 ++ (m ++ X1)).length : Nat) : Int) = some y := by
      have := fj ((p ++ Y1) ++ x :: (X2 ++ (m ++ X1))) y (Y2 ++ q) (((p ++ Y1).length + 1 + (X2 ++ (m ++ X1)).length : Nat) : Int) (by simp; omega)
      simpa using this
    have D : dU ((p ++ Y1) ++ x :: ((X2 ++ (m ++ X1)) ++ y :: (Y2 ++ q))) ((p ++ Y1).length : Int) = some x := fj _ _ _ _ rfl
    rw [ew, t]
    simp only [h, decide_true, if_true, F, G, A, D, Option.bind_some, Int.toNat_natCast, I]
    have E : dU (((p ++ Y1) ++ x :: ((X2 ++ (m ++ X1)) ++ y :: (Y2 ++ q))).set (p ++ Y1).length y) (((p ++ Y1).length + 1 + (X2 ++ (m ++ X1)).length : Nat) : Int) = some y := by
      rw [zt]
      have := fj ((p ++ Y1) ++ y :: (X2 ++ (m ++ X1))) y (Y2 ++ q) (((p ++ Y1).length + 1 + (X2 ++ (m ++ X1)).length : Nat) : Int) (by simp; omega)
      simpa using this
    rw [E, Option.bind_some, Ga, Az]
    have u : (p ++ Y1) ++ y :: ((X2 ++ (m ++ X1)) ++ x :: (Y2 ++ q)) = p ++ ((Y1 ++ [y]) ++ (X2 ++ (m ++ ((X1 ++ [x]) ++ (Y2 ++ q))))) := by simp
    rw [u, ih (X1 ++ [x]) X2 (Y1 ++ [y]) Y2 n _ d g (by simp; omega) (by omega) (by simp; omega) rfl (by rw [l]; simp; omega) ha (by rw [r]; simp; omega)]
    simp
theorem Gc (p m q X Y : List Formula) (a b N : Int) (h : X.length = Y.length) (g : (p ++ (X ++ (m ++ (Y ++ q)))).length ≤ 1000000) (i : N = (X.length : Int)) (ha : a = (p.length : Int)) (j : b = ((p.length + X.length + m.length : Nat) : Int)) :
    ft (p ++ (X ++ (m ++ (Y ++ q)))) a b N f = some (p ++ (Y ++ (m ++ (X ++ q)))) := by
  unfold ft
  have d := g
  simp only [List.length_append] at d
  have := LA p m q a b N X.length [] X [] Y bL 0 rfl h.symm rfl (by rw [eE]; omega) (by simpa using g) rfl (by simpa using i) ha (by rw [j]; simp)
  simpa using this
theorem Mf (M : Int) : ∀ (k : Nat) (A B p q : List Formula) (n : Nat) (i j : Int), A.length + B.length ≤ k → 0 < A.length → 0 < B.length → k < n → (p ++ (A ++ (B ++ q))).length ≤ 1000000 → i = (A.length : Int) → j = (B.length : Int) → M = ((p.length + A.length : Nat) : Int) →
    eK M f n (p ++ (A ++ (B ++ q))) i j = some (p ++ (B ++ (A ++ q))) := by
  intro k
  induction k with
  | zero => intro A B p q n i j h z u; omega
  | succ k ih =>
    intro A B p q n i j h z u I x b m v
    obtain ⟨n, rfl⟩ := Nat.exists_eq_succ_of_ne_zero (by omega : n ≠ 0)
    have a := x
    simp only [List.length_append] at a
    rw [eK]
    by_cases he : A.length = B.length
    · have : (i != j) = false := by rw [b, m, he]; simp
      simp only [this, Bool.false_eq_true, if_false]
      have d : IntKind.i64.wrap (M - i) = (p.length : Int) := fU _ (by omega) (by omega)
      have := Gc (f := f) p [] q A B (p.length : Int) M i he (by simpa using x) b rfl (by rw [v]; simp)
      simp only [List.nil_append] at this
      rw [d, this]; rfl
    · have r : (i != j) = true := by rw [b, m]; simp; omega
      simp only [r, if_true]
      by_cases w : i > j
      · simp only [w, decide_true, if_true]
        obtain ⟨X, Y, rfl, G⟩ := pY (l := A) (n := B.length) (by omega)
        simp only [List.length_append] at b h v a
        have d : IntKind.i64.wrap (M - i) = (p.length : Int) := fU _ (by omega) (by omega)
        have s := Gc (f := f) p Y q X B (p.length : Int) M j (by omega) (by simp; omega) (by omega) rfl (by omega)
        have g : p ++ (X ++ Y ++ (B ++ q)) = p ++ (X ++ (Y ++ (B ++ q))) := by simp
        have t : IntKind.i64.wrap (i - j) = (Y.length : Int) := fU _ (by omega) (by omega)
        rw [g, d, s, Option.bind_some, t]
        have y : p ++ (B ++ (Y ++ (X ++ q))) = (p ++ B) ++ (Y ++ (X ++ q)) := by simp
        rw [y, ih Y X (p ++ B) q n _ j (by omega) (by omega) (by omega) (by omega) (by simp; omega) rfl (by omega) (by simp; omega)]
        simp
      · simp only [w, decide_false, Bool.false_eq_true, if_false]
        obtain ⟨Z, V, rfl, D⟩ := pY (l := B) (n := B.length - A.length) (by omega)
        simp only [List.length_append] at m h a D u he
        have d : IntKind.i64.wrap (M - i) = (p.length : Int) := fU _ (by omega) (by omega)
        have E : IntKind.i64.wrap (M + j) = ((p.length + A.length + (Z.length + V.length) : Nat) : Int) := fU _ (by omega) (by omega)
        have F : IntKind.i64.wrap (((p.length + A.length + (Z.length + V.length) : Nat) : Int) - i) = ((p.length + A.length + Z.length : Nat) : Int) := fU _ (by omega) (by omega)
        have s := Gc (f := f) p Z q A V (p.length : Int) ((p.length + A.length + Z.length : Nat) : Int) i (by omega) (by simp; omega) b rfl rfl
        have g : p ++ (A ++ (Z ++ V ++ q)) = p ++ (A ++ (Z ++ (V ++ q))) := by simp
        have t : IntKind.i64.wrap (j - i) = (Z.length : Int) := fU _ (by omega) (by omega)
        rw [g, d, E, F, s, Option.bind_some, t]
        rw [show p ++ (V ++ (Z ++ (A ++ q))) = p ++ (V ++ (Z ++ ((A ++ q)))) from rfl, ih V Z p (A ++ q) n i _ (by omega) (by omega) (by omega) (by omega) (by simp; omega) (by omega) rfl (by omega)]
        simp
theorem M5 (A B p q : List Formula) (a m b : Int) (h : 0 < A.length) (i : 0 < B.length) (g : (p ++ (A ++ (B ++ q))).length ≤ 1000000) (ha : a = (p.length : Int)) (hm : m = ((p.length + A.length : Nat) : Int)) (j : b = ((p.length + A.length + B.length : Nat) : Int)) :
    fh (p ++ (A ++ (B ++ q))) a m b f = some (p ++ (B ++ (A ++ q))) := by
  unfold fh
  have d := g
  simp only [List.length_append] at d
  rw [fU A.length (by omega) (by omega), fU B.length (by omega) (by omega)]
  exact Mf m (A.length + B.length) A B p q bL _ _ (Nat.le_refl _) h i (by rw [eE]; omega) g rfl rfl hm
end
end Go.Proofs.YtmlncblocfcmiaaGreat
namespace Go.Proofs.YtmlncblocfcmiaaGreat
open Go.RowKit
section
variable {c : Formula → Formula → Int} {G : Formula → Prop} {f : Formula × Formula → Option Int}
theorem wP {x : Int} (n : Nat) (h : x = (n : Int)) (b : n ≤ 4000000) : IntKind.i64.wrap (Int.fdiv (IntKind.u64.wrap (IntKind.i64.wrap x)) (2 ^ min (Int.toNat 1) (IntKind.bits .u64))) = ((n / 2 : Nat) : Int) := by
  rw [fU n h b]
  have a : IntKind.u64.wrap (n : Int) = (n : Int) := by
    simp only [IntKind.wrap, IntKind.signed, IntKind.bits]
    simp
    omega
  rw [a, show (2 ^ min (Int.toNat 1) (IntKind.bits .u64) : Int) = 2 from by decide, Int.fdiv_eq_ediv_of_nonneg _ (by decide), cP (by omega) (by omega)]
  omega
abbrev Ask (a : List Formula) (f : Formula × Formula → Option Int) (p q : Int) (b : Bool) : Prop := ∃ x y r, dU a p = some x ∧ dU a q = some y ∧ f (x, y) = some r ∧ decide (r < 0) = b
theorem M2 (p : List Formula) (q : Int) (b : Nat → Bool) (lo a : Nat) (I : a ≤ 1000000) (v : ∀ h, lo ≤ h → h < a → Ask p f (h : Int) q (b h)) : ∀ (d n i j : Nat), j - i ≤ d → d < n → lo ≤ i → i ≤ j → j ≤ a → (i = lo ∨ b (i - 1) = true) → (j = a ∨ b j = false) →
    ∃ t L, lo ≤ t ∧ t ≤ a ∧ (t = lo ∨ b (t - 1) = true) ∧ (t = a ∨ b t = false) ∧ dC p q f n (i : Int) (j : Int) = dC p q f (L + 1) (t : Int) (t : Int) := by
  intro d
  induction d with
  | zero =>
    intro n i j E J g F k l m
    obtain ⟨n, rfl⟩ := Nat.exists_eq_succ_of_ne_zero (by omega : n ≠ 0)
    obtain rfl : i = j := by omega
    exact ⟨i, n, g, k, l, m, rfl⟩
  | succ d ih =>
    intro n i j E J g F k l m
    obtain ⟨n, rfl⟩ := Nat.exists_eq_succ_of_ne_zero (by omega : n ≠ 0)
    by_cases s : i = j
    · subst s; exact ⟨i, n, g, k, l, m, rfl⟩
    have G := wP (i + j) (x := (i : Int) + (j : Int)) (by omega) (by omega)
    obtain ⟨x, y, r, w, z, A, D⟩ := v ((i + j) / 2) (by omega) (by omega)
    rw [dC]
    have u : ((i : Int) < (j : Int)) := by omega
    simp only [u, decide_true, if_true, G, w, z, A, D, Option.bind_some]
    cases hp : b ((i + j) / 2)
    · simp only [Bool.false_eq_true, if_false]
      exact ih n i ((i + j) / 2) (by omega) (by omega) g (by omega) (by omega) l (.inr hp)
    · simp only [if_true]
      rw [fU ((i + j) / 2 + 1) (by omega) (by omega)]
      exact ih n ((i + j) / 2 + 1) j (by omega) (by omega) (by omega) (by omega) k (.inr (by simpa using hp)) m
theorem Nd (p : List Formula) (q : Int) (b : Nat → Bool) (lo a : Nat) (I : a ≤ 1000000) (v : ∀ h, lo ≤ h → h < a → Ask p f q (h : Int) (!b h)) : ∀ (d n i j : Nat), j - i ≤ d → d < n → lo ≤ i → i ≤ j → j ≤ a → (i = lo ∨ b (i - 1) = true) → (j = a ∨ b j = false) →
    ∃ t L, lo ≤ t ∧ t ≤ a ∧ (t = lo ∨ b (t - 1) = true) ∧ (t = a ∨ b t = false) ∧ dD p q f n (i : Int) (j : Int) = dD p q f (L + 1) (t : Int) (t : Int) := by
  intro d
  induction d with
  | zero =>
    intro n i j E J g F k l m
    obtain ⟨n, rfl⟩ := Nat.exists_eq_succ_of_ne_zero (by omega : n ≠ 0)
    obtain rfl : i = j := by omega
    exact ⟨i, n, g, k, l, m, rfl⟩
  | succ d ih =>
    intro n i j E J g F k l m
    obtain ⟨n, rfl⟩ := Nat.exists_eq_succ_of_ne_zero (by omega : n ≠ 0)
    by_cases s : i = j
    · subst s; exact ⟨i, n, g, k, l, m, rfl⟩
    have G := wP (i + j) (x := (i : Int) + (j : Int)) (by omega) (by omega)
    obtain ⟨x, y, r, w, z, A, D⟩ := v ((i + j) / 2) (by omega) (by omega)
    rw [dD]
    have u : ((i : Int) < (j : Int)) := by omega
    simp only [u, decide_true, if_true, G, w, z, A, D, Option.bind_some, Bool.not_not]
    cases hp : b ((i + j) / 2)
    · simp only [Bool.false_eq_true, if_false]
      exact ih n i ((i + j) / 2) (by omega) (by omega) g (by omega) (by omega) l (.inr hp)
    · simp only [if_true]
      rw [fU ((i + j) / 2 + 1) (by omega) (by omega)]
      exact ih n ((i + j) / 2 + 1) j (by omega) (by omega) (by omega) (by omega) k (.inr (by simpa using hp)) m
theorem My (x : Formula) : ∀ (P Q R : List Formula) (n : Nat) (k i : Int), P.length < n → (Q ++ x :: (P ++ R)).length ≤ 1000000 → k = (Q.length : Int) → i = ((Q.length + P.length + 1 : Nat) : Int) → ez i n (Q ++ x :: (P ++ R)) k = some (Q ++ (P ++ x :: R))
  | [], Q, R, n, k, i, b, d, h, a => by
    obtain ⟨n, rfl⟩ := Nat.exists_eq_succ_of_ne_zero (by simp at b; omega : n ≠ 0)
    simp only [List.length_append, List.length_cons, List.length_nil] at d a
    rw [ez, fU Q.length (by omega) (by omega)]
    have : ¬ (k < (Q.length : Int)) := by omega
    simp [this]
  | y :: P, Q, R, n, k, i, b, d, h, a => by
    obtain ⟨n, rfl⟩ := Nat.exists_eq_succ_of_ne_zero (by simp at b; omega : n ≠ 0)
    simp only [List.length_append, List.length_cons] at d a b
    have j : Q ++ x :: (y :: P ++ R) = Q ++ x :: ([] ++ y :: (P ++ R)) := rfl
    have q : IntKind.i64.wrap (k + 1) = ((Q.length + 1 + ([] : List Formula).length : Nat) : Int) := fU _ (by simp; omega) (by simp; omega)
    have l : dU (Q ++ x :: ([] ++ y :: (P ++ R))) ((Q.length + 1 + ([] : List Formula).length : Nat) : Int) = some y := by
      have := fj (Q ++ [x]) y (P ++ R) ((Q.length + 1 + ([] : List Formula).length : Nat) : Int) (by simp)
      simpa using this
    have m : dU (Q ++ x :: ([] ++ y :: (P ++ R))) k = some x := fj _ _ _ _ h
    rw [ez, fU (Q.length + P.length + 1) (by omega) (by omega), j]
    have g : k < ((Q.length + P.length + 1 : Nat) : Int) := by omega
    have kn : k.toNat = Q.length := by omega
    simp only [g, decide_true, if_true, q, l, m, Option.bind_some, kn]
    have p : dU ((Q ++ x :: ([] ++ y :: (P ++ R))).set Q.length y) ((Q.length + 1 + ([] : List Formula).length : Nat) : Int) = some y := by
      rw [zt]
      have := fj (Q ++ [y]) y (P ++ R) ((Q.length + 1 + ([] : List Formula).length : Nat) : Int) (by simp)
      simpa using this
    rw [p, Option.bind_some, Int.toNat_natCast, Ga, Az]
    have := My x P (Q ++ [y]) R n ((Q.length + 1 + ([] : List Formula).length : Nat) : Int) i (by omega) (by simp; omega) (by simp) (by rw [a]; simp; omega)
    simpa using this
theorem Ni (x : Formula) : ∀ (k : Nat) (S Q R : List Formula) (n : Nat) (j i : Int), S.length = k → k < n → (Q ++ (S ++ x :: R)).length ≤ 1000000 → j = ((Q.length + S.length : Nat) : Int) → i = (Q.length : Int) → eA i n (Q ++ (S ++ x :: R)) j = some (Q ++ x :: (S ++ R)) := by
  intro k
  induction k with
  | zero =>
    intro S Q R n j i b p l a h
    obtain ⟨n, rfl⟩ := Nat.exists_eq_succ_of_ne_zero (by omega : n ≠ 0)
    obtain rfl := List.eq_nil_of_length_eq_zero b
    rw [eA]
    simp only [List.length_nil, Nat.add_zero] at a
    have : ¬ (j > i) := by omega
    simp [this]
  | succ k ih =>
    intro S Q R n j i b p l a h
    obtain ⟨n, rfl⟩ := Nat.exists_eq_succ_of_ne_zero (by omega : n ≠ 0)
    rcases List.eq_nil_or_concat S with rfl | ⟨S, z, rfl⟩
    · simp at b
    simp only [List.concat_eq_append, List.length_append, List.length_cons, List.length_nil] at b a l ⊢
    have m : Q ++ (S ++ [z] ++ x :: R) = (Q ++ S) ++ z :: ([] ++ x :: R) := by simp
    have u : IntKind.i64.wrap (j - 1) = ((Q ++ S).length : Int) := fU _ (by simp; omega) (by simp; omega)
    have d : j = (((Q ++ S).length + 1 + ([] : List Formula).length : Nat) : Int) := by rw [a]; simp; omega
    have q : dU ((Q ++ S) ++ z :: ([] ++ x :: R)) j = some x := by
      have := fj (Q ++ S ++ [z]) x R j (by rw [d]; simp; omega)
      simpa using this
    have r : dU ((Q ++ S) ++ z :: ([] ++ x :: R)) ((Q ++ S).length : Int) = some z := fj _ _ _ _ rfl
    rw [eA, m]
    have g : j > i := by omega
    have t : j.toNat = (Q ++ S).length + 1 + ([] : List Formula).length := by omega
    simp only [g, decide_true, if_true, u, q, r, Option.bind_some, t]
    have s : dU (((Q ++ S) ++ z :: ([] ++ x :: R)).set ((Q ++ S).length + 1 + ([] : List Formula).length) z) ((Q ++ S).length : Int) = some z := by
      have : ((Q ++ S) ++ z :: ([] ++ x :: R)).set ((Q ++ S).length + 1 + ([] : List Formula).length) z = (Q ++ S) ++ z :: (z :: R) := by
        have := EB (Q ++ S ++ [z]) R x z ((Q ++ S).length + 1 + ([] : List Formula).length) (by simp; omega)
        simpa using this
      rw [this]; exact fj _ _ _ _ rfl
    rw [s, Option.bind_some, Int.toNat_natCast, Ga, G9]
    have := ih S Q (z :: R) n ((Q ++ S).length : Int) i (by omega) (by omega) (by simp; omega) (by simp) h
    simpa using this
end
end Go.Proofs.YtmlncblocfcmiaaGreat
namespace Go.Proofs.YtmlncblocfcmiaaGreat
open Go.RowKit
section
variable {c : Formula → Formula → Int} {G : Formula → Prop} {f : Formula × Formula → Option Int}
theorem Mz (E : List Formula) (l q v : Int) (rec : List Formula → Int → Int → Int → ((Formula × Formula) → Option Int) → Option (List Formula)) (a m p : Nat) (s : l + q = ((2 * a : Nat) : Int) ∨ l + q = ((2 * a + 1 : Nat) : Int)) (hm : v = (m : Int)) (hp : p + 1 = a + m) (k : Nat → Bool) (lo b : Nat) (T : b ≤ 1000000) (W : a ≤ 1000000) (U : a + m ≤ 2000000) (hle : b ≤ p + 1) (I : ∀ h, lo ≤ h → h < b → Ask E f ((p - h : Nat) : Int) (h : Int) (!k h)) : ∀ (d n i j : Nat), j - i ≤ d → d < n → lo ≤ i → i ≤ j → j ≤ b → (i = lo ∨ k (i - 1) = true) → (j = b ∨ k j = false) →
    ∃ t Z, lo ≤ t ∧ t ≤ b ∧ (t = lo ∨ k (t - 1) = true) ∧ (t = b ∨ k t = false) ∧ cQ E l q v f rec n (i : Int) (j : Int) = cQ E l q v f rec (Z + 1) (t : Int) (t : Int) := by
  have g : IntKind.i64.wrap (Int.fdiv (IntKind.u64.wrap (IntKind.i64.wrap (l + q))) (2 ^ min (Int.toNat 1) (IntKind.bits .u64))) = (a : Int) := by
    rcases s with h | h
    · rw [wP _ h (by omega), show 2 * a / 2 = a by omega]
    · rw [wP _ h (by omega), show (2 * a + 1) / 2 = a by omega]
  intro d
  induction d with
  | zero =>
    intro n i j P Y w Q z A D
    obtain ⟨n, rfl⟩ := Nat.exists_eq_succ_of_ne_zero (by omega : n ≠ 0)
    obtain rfl : i = j := by omega
    exact ⟨i, n, w, z, A, D, rfl⟩
  | succ d ih =>
    intro n i j P Y w Q z A D
    obtain ⟨n, rfl⟩ := Nat.exists_eq_succ_of_ne_zero (by omega : n ≠ 0)
    by_cases F : i = j
    · subst F; exact ⟨i, n, w, z, A, D, rfl⟩
    have R := wP (i + j) (x := (i : Int) + (j : Int)) (by omega) (by omega)
    obtain ⟨x, y, r, J, L, M, O⟩ := I ((i + j) / 2) (by omega) (by omega)
    have w1 : IntKind.i64.wrap ((a : Int) + v) = ((a + m : Nat) : Int) := fU _ (by omega) (by omega)
    have w2 : IntKind.i64.wrap (((a + m : Nat) : Int) - 1) = (p : Int) := fU _ (by omega) (by omega)
    have w3 : IntKind.i64.wrap ((p : Int) - (((i + j) / 2 : Nat) : Int)) = ((p - (i + j) / 2 : Nat) : Int) := fU _ (by omega) (by omega)
    rw [cQ]
    have G : ((i : Int) < (j : Int)) := by omega
    simp only [G, decide_true, if_true, R, g, w1, w2, w3, J, L, M, O, Option.bind_some, Bool.not_not]
    cases u : k ((i + j) / 2)
    · simp only [Bool.false_eq_true, if_false]
      exact ih n i ((i + j) / 2) (by omega) (by omega) w (by omega) (by omega) A (.inr u)
    · simp only [if_true]
      rw [fU ((i + j) / 2 + 1) (by omega) (by omega)]
      exact ih n ((i + j) / 2 + 1) j (by omega) (by omega) (by omega) (by omega) z (.inr (by simpa using u)) D
theorem KK (k : List Formula) (d g j : Int) (rec : List Formula → Int → Int → Int → ((Formula × Formula) → Option Int) → Option (List Formula)) (a m t n : Nat) (i : d + g = ((2 * a : Nat) : Int) ∨ d + g = ((2 * a + 1 : Nat) : Int)) (hm : j = (m : Int)) (y : a ≤ 1000000) (w : a + m ≤ 2000000) (F : t ≤ a + m) :
    cQ k d g j f rec (n + 1) (t : Int) (t : Int) =
      ((if t < m ∧ m < a + m - t then fh k (t : Int) j ((a + m - t : Nat) : Int) f else some k).bind fun l => ((if d < (t : Int) ∧ t < a then rec l d (t : Int) (a : Int) f else some l).bind fun l => if a < a + m - t ∧ ((a + m - t : Nat) : Int) < g then rec l (a : Int) ((a + m - t : Nat) : Int) g f else some l)) := by
  have b : IntKind.i64.wrap (Int.fdiv (IntKind.u64.wrap (IntKind.i64.wrap (d + g))) (2 ^ min (Int.toNat 1) (IntKind.bits .u64))) = (a : Int) := by
    rcases i with h | h
    · rw [wP _ h (by omega), show 2 * a / 2 = a by omega]
    · rw [wP _ h (by omega), show (2 * a + 1) / 2 = a by omega]
  have D : IntKind.i64.wrap ((a : Int) + j) = ((a + m : Nat) : Int) := fU _ (by omega) (by omega)
  have E : IntKind.i64.wrap (((a + m : Nat) : Int) - (t : Int)) = ((a + m - t : Nat) : Int) := fU _ (by omega) (by omega)
  rw [cQ]
  simp only [Int.lt_irrefl, decide_false, Bool.false_eq_true, if_false, b, D, E, gh]
  subst hm
  have r : ((t : Int) < (m : Int)) = (t < m) := by simp
  have s : ((m : Int) < ((a + m - t : Nat) : Int)) = (m < a + m - t) := by rw [eq_iff_iff]; omega
  have u : ((t : Int) < (a : Int)) = (t < a) := by simp
  have v : ((a : Int) < ((a + m - t : Nat) : Int)) = (a < a + m - t) := by rw [eq_iff_iff]; omega
  simp only [r, s, u, v]
  have key : ∀ (p q : Prop) [Decidable p] [Decidable q] (A B : Option (List Formula)), ((if decide p = true then some (decide q) else some false : Option Bool).bind fun x => if x = true then A else B) = if p ∧ q then A else B := by
    intro p q _ _ A B
    by_cases hp : p <;> by_cases z : q <;> simp [hp, z]
  simp only [key]
theorem GK (p A q : List Formula) (h : Nat) (i : p.length ≤ h) (j : h < p.length + A.length) : ∃ x, A[h - p.length]? = some x ∧ dU (p ++ (A ++ q)) (h : Int) = some x := by
  obtain ⟨x, g⟩ : ∃ x, A[h - p.length]? = some x := ⟨_, List.getElem?d (by omega)⟩
  refine ⟨x, g, ?_⟩
  rw [zh, List.getElem?a i, List.getElem?b (by omega), g]
end
end Go.Proofs.YtmlncblocfcmiaaGreat
namespace Go.Proofs.YtmlncblocfcmiaaGreat
open Go.RowKit
section
variable {c : Formula → Formula → Int} {G : Formula → Prop} {f : Formula × Formula → Option Int}
theorem xC {α : Type} {P A' : List α} {z : α} (S : List α) (h : P = A' ++ [z]) : (P ++ S)[P.length - 1]? = some z := by subst h; simp
theorem wV {α : Type} {S B' : List α} {z : α} (P : List α) (h : S = z :: B') : (P ++ S)[P.length]? = some z := by subst h; simp
theorem rK {A : List (Formula × Nat)} {i : Nat} {z : Formula × Nat} (h : A[i]? = some z) : (A.map (·.1))[i]? = some z.1 := by simp [h]
theorem L8 (h : SWO (fT c)) (T : wv f c G) (x : Formula × Nat) (B : List (Formula × Nat)) (pre post : List Formula) (a m b : Int) (L : gN (fT c) B) (Y : ∀ y ∈ B, x.2 < y.2) (D : ∀ y ∈ x :: B, G y.1) (U : (pre ++ x.1 :: (B.map (·.1) ++ post)).length ≤ 400000) (ha : a = (pre.length : Int)) (hm : m = ((pre.length + 1 : Nat) : Int)) (R : b = ((pre.length + 1 + B.length : Nat) : Int)) :
    ∃ u, dC (pre ++ x.1 :: (B.map (·.1) ++ post)) a f bL m b = some (pre ++ (u.map (·.1) ++ post)) ∧ gN (fT c) u ∧ u.Perm (x :: B) := by
  have r := U
  simp only [List.length_append, List.length_cons, List.length_map] at r
  let g : Nat → Bool := fun k => match (B.map (·.1))[k - (pre.length + 1)]? with | some y => fT c y x.1 | none => false
  have j : ∀ k, pre.length + 1 ≤ k → k < pre.length + 1 + B.length → Ask (pre ++ x.1 :: (B.map (·.1) ++ post)) f (k : Int) a (g k) := by
    intro k h1 h2
    obtain ⟨y, w, E⟩ := GK (pre ++ [x.1]) (B.map (·.1)) post k (by simp; omega) (by simp; omega)
    have F : dU (pre ++ x.1 :: (B.map (·.1) ++ post)) (k : Int) = some y := by simpa using E
    have I : dU (pre ++ x.1 :: (B.map (·.1) ++ post)) a = some x.1 := fj _ _ _ _ ha
    have Z : G y := by
      obtain ⟨q, W, rfl⟩ := List.mem_map.1 (List.mem_of_getElem? w)
      exact D q (by simp [W])
    refine ⟨y, x.1, _, F, I, T y x.1 Z (D x (by simp)), ?_⟩
    simp only [List.length_append, List.length_cons, List.length_nil] at w
    simp only [g, w]
  obtain ⟨t, n', t1, t2, v, s, e⟩ := M2 (f := f) _ a g (pre.length + 1) (pre.length + 1 + B.length) (by omega) j B.length bL (pre.length + 1) (pre.length + 1 + B.length) (by omega) (by rw [eE]; omega) (Nat.le_refl _) (by omega) (Nat.le_refl _) (.inl rfl) (.inl rfl)
  rw [hm, R, e, dC]
  simp only [Int.lt_irrefl, decide_false, Bool.false_eq_true, if_false, gh]
  obtain ⟨P, S, rfl, M⟩ := pY (l := B) (n := t - (pre.length + 1)) (by omega)
  simp only [List.length_append] at r t2 s
  have J : pre ++ x.1 :: ((P ++ S).map (·.1) ++ post) = pre ++ x.1 :: (P.map (·.1) ++ (S.map (·.1) ++ post)) := by simp
  rw [J, My x.1 (P.map (·.1)) pre (S.map (·.1) ++ post) bL a (t : Int) (by rw [eE]; simp; omega) (by simp; omega) ha (by simp; omega)]
  refine ⟨P ++ x :: S, by simp, BT h L ?_ ?_, List.perm_middle⟩
  · intro A' z A B' i d
    simp only [List.cons.injEq] at d
    rw [← d.1]
    have O : 0 < P.length := by rw [i]; simp
    have hp : g (t - 1) = true := by
      rcases v with v | v
      · omega
      · exact v
    have p := rK (xC S i)
    rw [show P.length - 1 = t - 1 - (pre.length + 1) by omega] at p
    simp only [g, p] at hp
    exact .inl hp
  · intro A' z A B' i d
    have hz : z = x := by
      cases A' with
      | nil => simpa using i.symm
      | cons _ A' => simp at i
    rw [hz]
    have Q : 0 < S.length := by rw [d]; simp
    have hp : g t = false := by
      rcases s with s | s
      · omega
      · exact s
    have p := rK (wV P d)
    rw [M] at p
    simp only [g, p] at hp
    exact .inr ⟨hp, Y A (by rw [d]; simp)⟩
theorem L6 (h : SWO (fT c)) (R : wv f c G) (y : Formula × Nat) (A : List (Formula × Nat)) (pre post : List Formula) (a m : Int) (L : gN (fT c) A) (W : ∀ x ∈ A, x.2 < y.2) (w : ∀ x ∈ y :: A, G x.1) (T : (pre ++ (A.map (·.1) ++ y.1 :: post)).length ≤ 400000) (ha : a = (pre.length : Int)) (hm : m = ((pre.length + A.length : Nat) : Int)) :
    ∃ u, dD (pre ++ (A.map (·.1) ++ y.1 :: post)) m f bL a m = some (pre ++ (u.map (·.1) ++ post)) ∧ gN (fT c) u ∧ u.Perm (A ++ [y]) := by
  have p := T
  simp only [List.length_append, List.length_cons, List.length_map] at p
  let g : Nat → Bool := fun k => match (A.map (·.1))[k - pre.length]? with | some x => !fT c y.1 x | none => false
  have i : ∀ k, pre.length ≤ k → k < pre.length + A.length → Ask (pre ++ (A.map (·.1) ++ y.1 :: post)) f m (k : Int) (!g k) := by
    intro k J h2
    obtain ⟨x, v, E⟩ := GK pre (A.map (·.1)) (y.1 :: post) k J (by simp; omega)
    have F : dU (pre ++ (A.map (·.1) ++ y.1 :: post)) m = some y.1 := by
      have := fj (pre ++ A.map (·.1)) y.1 post m (by rw [hm]; simp)
      simpa using this
    have Y : G x := by
      obtain ⟨q, U, rfl⟩ := List.mem_map.1 (List.mem_of_getElem? v)
      exact w q (by simp [U])
    refine ⟨y.1, x, _, F, E, R y.1 x (w y (by simp)) Y, ?_⟩
    simp only [g, v, Bool.not_not]
  obtain ⟨t, n', t1, t2, s, r, e⟩ := Nd (f := f) _ m g pre.length (pre.length + A.length) (by omega) i A.length bL pre.length (pre.length + A.length) (by omega) (by rw [eE]; omega) (Nat.le_refl _) (by omega) (Nat.le_refl _) (.inl rfl) (.inl rfl)
  rw [← hm, ← ha] at e
  rw [e, dD]
  simp only [Int.lt_irrefl, decide_false, Bool.false_eq_true, if_false, gh]
  obtain ⟨P, S, rfl, M⟩ := pY (l := A) (n := t - pre.length) (by omega)
  simp only [List.length_append] at p t2 r hm
  have I : pre ++ ((P ++ S).map (·.1) ++ y.1 :: post) = (pre ++ P.map (·.1)) ++ (S.map (·.1) ++ y.1 :: post) := by simp
  rw [I, Ni y.1 S.length (S.map (·.1)) (pre ++ P.map (·.1)) post bL m (t : Int) (by simp) (by rw [eE]; omega) (by simp; omega) (by rw [hm]; simp; omega) (by simp; omega)]
  refine ⟨P ++ y :: S, by simp, BT h L ?_ ?_, List.perm_middle.trans (List.perm_append_singleton y (P ++ S)).symm⟩
  · intro A' z D B' b d
    simp only [List.cons.injEq] at d
    rw [← d.1]
    have O : 0 < P.length := by rw [b]; simp
    have hp : g (t - 1) = true := by
      rcases s with s | s
      · omega
      · exact s
    have j := rK (xC S b)
    rw [show P.length - 1 = t - 1 - pre.length by omega] at j
    simp only [g, j, Bool.not_eq_true'] at hp
    exact .inr ⟨hp, W z (by rw [b]; simp)⟩
  · intro A' z D B' b d
    have Z : z = y := by
      cases A' with
      | nil => simpa using b.symm
      | cons _ A' => simp at b
    rw [Z]
    have Q : 0 < S.length := by rw [d]; simp
    have hp : g t = false := by
      rcases r with r | r
      · omega
      · exact r
    have j := rK (wV P d)
    rw [M] at j
    simp only [g, j, Bool.not_eq_false'] at hp
    exact .inl hp
theorem IN {α : Type} {A1 A2 B1 B2 C1 C2 : List α} (a : C1.Perm (A1 ++ B1)) (b : C2.Perm (A2 ++ B2)) : (C1 ++ C2).Perm ((A1 ++ A2) ++ (B1 ++ B2)) := by
  refine (a.append b).trans ?_
  simp only [List.append_assoc]
  refine List.Perm.append_left A1 ?_
  exact List.perm_append_comm_assoc B1 A2 B2
def Jn (c : Formula → Formula → Int) (A B : List Formula) (a b p q : Nat) : Bool := match A[q - a]?, B[p - q - b]? with | some x, some y => !fT c y x | _, _ => false
theorem Ei {A B : List Formula} {a b p q : Nat} {x y : Formula} (d : A[q - a]? = some x) (g : B[p - q - b]? = some y) : Jn c A B a b p q = !fT c y x := by simp only [Jn, d, g]
theorem MW (l : wv f c G) (A B : List (Formula × Nat)) (pre post : List Formula) (a p : Nat) (m : a = pre.length + A.length) (h : ∀ x ∈ A ++ B, G x.1) (q : Nat) (s : pre.length ≤ q) (t : q < a) (u : a ≤ p - q) (v : p - q < a + B.length) :
    Ask (pre ++ (A.map (·.1) ++ (B.map (·.1) ++ post))) f ((p - q : Nat) : Int) (q : Int) (!Jn c (A.map (·.1)) (B.map (·.1)) pre.length a p q) := by
  obtain ⟨x, g, i⟩ := GK pre (A.map (·.1)) (B.map (·.1) ++ post) q s (by simp; omega)
  obtain ⟨y, b, j⟩ := GK (pre ++ A.map (·.1)) (B.map (·.1)) post (p - q) (by simp; omega) (by simp; omega)
  have n : G x := by
    obtain ⟨z, d, rfl⟩ := List.mem_map.1 (List.mem_of_getElem? g)
    exact h z (by simp [d])
  have r : G y := by
    obtain ⟨z, d, rfl⟩ := List.mem_map.1 (List.mem_of_getElem? b)
    exact h z (by simp [d])
  have k : dU (pre ++ (A.map (·.1) ++ (B.map (·.1) ++ post))) ((p - q : Nat) : Int) = some y := by simpa using j
  refine ⟨y, x, _, k, i, l y x r n, ?_⟩
  rw [show p - q - (pre ++ A.map (·.1)).length = p - q - a by simp; omega] at b
  rw [Ei g b, Bool.not_not]
abbrev M8 (c : Formula → Formula → Int) (G : Formula → Prop) (f : Formula × Formula → Option Int) (rec : List Formula → Int → Int → Int → ((Formula × Formula) → Option Int) → Option (List Formula)) (k : Nat) : Prop :=
  ∀ (A B : List (Formula × Nat)) (pre post : List Formula) (a m b : Int), A.length + B.length ≤ k → 0 < A.length → 0 < B.length → gN (fT c) A → gN (fT c) B →
    (∀ x ∈ A, ∀ y ∈ B, x.2 < y.2) → (∀ x ∈ A ++ B, G x.1) → (pre ++ (A.map (·.1) ++ (B.map (·.1) ++ post))).length ≤ 400000 → a = (pre.length : Int) → m = ((pre.length + A.length : Nat) : Int) → b = ((pre.length + A.length + B.length : Nat) : Int) →
    ∃ u, rec (pre ++ (A.map (·.1) ++ (B.map (·.1) ++ post))) a m b f = some (pre ++ (u.map (·.1) ++ post)) ∧ gN (fT c) u ∧ u.Perm (A ++ B)
theorem Lu (h : SWO (fT c)) {rec : List Formula → Int → Int → Int → ((Formula × Formula) → Option Int) → Option (List Formula)} {k : Nat} (ih : M8 c G f rec k) (A1 A2 B1 B2 : List (Formula × Nat)) (pre post : List Formula) (a m b : Int) (d g t : Nat) (R : g = pre.length + (A1.length + A2.length)) (U : d = (pre.length + (g + (B1.length + B2.length))) / 2) (P : A1.length = t - pre.length) (Q : B1.length = d - t) (W : pre.length ≤ t) (Y : t ≤ d) (Z : t ≤ g) (hk : A1.length + A2.length + (B1.length + B2.length) ≤ k + 1) (T : 2 ≤ A1.length + A2.length + (B1.length + B2.length)) (q : gN (fT c) (A1 ++ A2)) (r : gN (fT c) (B1 ++ B2)) (J : ∀ x ∈ A1 ++ A2, ∀ y ∈ B1 ++ B2, x.2 < y.2) (I : ∀ x ∈ (A1 ++ A2) ++ (B1 ++ B2), G x.1) (hl : pre.length + (A1.length + A2.length + (B1.length + B2.length + post.length)) ≤ 400000) (ha : a = (pre.length : Int)) (hm : m = (g : Int)) (hb : b = ((g + (B1.length + B2.length) : Nat) : Int)) (l1 : Lk (fT c) A1 B2) (l2 : Lk (fT c) B1 A2) :
    ∃ u, ((if t < g ∧ g < d + g - t then fh (pre ++ ((A1 ++ A2).map (·.1) ++ ((B1 ++ B2).map (·.1) ++ post))) (t : Int) m ((d + g - t : Nat) : Int) f else some (pre ++ ((A1 ++ A2).map (·.1) ++ ((B1 ++ B2).map (·.1) ++ post)))).bind fun l =>
      ((if a < (t : Int) ∧ t < d then rec l a (t : Int) (d : Int) f else some l).bind fun l => if d < d + g - t ∧ ((d + g - t : Nat) : Int) < b then rec l (d : Int) ((d + g - t : Nat) : Int) b f else some l)) = some (pre ++ (u.map (·.1) ++ post)) ∧ gN (fT c) u ∧ u.Perm ((A1 ++ A2) ++ (B1 ++ B2)) := by
  have r1 : (if t < g ∧ g < d + g - t then fh (pre ++ ((A1 ++ A2).map (·.1) ++ ((B1 ++ B2).map (·.1) ++ post))) (t : Int) m ((d + g - t : Nat) : Int) f else some (pre ++ ((A1 ++ A2).map (·.1) ++ ((B1 ++ B2).map (·.1) ++ post)))) =
      some (pre ++ (A1.map (·.1) ++ (B1.map (·.1) ++ (A2.map (·.1) ++ (B2.map (·.1) ++ post))))) := by
    by_cases j : t < g ∧ g < d + g - t
    · rw [if_pos j]
      have := M5 (f := f) (A2.map (·.1)) (B1.map (·.1)) (pre ++ A1.map (·.1)) (B2.map (·.1) ++ post) (t : Int) m ((d + g - t : Nat) : Int) (by simp; omega) (by simp; omega) (by simp; omega) (by simp; omega) (by simp; omega) (by simp; omega)
      simpa using this
    · rw [if_neg j]
      have : A2 = [] ∨ B1 = [] := by
        by_cases O : A2.length = 0
        · exact .inl (List.eq_nil_of_length_eq_zero O)
        · exact .inr (List.eq_nil_of_length_eq_zero (by omega))
      rcases this with rfl | rfl <;> simp
  rw [r1, Option.bind_some]
  have r2 : ∃ C1, (if a < (t : Int) ∧ t < d then rec (pre ++ (A1.map (·.1) ++ (B1.map (·.1) ++ (A2.map (·.1) ++ (B2.map (·.1) ++ post))))) a (t : Int) (d : Int) f else some (pre ++ (A1.map (·.1) ++ (B1.map (·.1) ++ (A2.map (·.1) ++ (B2.map (·.1) ++ post)))))) =
      some (pre ++ (C1.map (·.1) ++ (A2.map (·.1) ++ (B2.map (·.1) ++ post)))) ∧ gN (fT c) C1 ∧ C1.Perm (A1 ++ B1) := by
    by_cases j : a < (t : Int) ∧ t < d
    · rw [if_pos j]
      exact ih A1 B1 pre (A2.map (·.1) ++ (B2.map (·.1) ++ post)) a t d (by omega) (by omega) (by omega) q.left r.left (fun x i y D => J x (by simp [i]) y (by simp [D])) (fun x i => I x (by simp at i ⊢; rcases i with i | i <;> simp [i]))
        (by simp; omega) ha (by omega) (by omega)
    · rw [if_neg j]
      refine ⟨A1 ++ B1, by simp, Eb h q.left r.left (fun A' x y B' E F => ?_), .refl _⟩
      have L : 0 < A1.length := by rw [E]; simp
      have M : 0 < B1.length := by rw [F]; simp
      omega
  obtain ⟨C1, s, w, n⟩ := r2
  have v := n.length_eq
  simp only [List.length_append] at v
  rw [s, Option.bind_some]
  have r3 : ∃ C2, (if d < d + g - t ∧ ((d + g - t : Nat) : Int) < b then rec (pre ++ (C1.map (·.1) ++ (A2.map (·.1) ++ (B2.map (·.1) ++ post)))) (d : Int) ((d + g - t : Nat) : Int) b f else some (pre ++ (C1.map (·.1) ++ (A2.map (·.1) ++ (B2.map (·.1) ++ post))))) =
      some ((pre ++ C1.map (·.1)) ++ (C2.map (·.1) ++ post)) ∧ gN (fT c) C2 ∧ C2.Perm (A2 ++ B2) := by
    by_cases j : d < d + g - t ∧ ((d + g - t : Nat) : Int) < b
    · rw [if_pos j]
      have := ih A2 B2 (pre ++ C1.map (·.1)) post d ((d + g - t : Nat) : Int) b (by omega) (by omega) (by omega) q.right r.right (fun x i y D => J x (by simp [i]) y (by simp [D])) (fun x i => I x (by simp at i ⊢; rcases i with i | i <;> simp [i]))
        (by simp; omega) (by simp; omega) (by simp; omega) (by simp; omega)
      simpa using this
    · rw [if_neg j]
      refine ⟨A2 ++ B2, by simp, Eb h q.right r.right (fun A' x y B' E F => ?_), .refl _⟩
      have L : 0 < A2.length := by rw [E]; simp
      have M : 0 < B2.length := by rw [F]; simp
      omega
  obtain ⟨C2, z, A, p⟩ := r3
  rw [z]
  exact ⟨C1 ++ C2, by simp, JR h q r l1 l2 n p w A, IN n p⟩
theorem IX (F : Nat) (Q : 1000000 < F) (L : List Formula) (rec : List Formula → Int → Int → Int → ((Formula × Formula) → Option Int) → Option (List Formula)) (pl h i d g p : Nat) (a b m : Int) (s : Nat → Bool) (E : 0 < h) (G : 0 < i) (M : pl + (h + i) ≤ 400000) (J : d = (pl + (pl + h + i)) / 2) (I : g = pl + h) (hp : p + 1 = d + g) (n : a + b = ((2 * d : Nat) : Int) ∨ a + b = ((2 * d + 1 : Nat) : Int)) (ha : a = (pl : Int)) (l : m = (g : Int)) (R : b = ((pl + h + i : Nat) : Int)) (j : ∀ q, pl ≤ q → q < g → g ≤ p - q → p - q < g + i → Ask L f ((p - q : Nat) : Int) (q : Int) (!s q)) :
    ∃ t r lo u : Nat, (lo = pl ∧ u = g ∧ g ≤ d ∨ lo + (pl + h + i) = d + g ∧ u = d ∧ d < g) ∧ lo ≤ t ∧ t ≤ u ∧ (t = lo ∨ s (t - 1) = true) ∧ (t = u ∨ s t = false) ∧
        ((if decide (m > (d : Int)) then some (IntKind.i64.wrap (((d + g : Nat) : Int) - b), (d : Int)) else some (a, m) : Option (Int × Int)).bind fun x => cQ L a b m f rec F x.1 x.2) =
          cQ L a b m f rec (r + 1) (t : Int) (t : Int) := by
  by_cases w : d < g
  · obtain ⟨lo, v⟩ : ∃ lo : Nat, lo + (pl + h + i) = d + g := ⟨d + g - (pl + h + i), by omega⟩
    obtain ⟨t, r, y, z, A, D, e⟩ := Mz (f := f) L a b m rec d g p n l hp s lo d (by omega) (by omega) (by omega) (by omega) (fun q O P => j q (by omega) (by omega) (by omega) (by omega))
      (d - lo) F lo d (Nat.le_refl _) (by omega) (Nat.le_refl _) (by omega) (Nat.le_refl _) (.inl rfl) (.inl rfl)
    refine ⟨t, r, lo, d, .inr ⟨v, rfl, w⟩, y, z, A, D, ?_⟩
    have k : m > (d : Int) := by omega
    simp only [k, decide_true, if_true, Option.bind_some]
    rw [fU lo (by omega) (by omega), e]
  · obtain ⟨t, r, y, z, A, D, e⟩ := Mz (f := f) L a b m rec d g p n l hp s pl g (by omega) (by omega) (by omega) (by omega) (fun q O P => j q (by omega) (by omega) (by omega) (by omega))
      (g - pl) F pl g (Nat.le_refl _) (by omega) (Nat.le_refl _) (by omega) (Nat.le_refl _) (.inl rfl) (.inl rfl)
    refine ⟨t, r, pl, g, .inl ⟨rfl, rfl, by omega⟩, y, z, A, D, ?_⟩
    have k : ¬ (m > (d : Int)) := by omega
    simp only [k, decide_false, Bool.false_eq_true, if_false, Option.bind_some]
    rw [← e, ← ha, ← l]
set_option maxHeartbeats 2000000 in
theorem MX (h : SWO (fT c)) (hf : wv f c G) : ∀ (k : Nat) (A B : List (Formula × Nat)) (pre post : List Formula) (n : Nat) (a m b : Int), A.length + B.length ≤ k → 0 < A.length → 0 < B.length → k < n → gN (fT c) A → gN (fT c) B →
    (∀ x ∈ A, ∀ y ∈ B, x.2 < y.2) → (∀ x ∈ A ++ B, G x.1) → (pre ++ (A.map (·.1) ++ (B.map (·.1) ++ post))).length ≤ 400000 → a = (pre.length : Int) → m = ((pre.length + A.length : Nat) : Int) → b = ((pre.length + A.length + B.length : Nat) : Int) →
    ∃ u, dQ n (pre ++ (A.map (·.1) ++ (B.map (·.1) ++ post))) a m b f = some (pre ++ (u.map (·.1) ++ post)) ∧ gN (fT c) u ∧ u.Perm (A ++ B) := by
  intro k
  induction k with
  | zero => intro A B pre post n a m b h0 h1 h2; omega
  | succ k ih =>
    intro A B pre post n a m b h0 h1 h2 hn hA hB Z Y hl ha hm P
    obtain ⟨n, rfl⟩ := Nat.exists_eq_succ_of_ne_zero (by omega : n ≠ 0)
    have Q := hl
    simp only [List.length_append, List.length_map] at Q
    rw [dQ]
    unfold iD
    by_cases c1 : A.length = 1
    · obtain ⟨x, rfl⟩ := List.length_eq_one_iff.1 c1
      have : (IntKind.i64.wrap (m - a) == 1) = true := by rw [fU 1 (by simp at hm; omega) (by omega)]; rfl
      simp only [this, if_true]
      obtain ⟨u, u1, u2, u3⟩ := L8 h hf x B pre post a m b hB (fun y hy => Z x (by simp) y hy) (fun y hy => Y y (by simpa using hy)) (by simpa using hl) ha (by simpa using hm) (by simpa using P)
      exact ⟨u, by simpa using u1, u2, by simpa using u3⟩
    have n1 : (IntKind.i64.wrap (m - a) == 1) = false := by rw [fU A.length (by omega) (by omega)]; simp; omega
    simp only [n1, Bool.false_eq_true, if_false]
    by_cases c2 : B.length = 1
    · obtain ⟨y, rfl⟩ := List.length_eq_one_iff.1 c2
      have : (IntKind.i64.wrap (b - m) == 1) = true := by rw [fU 1 (by simp at P; omega) (by omega)]; rfl
      simp only [this, if_true]
      obtain ⟨u, u1, u2, u3⟩ := L6 h hf y A pre post a m hA (fun x hx => Z x hx y (by simp)) (fun x hx => Y x (by simp at hx ⊢; exact hx.symm)) (by simpa using hl) ha hm
      exact ⟨u, by simpa using u1, u2, u3⟩
    have n2 : (IntKind.i64.wrap (b - m) == 1) = false := by rw [fU B.length (by omega) (by omega)]; simp; omega
    simp only [n2, Bool.false_eq_true, if_false]
    obtain ⟨F, hF, a1⟩ : ∃ F, F = bL ∧ 1000000 < F := ⟨bL, rfl, by rw [eE]; omega⟩
    rw [← hF]
    obtain ⟨d, I⟩ : ∃ d : Nat, d = (pre.length + (pre.length + A.length + B.length)) / 2 := ⟨_, rfl⟩
    obtain ⟨g, r⟩ : ∃ g : Nat, g = pre.length + A.length := ⟨_, rfl⟩
    obtain ⟨p, hp⟩ : ∃ p : Nat, p + 1 = d + g := ⟨d + g - 1, by omega⟩
    have D : a + b = ((2 * d : Nat) : Int) ∨ a + b = ((2 * d + 1 : Nat) : Int) := by omega
    have J : IntKind.i64.wrap (Int.fdiv (IntKind.u64.wrap (IntKind.i64.wrap (a + b))) (2 ^ min (Int.toNat 1) (IntKind.bits .u64))) = (d : Int) := by
      rcases D with h | h
      · rw [wP _ h (by omega), show 2 * d / 2 = d by omega]
      · rw [wP _ h (by omega), show (2 * d + 1) / 2 = d by omega]
    have E : m = (g : Int) := by omega
    have w1 : IntKind.i64.wrap ((d : Int) + m) = ((d + g : Nat) : Int) := fU _ (by omega) (by omega)
    obtain ⟨L, s⟩ : ∃ L : Nat → Bool, L = Jn c (A.map (·.1)) (B.map (·.1)) pre.length g p := ⟨_, rfl⟩
    have O : ∀ q, pre.length ≤ q → q < g → g ≤ p - q → p - q < g + B.length → Ask (pre ++ (A.map (·.1) ++ (B.map (·.1) ++ post))) f ((p - q : Nat) : Int) (q : Int) (!L q) := fun q i j q3 q4 => by rw [s]; exact MW hf A B pre post g p r Y q i j q3 q4
    obtain ⟨t, n', lo, hi, a2, t1, t2, U, W, e⟩ := IX (f := f) F a1 (pre ++ (A.map (·.1) ++ (B.map (·.1) ++ post))) (dQ n) pre.length A.length B.length d g p a b m L (by omega) (by omega) (by omega) I r hp D ha E P O
    simp only [J, w1]
    rw [e, KK (f := f) _ a b m _ d g t n' D E (by omega) (by omega) (by omega)]
    obtain ⟨A1, A2, rfl, M⟩ := pY (l := A) (n := t - pre.length) (by omega)
    obtain ⟨B1, B2, rfl, a0⟩ := pY (l := B) (n := d - t) (by omega)
    simp only [List.length_append] at h0 h1 h2 Q t1 t2 U W a2 hm P r I
    have R : ∀ q x y, ((A1 ++ A2).map (·.1))[q - pre.length]? = some x → ((B1 ++ B2).map (·.1))[p - q - g]? = some y → L q = !fT c y x := fun q x y v w => by rw [s]; exact Ei v w
    have l1 : Lk (fT c) A1 B2 := by
      intro A' z b' B' i j
      have g1 : 0 < A1.length := by rw [i]; simp
      have g2 : 0 < B2.length := by rw [j]; simp
      have T : L (t - 1) = true := by
        rcases U with U | U
        · omega
        · exact U
      have v := rK (xC A2 i)
      have w := rK (wV B1 j)
      rw [show A1.length - 1 = t - 1 - pre.length by omega] at v
      rw [show B1.length = p - (t - 1) - g by omega] at w
      rw [R _ _ _ v w, Bool.not_eq_true'] at T
      exact .inr ⟨T, Z z (by rw [i]; simp) b' (by rw [j]; simp)⟩
    have l2 : Lk (fT c) B1 A2 := by
      intro A' z b' B' i j
      have g1 : 0 < B1.length := by rw [i]; simp
      have g2 : 0 < A2.length := by rw [j]; simp
      have T : L t = false := by
        rcases W with W | W
        · omega
        · exact W
      have v := rK (xC B2 i)
      have w := rK (wV A1 j)
      rw [show B1.length - 1 = p - t - g by omega] at v
      rw [M] at w
      rw [R _ _ _ w v, Bool.not_eq_false'] at T
      exact .inl T
    exact Lu h (fun A B pre post a m b i j q3 => ih A B pre post n a m b i j q3 (by omega)) A1 A2 B1 B2 pre post a m b d g t r (by rw [I]; congr 1; omega) M a0 (by omega) (by omega) (by omega) (by omega) (by omega) hA hB Z Y (by omega) ha E (by rw [P]; congr 1; omega) l1 l2
end
end Go.Proofs.YtmlncblocfcmiaaGreat
namespace Go.Proofs.YtmlncblocfcmiaaGreat
open Go.RowKit
section
variable {c : Formula → Formula → Int} {G : Formula → Prop} {f : Formula × Formula → Option Int}
def qC (c : Formula → Formula → Int) : Nat → List (List (Formula × Nat)) → Prop
  | _, [] => True
  | o, A :: bs => gN (fT c) A ∧ (∀ x ∈ A, o ≤ x.2 ∧ x.2 < o + A.length) ∧ qC c (o + A.length) bs
def WB (s : Nat) : List (List (Formula × Nat)) → Prop
  | [] => True
  | A :: bs => A.length ≤ s ∧ (bs ≠ [] → A.length = s) ∧ WB s bs
theorem qC.append : ∀ {ds bs : List (List (Formula × Nat))} {o : Nat}, qC c o (ds ++ bs) ↔ qC c o ds ∧ qC c (o + ds.flatten.length) bs
  | [], bs, o => by simp [qC]
  | A :: ds, bs, o => by
    simp only [List.cons_append, qC, qC.append (ds := ds), List.flatten_cons, List.length_append, and_assoc, Nat.add_assoc]
def fm (bs : List (List (Formula × Nat))) : List Formula := bs.flatten.map (·.1)
theorem Dc (a b : List (List (Formula × Nat))) : fm (a ++ b) = fm a ++ fm b := by simp [fm]
theorem F4 (A : List (Formula × Nat)) (b : List (List (Formula × Nat))) : fm (A :: b) = A.map (·.1) ++ fm b := by simp [fm]
theorem kE (a : List (List (Formula × Nat))) : (fm a).length = a.flatten.length := by unfold fm; rw [List.length_map]
theorem Hm (ds : List (List (Formula × Nat))) (C : List (Formula × Nat)) : (ds ++ [C]).flatten.length = ds.flatten.length + C.length := by rw [List.flatten_append, List.length_append]; simp only [List.flatten_cons, List.flatten_nil, List.append_nil]
theorem Lb (C : List (Formula × Nat)) (bs : List (List (Formula × Nat))) : fm ([C] ++ bs) = C.map (·.1) ++ fm bs := by simp [fm]
theorem zl {R : List Formula} {o : Nat} {x : Formula × Nat} (h : x ∈ R.zipIdx o) : x.1 ∈ R := List.fst_mem_of_mem_zipIdx h
theorem WB.two {s : Nat} {A : List (Formula × Nat)} {bs : List (List (Formula × Nat))} (g : 0 < s) (h : WB s (A :: bs)) (d : s < (A :: bs).flatten.length) : A.length = s ∧ ∃ B a, bs = B :: a ∧ (B.length = s ∨ a = []) ∧ B.length ≤ s ∧ WB s a := by
  cases bs with
  | nil => simp at d; have := h.1; omega
  | cons B a =>
    refine ⟨h.2.1 (by simp), B, a, rfl, ?_, h.2.2.1, h.2.2.2.2⟩
    by_cases b : a = []
    · exact .inr b
    · exact .inl (h.2.2.2.1 b)
theorem EP (h : SWO (fT c)) (w : wv f c G) {ds bs : List (List (Formula × Nat))} {A B : List (Formula × Nat)} (u : qC c 0 (ds ++ A :: B :: bs)) (t : ∀ x ∈ (ds ++ A :: B :: bs).flatten, G x.1) (i : (fm (ds ++ A :: B :: bs)).length ≤ 400000) (r : 0 < A.length) (s : 0 < B.length) (a m b : Int) (ha : a = (ds.flatten.length : Int)) (hm : m = ((ds.flatten.length + A.length : Nat) : Int)) (v : b = ((ds.flatten.length + A.length + B.length : Nat) : Int)) :
    ∃ C, dQ bL (fm (ds ++ A :: B :: bs)) a m b f = some (fm ((ds ++ [C]) ++ bs)) ∧ qC c 0 ((ds ++ [C]) ++ bs) ∧ C.Perm (A ++ B) := by
  obtain ⟨p, q⟩ := qC.append.1 u
  obtain ⟨I, l, J, n, z⟩ := q
  have e : fm (ds ++ A :: B :: bs) = fm ds ++ (A.map (·.1) ++ (B.map (·.1) ++ fm bs)) := by rw [Dc, F4, F4]
  rw [e] at i ⊢
  have j := i
  simp only [List.length_append, List.length_map, kE] at j
  obtain ⟨C, E, F, k⟩ := MX h w (A.length + B.length) A B (fm ds) (fm bs) bL a m b (Nat.le_refl _) r s (by rw [eE]; omega) I J (fun x d y D => by have := (l x d).2; have := (n y D).1; omega)
    (fun x d => t x (by
      rw [List.flatten_append, List.flatten_cons, List.flatten_cons, List.mem_append, List.mem_append, List.mem_append]
      rcases List.mem_append.1 d with d | d
      · exact .inr (.inl d)
      · exact .inr (.inr (.inl d)))) i (by rw [ha, kE]) (by rw [hm, kE]) (by rw [v, kE])
  have g := k.length_eq
  simp only [List.length_append] at g
  refine ⟨C, by rw [E, List.append_assoc, Dc, Lb], ?_, k⟩
  · rw [List.append_assoc, qC.append]
    refine ⟨p, F, fun x d => ?_, ?_⟩
    · rcases List.mem_append.1 (k.mem_iff.1 d) with d | d
      · have := l x d; omega
      · have := n x d; omega
    · rw [g, ← Nat.add_assoc]; exact z
theorem DU {ds bs : List (List (Formula × Nat))} {A B C : List (Formula × Nat)} (h : C.Perm (A ++ B)) : ((ds ++ [C]) ++ bs).flatten.Perm (ds ++ A :: B :: bs).flatten := by
  simp only [List.flatten_append, List.flatten_cons, List.flatten_nil, List.append_nil, List.append_assoc]
  refine List.Perm.append_left _ ?_
  rw [← List.append_assoc]
  exact h.append_right _
theorem Kn (h : SWO (fT c)) (Q : wv f c G) (s : Nat) (T : 0 < s) (U : s ≤ 1000000) (N : Nat) (hN : N ≤ 400000) : ∀ (k : Nat) (bs ds : List (List (Formula × Nat))) (n : Nat) (a b : Int), bs.length ≤ k → k < n → qC c 0 (ds ++ bs) → (∀ x ∈ (ds ++ bs).flatten, G x.1) → (ds ++ bs).flatten.length = N → WB s bs → (∀ A ∈ ds, A.length = 2 * s) →
    a = (ds.flatten.length : Int) → b = ((ds.flatten.length + 2 * s : Nat) : Int) →
    ∃ es r, eL (N : Int) (s : Int) f n (fm (ds ++ bs)) a b = some (fm (es ++ r), (es.flatten.length : Int)) ∧ qC c 0 (es ++ r) ∧ (es ++ r).flatten.Perm (ds ++ bs).flatten ∧ WB s r ∧ r.flatten.length < 2 * s ∧ (∀ A ∈ es, A.length = 2 * s) := by
  intro k
  induction k with
  | zero =>
    intro bs ds n a b w R m t j u l ha O
    obtain ⟨n, rfl⟩ := Nat.exists_eq_succ_of_ne_zero (by omega : n ≠ 0)
    obtain rfl := List.eq_nil_of_length_eq_zero (Nat.le_zero.1 w)
    simp only [List.append_nil] at j
    rw [eL]
    have : ¬ (b ≤ (N : Int)) := by omega
    simp only [this, decide_false, Bool.false_eq_true, if_false]
    exact ⟨ds, [], by rw [ha], m, .refl _, trivial, by simp only [List.flatten_nil, List.length_nil]; omega, l⟩
  | succ k ih =>
    intro bs ds n a b w R m t j u l ha O
    obtain ⟨n, rfl⟩ := Nat.exists_eq_succ_of_ne_zero (by omega : n ≠ 0)
    rw [eL]
    by_cases hle : b ≤ (N : Int)
    · simp only [hle, decide_true, if_true]
      have d := j
      rw [List.flatten_append, List.length_append] at d
      cases bs with
      | nil => simp only [List.flatten_nil, List.length_nil] at d; omega
      | cons A bs =>
        obtain ⟨hA, B, i, rfl, p, L, v⟩ := WB.two T u (by omega)
        have M : B.length = s := by
          rcases p with p | rfl
          · exact p
          · simp only [List.flatten_cons, List.flatten_nil, List.append_nil, List.length_append] at d; omega
        have w1 : IntKind.i64.wrap (a + (s : Int)) = ((ds.flatten.length + A.length : Nat) : Int) := fU _ (by omega) (by omega)
        obtain ⟨C, Y, Z, y⟩ := EP h Q m t (by rw [kE]; omega) (by omega) (by omega) a _ b ha w1 (by omega)
        rw [Y, Option.bind_some]
        have q := y.length_eq
        simp only [List.length_append] at q
        have w2 : IntKind.i64.wrap (2 * (s : Int)) = ((2 * s : Nat) : Int) := fU _ (by omega) (by omega)
        have P : (ds ++ [C]).flatten.length = ds.flatten.length + 2 * s := by rw [Hm]; omega
        have w3 : IntKind.i64.wrap (b + ((2 * s : Nat) : Int)) = (((ds ++ [C]).flatten.length + 2 * s : Nat) : Int) := fU _ (by omega) (by omega)
        have hp := DU (ds := ds) (bs := i) y
        rw [w2, w3]
        obtain ⟨es, r, z, D, E, F, I, J⟩ := ih i (ds ++ [C]) n b _ (by simp at w; omega) (by omega) Z (fun x W => t x (hp.mem_iff.1 W)) (by rw [hp.length_eq, j]) v (fun X g => by
          rcases List.mem_append.1 g with g | g
          · exact l X g
          · simp at g; rw [g]; omega) (by rw [P]; omega) rfl
        exact ⟨es, r, z, D, E.trans hp, F, I, J⟩
    · simp only [hle, decide_false, Bool.false_eq_true, if_false]
      refine ⟨ds, bs, by rw [ha], m, .refl _, u, ?_, l⟩
      rw [List.flatten_append, List.length_append] at j
      omega
theorem WB.A6 {t : Nat} : ∀ {es : List (List (Formula × Nat))} {C : List (Formula × Nat)}, (∀ A ∈ es, A.length = t) → C.length ≤ t → WB t (es ++ [C])
  | [], C, _, a => ⟨a, fun h => absurd rfl h, trivial⟩
  | E :: es, C, h, a => ⟨by rw [h E (by simp)]; omega, fun _ => h E (by simp), WB.A6 (fun A b => h A (by simp [b])) a⟩
theorem HE {s : Nat} {r : List (List (Formula × Nat))} {o : Nat} (d : WB s r) (g : r.flatten.length ≤ s) (a : qC c o r) : gN (fT c) r.flatten ∧ ∀ x ∈ r.flatten, o ≤ x.2 ∧ x.2 < o + r.flatten.length := by
  cases r with
  | nil => exact ⟨.nil, fun x h => by cases h⟩
  | cons A r =>
    have : r.flatten = [] := by
      by_cases b : r = []
      · rw [b]; rfl
      · have := d.2.1 b
        rw [List.flatten_cons, List.length_append] at g
        exact List.eq_nil_of_length_eq_zero (by omega)
    rw [List.flatten_cons, this, List.append_nil]
    exact ⟨a.1, a.2.1⟩
theorem Il (h : SWO (fT c)) (T : wv f c G) (N : Nat) (hN : N ≤ 400000) : ∀ (k s : Nat) (bs : List (List (Formula × Nat))) (n : Nat), N - s ≤ k → k < n → 0 < s → s ≤ 1000000 → qC c 0 bs → (∀ x ∈ bs.flatten, G x.1) → bs.flatten.length = N → WB s bs →
    ∃ u, ep (N : Int) f n (fm bs) (s : Int) = some (u.map (·.1)) ∧ gN (fT c) u ∧ u.Perm bs.flatten := by
  intro k
  induction k with
  | zero =>
    intro s bs n hk hn F m t l i b
    obtain ⟨n, rfl⟩ := Nat.exists_eq_succ_of_ne_zero (by omega : n ≠ 0)
    rw [ep]
    have : ¬ ((s : Int) < (N : Int)) := by omega
    simp only [this, decide_false, Bool.false_eq_true, if_false]
    refine ⟨bs.flatten, rfl, ?_, .refl _⟩
    cases bs with
    | nil => exact .nil
    | cons A bs =>
      have : bs.flatten = [] := by
        by_cases d : bs = []
        · rw [d]; rfl
        · have := b.2.1 d
          rw [List.flatten_cons, List.length_append] at i
          exact List.eq_nil_of_length_eq_zero (by omega)
      rw [List.flatten_cons, this, List.append_nil]
      exact t.1
  | succ k ih =>
    intro s bs n hk hn F m t l i b
    by_cases a3 : s < N
    · obtain ⟨n, rfl⟩ := Nat.exists_eq_succ_of_ne_zero (by omega : n ≠ 0)
      rw [ep]
      have : ((s : Int) < (N : Int)) := by omega
      simp only [this, decide_true, if_true]
      have w1 : IntKind.i64.wrap (2 * (s : Int)) = ((2 * s : Nat) : Int) := fU _ (by omega) (by omega)
      have w0 : IntKind.i64.wrap ((s : Int) * 2) = ((2 * s : Nat) : Int) := fU _ (by omega) (by omega)
      have a2 : bs.length ≤ 2000000 := by
        have : ∀ {bs : List (List (Formula × Nat))}, WB s bs → bs.length ≤ bs.flatten.length + 1 := by
          intro bs
          induction bs with
          | nil => intro _; simp
          | cons A bs I =>
            intro b
            by_cases d : bs = []
            · subst d; simp
            · have := b.2.1 d
              have := I b.2.2
              simp only [List.length_cons, List.flatten_cons, List.length_append]
              omega
        have := this b
        omega
      obtain ⟨es, r, M, O, a, P, Q, R⟩ := Kn h T s F m N hN bs.length bs [] bL 0 ((2 * s : Nat) : Int) (Nat.le_refl _) (by rw [eE]; omega) (by simpa using t) (by simpa using l) (by simpa using i) b (by simp) rfl (by simp)
      simp only [List.nil_append] at M a
      rw [w1, M, Option.bind_some, w0]
      have j := a.length_eq
      rw [i, List.flatten_append, List.length_append] at j
      have w2 : IntKind.i64.wrap ((es.flatten.length : Int) + (s : Int)) = ((es.flatten.length + s : Nat) : Int) := fU _ (by omega) (by omega)
      simp only [w2]
      by_cases hm : es.flatten.length + s < N
      · have : (((es.flatten.length + s : Nat) : Int) < (N : Int)) := by omega
        simp only [this, decide_true, if_true, gh]
        cases r with
        | nil => simp only [List.flatten_nil, List.length_nil] at j; omega
        | cons A r =>
          obtain ⟨hA, B, Y, rfl, q, a0, a1⟩ := WB.two F P (by omega)
          have E : Y = [] := by
            rcases q with q | q
            · by_cases hr : Y = []
              · exact hr
              · simp only [List.flatten_cons, List.length_append] at Q; omega
            · exact q
          subst E
          simp only [List.flatten_cons, List.flatten_nil, List.append_nil, List.length_append] at j Q
          obtain ⟨C, q1, U, W⟩ := EP h T O (fun x p => l x (a.mem_iff.1 p)) (by rw [kE, a.length_eq]; omega) (by omega) (by omega) (es.flatten.length : Int) ((es.flatten.length + s : Nat) : Int) (N : Int) rfl (by omega) (by omega)
          rw [q1, Option.bind_some]
          have w := W.length_eq
          simp only [List.length_append] at w
          have hp := (DU (ds := es) (bs := []) W).trans a
          simp only [List.append_nil] at U hp ⊢
          obtain ⟨u, J, L, v⟩ := ih (2 * s) (es ++ [C]) n (by omega) (by omega) (by omega) (by omega) U (fun x p => l x (hp.mem_iff.1 p)) (by rw [hp.length_eq, i]) (WB.A6 R (by omega))
          exact ⟨u, J, L, v.trans hp⟩
      · have : ¬ (((es.flatten.length + s : Nat) : Int) < (N : Int)) := by omega
        simp only [this, decide_false, Bool.false_eq_true, if_false, Option.bind_some]
        obtain ⟨y, z⟩ := qC.append.1 O
        obtain ⟨Z, b2⟩ := HE P (by omega) z
        have D : fm (es ++ r) = fm (es ++ [r.flatten]) := by simp [fm]
        have g : (es ++ [r.flatten]).flatten = (es ++ r).flatten := by simp
        rw [D]
        obtain ⟨u, J, L, v⟩ := ih (2 * s) (es ++ [r.flatten]) n (by omega) (by omega) (by omega) (by omega) (qC.append.2 ⟨y, Z, b2, trivial⟩) (fun x p => l x (a.mem_iff.1 (by rw [← g]; exact p))) (by rw [g, a.length_eq, i]) (WB.A6 R (by omega))
        exact ⟨u, J, L, by rw [g] at v; exact v.trans a⟩
    · obtain ⟨n, rfl⟩ := Nat.exists_eq_succ_of_ne_zero (by omega : n ≠ 0)
      rw [ep]
      have : ¬ ((s : Int) < (N : Int)) := by omega
      simp only [this, decide_false, Bool.false_eq_true, if_false]
      refine ⟨bs.flatten, rfl, ?_, .refl _⟩
      cases bs with
      | nil => exact .nil
      | cons A bs =>
        have : bs.flatten = [] := by
          by_cases d : bs = []
          · rw [d]; rfl
          · have := b.2.1 d
            rw [List.flatten_cons, List.length_append] at i
            exact List.eq_nil_of_length_eq_zero (by omega)
        rw [List.flatten_cons, this, List.append_nil]
        exact t.1
theorem B4 : ∀ (l : List Formula) (o : Nat), (l.zipIdx o).Pairwise (fun x y => x.2 < y.2)
  | [], o => by simp
  | x :: l, o => by
    rw [List.zipIdx_cons, List.pairwise_cons]
    refine ⟨fun y d => ?_, B4 l (o + 1)⟩
    obtain ⟨a, b⟩ := y
    have := List.le_snd_of_mem_zipIdx d
    simp only at this ⊢; omega
theorem FW (l : List Formula) (o : Nat) : ∀ x ∈ l.zipIdx o, o ≤ x.2 ∧ x.2 < o + l.length := by
  rintro ⟨a, b⟩ d
  have g := List.le_snd_of_mem_zipIdx d
  have h := List.snd_lt_add_of_mem_zipIdx d
  simp only at g h ⊢; omega
theorem HY (h : SWO (fT c)) (k : wv f c G) (N : Nat) (t : N ≤ 300000) (R : List Formula) (ds : List (List (Formula × Nat))) (n : Nat) (a b : Int) (z : 0 < n) (q : qC c 0 ds) (m : ∀ A ∈ ds, A.length = 20) (p : ∀ x ∈ ds.flatten, G x.1) (j : ∀ x ∈ R, G x) (y : ds.flatten.length + R.length = N) (r : R.length < 20) (ha : a = (ds.flatten.length : Int)) (w : b = ((ds.flatten.length + 20 : Nat) : Int)) :
    ∃ u, eo (N : Int) f n (fm ds ++ R) a b = some (u.map (·.1)) ∧ gN (fT c) u ∧ u.Perm (ds.flatten ++ R.zipIdx ds.flatten.length) := by
  obtain ⟨n, rfl⟩ := Nat.exists_eq_succ_of_ne_zero (by omega : n ≠ 0)
  rw [eo]
  have hle : ¬ (b ≤ (N : Int)) := by omega
  simp only [hle, decide_false, Bool.false_eq_true, if_false, gh]
  obtain ⟨u, l, s, g⟩ := FP h k (fm ds) [] (R.zipIdx ds.flatten.length) a (N : Int) (B4 _ _) (fun x d => j x.1 (zl d)) (by simp only [List.length_append, kE, List.length_map, List.length_zipIdx, List.length_nil]; omega) (by rw [kE]; exact ha) (by rw [kE, List.length_zipIdx]; omega)
  rw [List.zipIdx_map_fst, List.append_nil, List.append_nil] at l
  have i := g.length_eq
  rw [List.length_zipIdx] at i
  have e : fm ds ++ u.map (·.1) = fm (ds ++ [u]) := by simp [fm]
  have hp : (ds ++ [u]).flatten.Perm (ds.flatten ++ R.zipIdx ds.flatten.length) := by
    rw [List.flatten_append]
    refine List.Perm.append_left _ ?_
    simpa using g
  rw [l, Option.bind_some, e]
  obtain ⟨v, v1, v2, v3⟩ := Il h k N (by omega) N 20 (ds ++ [u]) bL (by omega) (by rw [eE]; omega) (by omega) (by omega) (qC.append.2 ⟨q, s, fun x d => by have := FW R ds.flatten.length x (g.mem_iff.1 d); omega, trivial⟩) (fun x d => by
    rw [List.flatten_append, List.mem_append] at d
    rcases d with d | d
    · exact p x d
    · simp only [List.flatten_cons, List.flatten_nil, List.append_nil] at d
      exact j x.1 (zl (g.mem_iff.1 d))) (by rw [hp.length_eq, List.length_append, List.length_zipIdx]; omega) (WB.A6 m (by omega))
  exact ⟨v, v1, v2, v3.trans hp⟩
theorem H9 (h : SWO (fT c)) (y : wv f c G) (N : Nat) (F : N ≤ 300000) : ∀ (k : Nat) (R : List Formula) (ds : List (List (Formula × Nat))) (n : Nat) (a b : Int), R.length ≤ k → k < n → qC c 0 ds → (∀ A ∈ ds, A.length = 20) → (∀ x ∈ ds.flatten, G x.1) → (∀ x ∈ R, G x) → ds.flatten.length + R.length = N →
    a = (ds.flatten.length : Int) → b = ((ds.flatten.length + 20 : Nat) : Int) →
    ∃ u, eo (N : Int) f n (fm ds ++ R) a b = some (u.map (·.1)) ∧ gN (fT c) u ∧ u.Perm (ds.flatten ++ R.zipIdx ds.flatten.length) := by
  intro k
  induction k with
  | zero =>
    intro R ds n a b D I r p q j s ha w
    obtain rfl := List.eq_nil_of_length_eq_zero (Nat.le_zero.1 D)
    exact HY h y N F [] ds n a b I r p q j s (by simp) ha w
  | succ k ih =>
    intro R ds n a b D I r p q j s ha w
    by_cases E : R.length < 20
    · exact HY h y N F R ds n a b (by omega) r p q j s E ha w
    obtain ⟨n, rfl⟩ := Nat.exists_eq_succ_of_ne_zero (by omega : n ≠ 0)
    obtain ⟨R1, R2, rfl, m⟩ := pY (l := R) (n := 20) (by omega)
    rw [List.length_append] at s D
    rw [eo]
    have hle : b ≤ (N : Int) := by omega
    simp only [hle, decide_true, if_true]
    obtain ⟨u, J, L, t⟩ := FP h y (fm ds) R2 (R1.zipIdx ds.flatten.length) a b (B4 _ _) (fun x d => j x.1 (by simp [zl d])) (by simp only [List.length_append, kE, List.length_map, List.length_zipIdx, List.length_nil]; omega) (by rw [kE]; exact ha) (by rw [kE, List.length_zipIdx]; omega)
    rw [List.zipIdx_map_fst] at J
    rw [J, Option.bind_some]
    have g := t.length_eq
    rw [List.length_zipIdx, m] at g
    have z : (ds ++ [u]).flatten.length = ds.flatten.length + 20 := by rw [Hm, g]
    have M : IntKind.i64.wrap (b + 20) = (((ds ++ [u]).flatten.length + 20 : Nat) : Int) := fU _ (by omega) (by omega)
    have e : fm ds ++ (u.map (·.1) ++ R2) = fm (ds ++ [u]) ++ R2 := by simp [fm]
    rw [e, M]
    obtain ⟨v, v1, v2, v3⟩ := ih R2 (ds ++ [u]) n b _ (by omega) (by omega) (qC.append.2 ⟨r, L, fun x d => by have := FW R1 ds.flatten.length x (t.mem_iff.1 d); omega, trivial⟩) (fun A i => by
      rcases List.mem_append.1 i with i | i
      · exact p A i
      · simp at i; rw [i]; exact g) (fun x d => by
      rw [List.flatten_append, List.mem_append] at d
      rcases d with d | d
      · exact q x d
      · simp only [List.flatten_cons, List.flatten_nil, List.append_nil] at d
        exact j x.1 (by simp [zl (t.mem_iff.1 d)])) (fun x d => j x (by simp [d])) (by omega) (by omega) rfl
    refine ⟨v, v1, v2, v3.trans ?_⟩
    rw [z, List.flatten_append, List.zipIdx_append, m, List.append_assoc]
    refine List.Perm.append_left _ ?_
    simp only [List.flatten_cons, List.flatten_nil, List.append_nil]
    exact t.append_right _
theorem Gg (h : SWO (fT c)) (g : wv f c G) (l : List Formula) (d : ∀ x ∈ l, G x) (i : l.length ≤ 300000) : ij l f = some (Ed (fT c) l) := by
  unfold ij kq
  obtain ⟨u, a, j, b⟩ := H9 h g l.length i l.length l [] bL 0 20 (Nat.le_refl _) (by rw [eE]; omega) trivial (by simp) (by simp) d (by simp) rfl rfl
  simp only [fm, List.flatten_nil, List.map_nil, List.nil_append, List.length_nil] at a b
  rw [a, Option.bind_some, J0 h j b]
end
end Go.Proofs.YtmlncblocfcmiaaGreat
namespace Go.Proofs.YtmlncblocfcmiaaGreat
open Go.RowKit
theorem D6 {P : Formula → Prop} (h : ∀ f, (∀ k ∈ f.Kids, P k) → P f) : ∀ f, P f := by
  intro f
  refine Formula.rec (motive_1 := P) (motive_2 := fun ks => ∀ k ∈ ks, P k) ?_ ?_ ?_ f
  · intro o k r ks ih; exact h _ ih
  · intro k g; cases g
  · intro k ks b d x a
    rcases List.mem_cons.1 a with rfl | a
    · exact b
    · exact d x a
mutual
def cE : Formula → Nat
  | ⟨_, _, _, ks⟩ => 1 + nodesL ks
def nodesL : List Formula → Nat
  | [] => 0
  | k :: ks => cE k + nodesL ks
end
mutual
def gm : Formula → Nat
  | ⟨_, _, _, ks⟩ => deepL ks + 1
def deepL : List Formula → Nat
  | [] => 0
  | k :: ks => max (gm k) (deepL ks)
end
theorem gA (f : Formula) : cE f = 1 + nodesL f.Kids := by cases f; rw [cE]
theorem eZ (f : Formula) : gm f = deepL f.Kids + 1 := by cases f; rw [gm]
theorem mN : ∀ {ks : List Formula} {k : Formula}, k ∈ ks → cE k ≤ nodesL ks
  | x :: ks, k, h => by
    rw [nodesL]
    rcases List.mem_cons.1 h with rfl | h
    · omega
    · have := mN h; omega
theorem kz : ∀ {ks : List Formula} {k : Formula}, k ∈ ks → gm k ≤ deepL ks
  | x :: ks, k, h => by
    rw [deepL]
    rcases List.mem_cons.1 h with rfl | h
    · omega
    · have := kz h; omega
theorem qx : ∀ f : Formula, gm f ≤ cE f := by
  refine D6 fun f ih => ?_
  rw [eZ, gA]
  have : ∀ ks : List Formula, (∀ k ∈ ks, gm k ≤ cE k) → deepL ks ≤ nodesL ks := by
    intro ks
    induction ks with
    | nil => intro _; rw [deepL]; omega
    | cons k ks a =>
      intro h
      have := a (fun x b => h x (by simp [b]))
      have := h k (by simp)
      rw [deepL, nodesL]; omega
  have := this f.Kids ih
  omega
theorem je : ∀ ks : List Formula, ks.length ≤ nodesL ks
  | [] => by rw [nodesL]; simp
  | k :: ks => by have := je ks; have := gA k; rw [nodesL, List.length_cons]; omega
theorem Ht (sL : Nat) (hm : sL ≤ 4096) (rec : Formula → Int → Option (Int × Int)) : ∀ (ks : List Formula), (∀ k ∈ ks, ∀ q : Nat, q ≤ 4096 → ∃ n d : Nat, rec k (q : Int) = some ((n : Int), (d : Int)) ∧ 1 ≤ n ∧ n ≤ cE k ∧ d ≤ cE k ∧ (cE k ≤ q → n = cE k ∧ d = gm k) ∧ (q < cE k → q < n)) → ∀ x y : Nat, x + nodesL ks ≤ 100000000 →
    ∃ n d : Nat, iG (sL : Int) rec ks (x : Int) (y : Int) = some ((n : Int), (d : Int)) ∧ x ≤ n ∧ n ≤ x + nodesL ks ∧ d ≤ max y (nodesL ks) ∧ (x + nodesL ks ≤ sL → n = x + nodesL ks ∧ d = max y (deepL ks)) ∧ (sL < x + nodesL ks → sL < n)
  | [], _, x, y, _ => by
    rw [iG, nodesL, deepL]
    exact ⟨x, y, rfl, by omega, by omega, by omega, fun _ => ⟨by omega, by omega⟩, fun h => by omega⟩
  | k :: ks, b, x, y, p => by
    rw [nodesL] at p ⊢
    rw [iG, deepL]
    by_cases g : (x : Int) > (sL : Int)
    · simp only [g, decide_true, if_true]
      exact ⟨x, y, rfl, by omega, by omega, by omega, fun _ => by omega, fun h => by omega⟩
    · simp only [g, decide_false, Bool.false_eq_true, if_false]
      have t : IntKind.i64.wrap ((sL : Int) - (x : Int)) = ((sL - x : Nat) : Int) := by rw [cP (by omega) (by omega)]; omega
      obtain ⟨m, d, e, E, F, G, a, l⟩ := b k (by simp) (sL - x) (by omega)
      rw [t, e, Option.bind_some]
      have u : IntKind.i64.wrap ((x : Int) + (m : Int)) = ((x + m : Nat) : Int) := by rw [cP (by omega) (by omega)]; omega
      have v : (if (d : Int) > (y : Int) then (d : Int) else (y : Int)) = ((max y d : Nat) : Int) := by split <;> omega
      simp only [u, v]
      obtain ⟨n, i, e', w, A, D, j, g5⟩ := Ht sL hm rec ks (fun z s => b z (by simp [s])) (x + m) (max y d) (by omega)
      refine ⟨n, i, e', by omega, by omega, by omega, fun h => ?_, fun h => ?_⟩
      · obtain ⟨rfl, rfl⟩ := a (by omega)
        obtain ⟨rfl, rfl⟩ := j (by omega)
        exact ⟨by omega, by omega⟩
      · by_cases r : sL - x < cE k
        · have := l r; omega
        · obtain ⟨rfl, _⟩ := a (by omega)
          exact g5 (by omega)
theorem H8 : ∀ (n : Nat) (f : Formula), gm f ≤ n → cE f ≤ 50000000 → ∀ q : Nat, q ≤ 4096 → ∃ m d : Nat, gK n f (q : Int) = some ((m : Int), (d : Int)) ∧ 1 ≤ m ∧ m ≤ cE f ∧ d ≤ cE f ∧ (cE f ≤ q → m = cE f ∧ d = gm f) ∧ (q < cE f → q < m) := by
  intro n
  induction n with
  | zero => intro f h; rw [eZ] at h; omega
  | succ n ih =>
    intro f l u q a
    rw [eZ] at l
    have p := gA f
    rw [gK]
    unfold oP
    obtain ⟨m, d, e, g, s, t, i, j⟩ := Ht q a (gK n) f.Kids (fun k b q a => ih k (by have := kz b; omega) (by have := mN b; omega) q a) 1 0 (by omega)
    have e' : iG (q : Int) (gK n) f.Kids 1 0 = some ((m : Int), (d : Int)) := e
    rw [e', Option.bind_some]
    have r : IntKind.i64.wrap ((d : Int) + 1) = ((d + 1 : Nat) : Int) := by rw [cP (by omega) (by omega)]; omega
    simp only [r]
    refine ⟨m, d + 1, rfl, g, by omega, by omega, fun h => ?_, fun h => j (by omega)⟩
    obtain ⟨rfl, rfl⟩ := i (by omega)
    rw [eZ]
    exact ⟨by omega, by omega⟩
theorem JC (f : Formula) (g : cE f ≤ 50000000) : qv f = some (if cE f ≤ 4096 then ((cE f : Int), (gm f : Int)) else (0, 0)) := by
  unfold qv
  have := qx f
  obtain ⟨m, d, e, i, j, k, a, b⟩ := H8 bL f (by rw [eE]; omega) g 4096 (Nat.le_refl _)
  have e' : gK bL f 4096 = some ((m : Int), (d : Int)) := e
  rw [e', Option.bind_some]
  by_cases h : cE f ≤ 4096
  · obtain ⟨rfl, rfl⟩ := a h
    have : ¬ ((cE f : Int) > 4096) := by omega
    simp [this, h]
  · have := b (by omega)
    have : ((m : Int) > 4096) := by omega
    simp [this, h]
def jf : aA := ⟨zS, zS⟩
def xk (f : Formula) : Bool := if f.Op = 1 then ey f.aA && decide (f.Kids.length = 0) && decide (f.K = 0) else if f.Op = 2 ∨ f.Op = 3 then bB f.aA jf && decide (f.K = 0) else decide (f.Op = 4) && bB f.aA jf && decide (0 ≤ f.K) && decide (f.K ≤ (f.Kids.length : Int)) && decide (1 ≤ f.Kids.length)
theorem JN (f : Formula) : qj f = some (xk f) := by
  unfold qj xk
  simp only [sw, Option.bind_some, gh]
  by_cases j : f.Op = 1
  · simp only [j, beq_self_eq_true, if_true]
    cases t : ey f.aA
    · simp
    · by_cases m : f.Kids.length = 0
      · have : f.Kids = [] := List.eq_nil_of_length_eq_zero m
        by_cases l : f.K = 0 <;> simp [this, l]
      · have : ((f.Kids.length : Int) == 0) = false := by simp; intro h; exact m (by simp [h])
        simp only [if_true, Option.bind_some, this, Bool.false_eq_true, if_false, m, decide_false, Bool.and_false, Bool.false_and]
  · have r : (f.Op == 1) = false := by simpa using j
    simp only [r, Bool.false_eq_true, if_false, j]
    by_cases d : f.Op = 2 ∨ f.Op = 3
    · have i : (if f.Op == 2 then some (f.Op == 2) else some (f.Op == 3)) = some true := by
        rcases d with h | h <;> simp [h]
      simp only [i, Option.bind_some, if_true, d]
      cases g : bB f.aA ⟨zS, zS⟩ <;> by_cases l : f.K = 0 <;> simp [jf, g, l]
    · have i : (if f.Op == 2 then some (f.Op == 2) else some (f.Op == 3)) = some false := by
        have a : f.Op ≠ 2 := fun h => d (.inl h)
        have b : f.Op ≠ 3 := fun h => d (.inr h)
        simp [a, b]
      simp only [i, Option.bind_some, Bool.false_eq_true, if_false, d]
      by_cases k : f.Op = 4
      · simp only [k, beq_self_eq_true, if_true, Option.bind_some, decide_true, Bool.true_and]
        cases g : bB f.aA ⟨zS, zS⟩
        · simp [jf, g]
        · by_cases n : 0 ≤ f.K <;> by_cases p : f.K ≤ (f.Kids.length : Int) <;> by_cases q : 1 ≤ f.Kids.length <;> simp [jf, g, n, p, q] <;> omega
      · have s : (f.Op == 4) = false := by simpa using k
        simp [s, k]
mutual
def mH : Formula → Bool
  | ⟨o, n, r, ks⟩ => xk ⟨o, n, r, ks⟩ && decide (ks.length ≤ 8) && wellL ks
def wellL : List Formula → Bool
  | [] => true
  | k :: ks => mH k && wellL ks
end
theorem Av (f : Formula) : mH f = (xk f && decide (f.Kids.length ≤ 8) && wellL f.Kids) := by cases f; rw [mH]
theorem yn : ∀ ks : List Formula, wellL ks = ks.all mH
  | [] => rfl
  | k :: ks => by rw [wellL, yn ks]; rfl
theorem D3 (f : Formula → Option Bool) : ∀ (l : List Formula) (i : Nat), fL f l i = sW f l i
  | [], i => by rw [fL]; rfl
  | x :: l, i => by
    rw [fL, sW]
    cases f x with
    | none => rfl
    | some b =>
      simp only [Option.bind_some]
      rw [D3 f l (i + 1)]
theorem Ad (f : Formula → Option Bool) (p : Formula → Bool) (l : List Formula) (h : ∀ x ∈ l, f x = some (p x)) : gy l f = some (l.any p) := by
  unfold gy mi
  rw [D3]
  rcases sQ f p l 0 h with ⟨e, a⟩ | ⟨A, x, B, rfl, a, b, e⟩
  · rw [e, Option.bind_some]
    have : l.any p = false := by rw [List.any_eq_false]; intro x d; rw [a x d]; simp
    rw [this]; rfl
  · rw [e, Option.bind_some]
    have : (A ++ x :: B).any p = true := by simp [b]
    rw [this]
    congr 1
theorem Io : ∀ (n : Nat) (f : Formula), gm f ≤ n → ku n f = some (mH f) := by
  intro n
  induction n with
  | zero => intro f h; rw [eZ] at h; omega
  | succ n ih =>
    intro f h
    rw [eZ] at h
    rw [ku]
    unfold oE
    rw [JN, Option.bind_some, Av, Ad _ (fun k => !mH k) f.Kids (fun k b => by unfold nG; rw [ih k (by have := kz b; omega)]; rfl)]
    rw [yn]
    have e : (!(f.Kids.any fun k => !mH k)) = f.Kids.all mH := by rw [List.all_eq_not_any_not]
    cases xk f
    · rfl
    · by_cases a : f.Kids.length ≤ 8
      · have : ((f.Kids.length : Int) ≤ 8) := by omega
        simp [a, this, e]
      · have : ¬ ((f.Kids.length : Int) ≤ 8) := by omega
        simp [a, this]
def fS (f : Formula) : Bool := decide (cE f ≤ 64) && decide (gm f ≤ 6) && mH f
theorem xc (f : Formula) (j : cE f ≤ 50000000) : ko f = some (fS f) := by
  unfold ko fS
  have l := qx f
  rw [JC f j, Option.bind_some, Io bL f (by rw [eE]; omega)]
  have k := gA f
  by_cases h : cE f ≤ 4096
  · simp only [h, if_true]
    have a : ((cE f : Int) ≥ 1) := by omega
    simp only [a, decide_true, if_true, Option.bind_some, gh]
    by_cases d : cE f ≤ 64 <;> by_cases i : gm f ≤ 6
    · have b : ((cE f : Int) ≤ 64) := by omega
      have g : ((gm f : Int) ≤ 6) := by omega
      simp [d, i, b, g]
    · have b : ((cE f : Int) ≤ 64) := by omega
      have g : ¬ ((gm f : Int) ≤ 6) := by omega
      simp [d, i, b, g]
    · have b : ¬ ((cE f : Int) ≤ 64) := by omega
      simp [d, b]
    · have b : ¬ ((cE f : Int) ≤ 64) := by omega
      simp [d, b]
  · simp only [h, if_false]
    have : ¬ cE f ≤ 64 := by omega
    simp [this]
theorem Formula.ext' {a b : Formula} (d : a.Op = b.Op) (g : a.K = b.K) (h : a.aA = b.aA) (i : a.Kids = b.Kids) : a = b := by
  cases a; cases b; simp only at d g h i; subst d g h i; rfl
theorem HK (g : Formula × Formula → Option Bool) : ∀ (l m : List Formula), l.length = m.length → (∀ x ∈ l, ∀ y, ∃ b, g (x, y) = some b ∧ (b = true ↔ x = y)) → ∀ (A : List Formula),
    ∃ b, dB (A ++ m) g l A.length = some b ∧ (b = true ↔ l = m)
  | [], m, d, _, A => by
    obtain rfl := List.eq_nil_of_length_eq_zero d.symm
    exact ⟨true, rfl, by simp⟩
  | x :: l, [], d, _, A => by simp at d
  | x :: l, y :: m, d, i, A => by
    rw [dB]
    obtain ⟨b, e, h⟩ := i x (by simp) y
    have r : dU (A ++ y :: m) (A.length : Int) = some y := fj _ _ _ _ rfl
    rw [r, Option.bind_some, e, Option.bind_some]
    cases b with
    | false =>
      refine ⟨false, rfl, ?_⟩
      have : x ≠ y := fun a => by have := h.2 a; simp at this
      simp [this]
    | true =>
      have a := h.1 rfl
      obtain ⟨b, j, p⟩ := HK g l m (by simpa using d) (fun z q => i z (by simp [q])) (A ++ [y])
      simp only [Bool.not_true, Bool.false_eq_true, if_false]
      have k : A ++ y :: m = (A ++ [y]) ++ m := by simp
      have n : A.length + 1 = (A ++ [y]).length := by simp
      rw [k, n, j]
      exact ⟨b, rfl, by rw [p]; simp [a]⟩
theorem Kj : ∀ (n : Nat) (f : Formula), gm f ≤ n → ∀ g, ∃ b, gD n f g = some b ∧ (b = true ↔ f = g) := by
  intro n
  induction n with
  | zero => intro f h; rw [eZ] at h; omega
  | succ n ih =>
    intro f h g
    rw [eZ] at h
    rw [gD]
    unfold pu
    by_cases d : f.Op = g.Op
    · by_cases i : f.K = g.K
      · by_cases j : f.aA = g.aA
        · have l : bB f.aA g.aA = true := bD.2 j
          simp only [d, i, l, beq_self_eq_true, if_true, Option.bind_some]
          unfold eX
          by_cases k : f.Kids.length = g.Kids.length
          · have : ((f.Kids.length : Int) != (g.Kids.length : Int)) = false := by simp [k]
            simp only [this, Bool.false_eq_true, if_false]
            obtain ⟨b, e, q⟩ := HK (fun x => gD n x.1 x.2) f.Kids g.Kids k (fun x r y => ih x (by have := kz r; omega) y) []
            simp only [List.nil_append, List.length_nil] at e
            rw [e]
            refine ⟨b, by simp, q.trans ⟨fun a => Formula.ext' d i j a, fun a => by rw [a]⟩⟩
          · have : ((f.Kids.length : Int) != (g.Kids.length : Int)) = true := by simp; omega
            simp only [this, if_true]
            exact ⟨false, rfl, by simp; intro a; rw [a] at k; exact k rfl⟩
        · have l : bB f.aA g.aA = false := by rw [← Bool.not_eq_true, bD]; exact j
          simp only [d, i, l, beq_self_eq_true, if_true, Option.bind_some, Bool.false_eq_true, if_false]
          exact ⟨false, rfl, by simp; intro a; rw [a] at j; exact j rfl⟩
      · have p : (f.K == g.K) = false := by simpa using i
        simp only [d, p, beq_self_eq_true, if_true, Option.bind_some, Bool.false_eq_true, if_false]
        exact ⟨false, rfl, by simp; intro a; rw [a] at i; exact i rfl⟩
    · have m : (f.Op == g.Op) = false := by simpa using d
      simp only [m, Option.bind_some, Bool.false_eq_true, if_false]
      exact ⟨false, rfl, by simp; intro a; rw [a] at d; exact d rfl⟩
end Go.Proofs.YtmlncblocfcmiaaGreat
namespace Go.Proofs.YtmlncblocfcmiaaGreat
open Go.RowKit
mutual
def sE : Formula → List Int
  | ⟨o, k, r, ks⟩ => o :: (if o = 1 then lH r else (if o = 4 then [k] else []) ++ ((ks.length : Int) :: bytesFL ks))
def bytesFL : List Formula → List Int
  | [] => []
  | k :: ks => sE k ++ bytesFL ks
end
theorem CX (f : Formula) : sE f = f.Op :: (if f.Op = 1 then lH f.aA else (if f.Op = 4 then [f.K] else []) ++ ((f.Kids.length : Int) :: bytesFL f.Kids)) := by cases f; rw [sE]
theorem qQ {f : Formula} (h : mH f = true) : f.Kids.length ≤ 8 ∧ wellL f.Kids = true ∧ ((f.Op = 1 ∧ ey f.aA = true ∧ f.Kids = [] ∧ f.K = 0) ∨ ((f.Op = 2 ∨ f.Op = 3) ∧ f.aA = jf ∧ f.K = 0) ∨ (f.Op = 4 ∧ f.aA = jf ∧ 0 ≤ f.K ∧ f.K ≤ (f.Kids.length : Int) ∧ 1 ≤ f.Kids.length)) := by
  rw [Av] at h
  simp only [Bool.and_eq_true, decide_eq_true_eq] at h
  obtain ⟨⟨a, d⟩, g⟩ := h
  refine ⟨d, g, ?_⟩
  unfold xk at a
  split at a
  · b c
    simp only [Bool.and_eq_true, decide_eq_true_eq] at a
    exact .inl ⟨c, a.1.1, List.eq_nil_of_length_eq_zero a.1.2, a.2⟩
  · split at a
    · b c
      simp only [Bool.and_eq_true, decide_eq_true_eq, bD] at a
      exact .inr (.inl ⟨c, a.1, a.2⟩)
    · simp only [Bool.and_eq_true, decide_eq_true_eq, bD] at a
      exact .inr (.inr ⟨a.1.1.1.1, a.1.1.1.2, a.1.1.2, a.1.2, a.2⟩)
theorem Hw : ∀ (n : Nat) (f : Formula), gm f ≤ n → mH f = true → ∀ l : List Int, l.length + 40 * cE f ≤ 8000 → ji n l f = some (l ++ sE f) ∧ (sE f).length ≤ 40 * cE f := by
  intro n
  induction n with
  | zero => intro f h; rw [eZ] at h; omega
  | succ n ih =>
    intro f v hw l t
    rw [eZ] at v
    have w := gA f
    obtain ⟨D, s, q⟩ := qQ hw
    rw [ji]
    unfold oL
    have g : 0 ≤ f.Op ∧ f.Op < 128 := by rcases q with h | h | h <;> omega
    rw [rE g.1 g.2 (by omega), Option.bind_some, CX]
    have key : ∀ (ks : List Formula), (∀ k ∈ ks, k ∈ f.Kids) → wellL ks = true → ∀ l : List Int, l.length + 40 * nodesL ks ≤ 8000 → jP (ji n) ks l = some (l ++ bytesFL ks) ∧ (bytesFL ks).length ≤ 40 * nodesL ks := by
      intro ks
      induction ks with
      | nil => intro _ _ l _; rw [jP, bytesFL]; simp
      | cons k ks r =>
        intro a b l t
        rw [wellL, Bool.and_eq_true] at b
        rw [nodesL] at t
        obtain ⟨m, y⟩ := ih k (by have := kz (a k (by simp)); omega) b.1 l (by omega)
        obtain ⟨d, p⟩ := r (fun z x => a z (by simp [x])) b.2 (l ++ sE k) (by simp; omega)
        rw [jP, m, Option.bind_some, d, bytesFL, nodesL]
        exact ⟨by simp, by simp; omega⟩
    have hlen : 0 ≤ (f.Kids.length : Int) ∧ (f.Kids.length : Int) < 128 := by omega
    by_cases i : f.Op = 1
    · have u : ey f.aA = true := by rcases q with h | h | h; exact h.2.1; omega; omega
      have := ic u
      simp only [i, beq_self_eq_true, if_true]
      rw [D1 u (by simp; omega), Option.bind_some]
      exact ⟨by simp, by simp; omega⟩
    · have m : (f.Op == 1) = false := by simpa using i
      simp only [m, Bool.false_eq_true, if_false, i]
      by_cases j : f.Op = 4
      · have a : 0 ≤ f.K ∧ f.K < 128 := by rcases q with h | h | h <;> omega
        simp only [j, beq_self_eq_true, if_true]
        rw [rE a.1 a.2 (by simp; omega)]
        simp only [Option.bind_some]
        rw [rE hlen.1 hlen.2 (by simp; omega)]
        simp only [Option.bind_some]
        obtain ⟨d, p⟩ := key f.Kids (fun k a => a) s (l ++ [4] ++ [f.K] ++ [(f.Kids.length : Int)]) (by simp; omega)
        rw [d]
        exact ⟨by simp, by simp; omega⟩
      · have p : (f.Op == 4) = false := by simpa using j
        simp only [p, Bool.false_eq_true, if_false, j, Option.bind_some]
        rw [rE hlen.1 hlen.2 (by simp; omega)]
        simp only [Option.bind_some]
        obtain ⟨d, A⟩ := key f.Kids (fun k a => a) s (l ++ [f.Op] ++ [(f.Kids.length : Int)]) (by simp; omega)
        rw [d]
        exact ⟨by simp, by simp; omega⟩
def rG (f : Formula) : List Int := if fS f then sE f else []
abbrev Gd (f : Formula) : Prop := cE f ≤ 50000000
theorem th {f : Formula} (h : fS f = true) : cE f ≤ 64 ∧ gm f ≤ 6 ∧ mH f = true := by
  unfold fS at h
  simp only [Bool.and_eq_true, decide_eq_true_eq] at h
  exact ⟨h.1.1, h.1.2, h.2⟩
theorem KU (f : Formula) (d : Gd f) (l : List Int) (k : l.length ≤ 5000) : pz l f = some (fS f, l ++ rG f) ∧ (rG f).length ≤ 2560 := by
  unfold pz rG
  rw [xc f d, Option.bind_some]
  cases h : fS f
  · simp
  · obtain ⟨i, j, b⟩ := th h
    obtain ⟨a, g⟩ := Hw bL f (by rw [eE]; omega) b l (by omega)
    simp only [Bool.not_true, Bool.false_eq_true, if_false, a, Option.bind_some, if_true]
    exact ⟨trivial, by omega⟩
theorem BG (f : Formula) (b : Gd f) : mF f = some (rG f) := by
  unfold mF
  obtain ⟨a, d⟩ := KU f b [] (by simp)
  rw [a, Option.bind_some, gh]
  unfold nl
  simp only [List.nil_append]
  rw [LD (by omega)]
  rfl
def vk (f g : Formula) : Int := rI (rG f) (rG g)
theorem GJ (f g : Formula) (a : Gd f) (b : Gd g) : mE f g = some (vk f g) := by
  unfold mE pH
  rw [BG f a, BG g b]
  rfl
theorem uH (f g : Formula) : fT vk f g = Op.bytesLess (nt (rG f)) (nt (rG g)) := by
  rw [Bool.eq_iff_iff]
  have h : fT vk f g = true ↔ vk f g < 0 := by unfold fT; exact decide_eq_true_iff
  exact h.trans (wK _ _)
theorem Cl : SWO (fT vk) where
  Ji x := by rw [uH, oz]
  tr x y z a b := by rw [uH] at *; exact rq _ _ _ a b
  Hl x y z h := by
    rw [uH] at h
    rw [uH, uH]
    rcases vh (nt (rG x)) (nt (rG y)) with a | a | a
    · exact .inl a
    · rw [a] at h; exact .inr h
    · exact .inr (rq _ _ _ a h)
def ou (l : List Formula) : List Formula := Ed (fT vk) l
theorem En (l : List Formula) (a : ∀ x ∈ l, Gd x) (b : l.length ≤ 300000) : og l = some (ou l) := by
  unfold og lE
  rw [eW (by simp; omega) (by simp; omega)]
  simp only [Option.bind_some, List.nil_append, gh]
  exact Gg Cl (fun x y d g => GJ x y d g) l a b
theorem HW {α : Type} (lt : α → α → Bool) (l : List α) (k : α) : (vg lt l k).Perm (l ++ [k]) := by
  unfold vg
  refine List.perm_middle.trans ((List.Perm.cons _ ?_).trans (List.perm_append_singleton k l).symm)
  have := List.filter_append_perm (fun x => !lt k x) l
  simpa using this
theorem Hd {α : Type} (lt : α → α → Bool) (l : List α) : (Ed lt l).Perm l := by
  suffices H : ∀ (l a : List α), (l.foldl (vg lt) a).Perm (a ++ l) by have := H l []; b [List.nil_append] at this
  intro l
  induction l with
  | nil => intro a; simp
  | cons k l ih =>
    intro a
    rw [List.foldl_cons]
    refine (ih _).trans ?_
    have := (HW lt a k).append_right l
    simpa using this
theorem rJ (l : List Formula) : (ou l).Perm l := Hd _ l
noncomputable def jE (a b : Formula) : Bool := @decide (a = b) (Classical.propDecidable _)
theorem uF {a b : Formula} : jE a b = true ↔ a = b := by unfold jE; simp
theorem JE (a b : Formula) (h : Gd a) : gD bL a b = some (jE a b) := by
  have := qx a
  obtain ⟨x, e, d⟩ := Kj bL a (by rw [eE]; omega) b
  rw [e]; congr 1
  rw [Bool.eq_iff_iff, d, uF]
def MD : Formula := ⟨0, 0, ⟨zS, zS⟩, []⟩
theorem I3 (d : Formula × Formula → Option Bool) (i : Int) : ∀ (n : Nat) (l : List Formula) (k j : Int), (∀ x ∈ l, ∀ y ∈ l, d (x, y) = some (jE x y)) → eY i d n l k j = uX jE i n l k j
  | 0, l, k, j, _ => by rw [eY, uX]
  | n + 1, l, k, j, h => by
    rw [eY, uX]
    split
    · cases p : dU (l.drop (Int.toNat i)) j with
      | none => rfl
      | some x =>
        cases q : dU (l.drop (Int.toNat i)) (IntKind.i64.wrap (j - 1)) with
        | none => rfl
        | some y =>
          have g : x ∈ l := List.mem_of_mem_drop (List.mem_of_getElem? (bQ p))
          have s : y ∈ l := List.mem_of_mem_drop (List.mem_of_getElem? (bQ q))
          simp only [Option.bind_some, h x g y s]
          cases jE x y
          · simp only [Bool.not_false, if_true]
            cases t : dU l k with
            | none => rfl
            | some z =>
              simp only [Option.bind_some]
              refine I3 d i n _ _ _ (fun a ha b r => ?_)
              have m : ∀ a ∈ l.set (Int.toNat k) x, a ∈ l := fun a ha => by
                rcases List.mem_or_eq_of_mem_set ha with ha | rfl
                · exact ha
                · exact g
              exact h a (m a ha) b (m b r)
          · simp only [Bool.not_true, Bool.false_eq_true, if_false, Option.bind_some]
            exact I3 d i n _ _ _ h
    · rfl
theorem KV (a : Formula × Formula → Option Bool) (l : List Formula) (h : ∀ x ∈ l, ∀ y ∈ l, a (x, y) = some (jE x y)) : ∀ (n : Nat) (i : Int), fe l a n i = wm jE MD l n i
  | 0, i => by rw [fe, wm]
  | n + 1, i => by
    rw [fe, wm]
    split
    · cases b : dU l i with
      | none => rfl
      | some x =>
        cases d : dU l (IntKind.i64.wrap (i - 1)) with
        | none => rfl
        | some y =>
          have g : x ∈ l := List.mem_of_getElem? (bQ b)
          have j : y ∈ l := List.mem_of_getElem? (bQ d)
          simp only [Option.bind_some, h x g y j]
          rw [I3 a i bL l i 1 h, KV a l h n]
          rfl
    · rfl
theorem GL (l : List Formula) (h : ∀ x ∈ l, Gd x) (b : l.length ≤ 300000) : iW l (fun x => gD bL x.1 x.2) = some (dd jE l) := by
  rw [← D7 jE MD l (by omega)]
  unfold iW EO
  rw [KV _ l (fun x a y _ => JE x y (h x a))]
end Go.Proofs.YtmlncblocfcmiaaGreat
namespace Go.Proofs.YtmlncblocfcmiaaGreat
open Go.RowKit
def dL (op : Int) (f : Formula) : Bool := decide (f.Op = op) && f.Kids.isEmpty
theorem xf (f : Formula) (op : Int) : mU f op = some (dL op f) := by
  unfold mU dL
  rw [gh]
  by_cases h : f.Op = op
  · simp only [h, beq_self_eq_true, if_true, decide_true, Bool.true_and]
    congr 1
    cases b : f.Kids with
    | nil => rfl
    | cons a l => simp; omega
  · have e : (f.Op == op) = false := by simpa using h
    simp [e, h]
def gv (op : Int) : List Formula → List Formula
  | [] => []
  | k :: ks => (if k.Op = op then k.Kids else [k]) ++ gv op ks
theorem wQ (op : Int) : ∀ ks : List Formula, nodesL (gv op ks) ≤ nodesL ks
  | [] => Nat.le_refl _
  | k :: ks => by
    have ih := wQ op ks
    have e : ∀ a b : List Formula, nodesL (a ++ b) = nodesL a + nodesL b := by
      intro a b
      induction a with
      | nil => rw [List.nil_append, nodesL]; omega
      | cons x a d => rw [List.cons_append, nodesL, nodesL, d]; omega
    have := gA k
    rw [gv, e, nodesL]
    split
    · omega
    · rw [nodesL, nodesL]; omega
theorem Cq (op : Int) : ∀ (ks acc : List Formula), acc.length + nodesL ks ≤ 100000000 → jK op ks acc = some (acc ++ gv op ks)
  | [], acc, _ => by rw [jK, gv, List.append_nil]
  | k :: ks, acc, h => by
    rw [nodesL] at h
    have a := gA k
    have b := je k.Kids
    rw [jK, gv]
    by_cases c : k.Op = op
    · simp only [c, beq_self_eq_true, if_true]
      rw [eW (by omega) (by omega), Option.bind_some, Cq op ks _ (by simp; omega), List.append_assoc]
    · have e : (k.Op == op) = false := by simpa using c
      simp only [e, Bool.false_eq_true, if_false, c]
      rw [eW (by simp; omega) (by simp; omega), Option.bind_some, Cq op ks _ (by simp; omega), List.append_assoc]
noncomputable def iF (op : Int) (ks : List Formula) : Formula :=
  if (gv op ks).any (dL (5 - op)) then ⟨5 - op, 0, jf, []⟩ else
    match dd jE (ou (gv op ks)) with
    | [x] => x
    | r => ⟨op, 0, jf, r⟩
theorem Es {α : Type} (eq : α → α → Bool) (l : List α) : (dd eq l).length ≤ l.length := by
  cases l with
  | nil => exact Nat.le_refl _
  | cons x l =>
    have : ∀ (l : List α) (x : α), (fu eq x l).length ≤ l.length := by
      intro l
      induction l with
      | nil => intro x; exact Nat.le_refl _
      | cons y l ih => intro x; rw [fu]; have := ih y; have := ih x; split <;> simp <;> omega
    have := this l x
    rw [dd, List.length_cons, List.length_cons]; omega
theorem yA (s : cL) (op : Int) (g : op = 2 ∨ op = 3) (ks : List Formula) (h : nodesL ks ≤ 64) : gI s op ks = some (iF op ks, s) := by
  have i := wQ op ks
  have j := je (gv op ks)
  have b : ∀ x ∈ gv op ks, Gd x := fun x a => by have := mN a; unfold Gd; omega
  have hw : IntKind.i64.wrap (5 - op) = 5 - op := cP (by omega) (by omega)
  unfold gI tW iF
  rw [Cq op ks [] (by simp; omega), Option.bind_some, List.nil_append, hw, Ad _ (dL (5 - op)) _ (fun x _ => by unfold jW; rw [xf, gh]), Option.bind_some]
  cases k : (gv op ks).any (dL (5 - op))
  · simp only [Bool.false_eq_true, if_false]
    have hp := rJ (gv op ks)
    have m := hp.length_eq
    rw [En _ b (by omega), Option.bind_some, GL _ (fun x a => b x (hp.mem_iff.1 a)) (by omega), Option.bind_some]
    have l := Es jE (ou (gv op ks))
    have d : ¬ (((dd jE (ou (gv op ks))).length : Int) > 64) := by omega
    simp only [d, decide_false, Bool.false_eq_true, if_false, Option.bind_some]
    generalize dd jE (ou (gv op ks)) = r
    match r with
    | [] => rfl
    | [x] => rfl
    | x :: y :: r =>
      have : (((x :: y :: r).length : Int) == 1) = false := by simp; omega
      simp only [this, Bool.false_eq_true, if_false]
      rfl
  · rfl
noncomputable def me (k : Int) (ks : List Formula) : Formula :=
  let n := k - ((ks.filter (dL 2)).length : Int)
  let l := ks.filter fun x => !dL 2 x && !dL 3 x
  if n ≤ 0 then ⟨2, 0, jf, []⟩ else if n > (l.length : Int) then ⟨3, 0, jf, []⟩ else if n = (l.length : Int) then iF 2 l else if n = 1 then iF 3 l else ⟨4, n, jf, ou l⟩
theorem rN (p : Formula → Bool) : ∀ ks : List Formula, nodesL (ks.filter p) ≤ nodesL ks
  | [] => Nat.le_refl _
  | k :: ks => by
    have := rN p ks
    rw [List.filter_cons]
    split
    · rw [nodesL, nodesL]; omega
    · rw [nodesL]; omega
theorem uq (s : cL) : ∀ (ks acc : List Formula) (k : Int), -1000 ≤ k - (ks.length : Int) → k ≤ 1000 → acc.length + ks.length ≤ 1000 → nodesL (acc ++ ks.filter fun x => !dL 2 x && !dL 3 x) ≤ 64 →
    eV s ks k acc = some (let n := k - ((ks.filter (dL 2)).length : Int); let l := acc ++ ks.filter fun x => !dL 2 x && !dL 3 x; if n ≤ 0 then ⟨2, 0, jf, []⟩ else if n > (l.length : Int) then ⟨3, 0, jf, []⟩ else if n = (l.length : Int) then iF 2 l else if n = 1 then iF 3 l else ⟨4, n, jf, ou l⟩, s)
  | [], acc, k, j, h, m, a => by
    simp only [List.filter_nil, List.append_nil, List.length_nil] at a ⊢
    rw [eV]
    simp only [Int.ofNat_zero, Int.sub_zero, su, tg, Option.bind_some, Int.natCast_zero]
    have t := je acc
    by_cases i : k ≤ 0
    · simp only [i, decide_true, if_true]; rfl
    · simp only [i, decide_false, Bool.false_eq_true, if_false]
      by_cases b : k > (acc.length : Int)
      · simp only [b, decide_true, if_true]; rfl
      · simp only [b, decide_false, Bool.false_eq_true, if_false]
        by_cases d : k = (acc.length : Int)
        · simp only [← d, beq_self_eq_true, if_true]
          rw [yA s 2 (.inl rfl) acc a, Option.bind_some]
        · have p : (k == (acc.length : Int)) = false := by simpa using d
          simp only [p, Bool.false_eq_true, if_false, d]
          by_cases g : k = 1
          · simp only [g, beq_self_eq_true, if_true]
            rw [yA s 3 (.inr rfl) acc a, Option.bind_some]
          · have q : (k == 1) = false := by simpa using g
            simp only [q, Bool.false_eq_true, if_false, g]
            rw [En acc (fun x r => by have := mN r; unfold Gd; omega) (by omega)]
            rfl
  | x :: ks, acc, k, j, h, m, a => by
    simp only [List.length_cons] at j m
    rw [eV, xf, Option.bind_some, xf, Option.bind_some]
    rw [List.filter_cons, List.filter_cons] at *
    cases b : dL 2 x
    · cases d : dL 3 x
      · simp only [b, d, Bool.not_false, Bool.and_self, Bool.false_eq_true, if_false, if_true] at a ⊢
        rw [eW (by simp; omega) (by simp; omega), Option.bind_some, uq s ks _ k (by omega) h (by simp; omega) (by rw [List.append_assoc]; exact a)]
        simp only [List.append_assoc, List.cons_append, List.nil_append]
      · simp only [b, d, Bool.not_false, Bool.not_true, Bool.and_false, Bool.false_eq_true, if_false] at a ⊢
        rw [uq s ks _ k (by omega) h (by omega) a]
    · simp only [b, Bool.not_true, Bool.false_and, Bool.false_eq_true, if_false, if_true] at a ⊢
      rw [cP (by omega) (by omega), uq s ks _ (k - 1) (by omega) (by omega) (by omega) a]
      simp only [List.length_cons]
      have e : k - 1 - ((ks.filter (dL 2)).length : Int) = k - (((ks.filter (dL 2)).length + 1 : Nat) : Int) := by omega
      rw [e]
theorem Gv (s : cL) (k : Int) (a : 0 ≤ k ∧ k ≤ 1000) (ks : List Formula) (h : nodesL ks ≤ 64) : jX s k ks = some (me k ks, s) := by
  have := je ks
  have := rN (fun x => !dL 2 x && !dL 3 x) ks
  unfold jX me
  rw [uq s ks [] k (by omega) (by omega) (by simp; omega) (by simpa using by omega)]
  rfl
mutual
noncomputable def iK : Formula → Formula
  | ⟨o, k, r, ks⟩ => if o = 1 then ⟨o, k, r, ks⟩ else if o = 4 then me k (shapeL ks) else iF o (shapeL ks)
noncomputable def shapeL : List Formula → List Formula
  | [] => []
  | k :: ks => iK k :: shapeL ks
end
theorem rA (f : Formula) : iK f = if f.Op = 1 then f else if f.Op = 4 then me f.K (shapeL f.Kids) else iF f.Op (shapeL f.Kids) := by cases f; rw [iK]
theorem zO {a b : List Formula} (h : a.Perm b) : nodesL a = nodesL b := by
  induction h with
  | nil => rfl
  | cons x _ ih => rw [nodesL, nodesL, ih]
  | swap x y l => rw [nodesL, nodesL, nodesL, nodesL]; omega
  | trans _ _ d g => rw [d, g]
theorem xr (eq : Formula → Formula → Bool) : ∀ (l : List Formula) (x : Formula), nodesL (fu eq x l) ≤ nodesL l
  | [], x => Nat.le_refl _
  | y :: l, x => by
    have a := xr eq l y
    have b := xr eq l x
    rw [fu]
    split
    · rw [nodesL]; omega
    · rw [nodesL, nodesL]; omega
theorem I2 (eq : Formula → Formula → Bool) (l : List Formula) : nodesL (dd eq l) ≤ nodesL l := by
  cases l with
  | nil => exact Nat.le_refl _
  | cons x l => have := xr eq l x; rw [dd, nodesL, nodesL]; omega
theorem uY (op : Int) (ks : List Formula) : cE (iF op ks) ≤ 1 + nodesL ks := by
  unfold iF
  split
  · rw [cE, nodesL]; omega
  · have b := I2 jE (ou (gv op ks))
    have d := zO (rJ (gv op ks))
    have g := wQ op ks
    generalize dd jE (ou (gv op ks)) = r at *
    split
    · a x
      rw [nodesL, nodesL] at b; omega
    · rw [cE]; omega
theorem Du (k : Int) (ks : List Formula) : cE (me k ks) ≤ 1 + nodesL ks := by
  have h := rN (fun x => !dL 2 x && !dL 3 x) ks
  unfold me
  simp only
  generalize ks.filter (fun x => !dL 2 x && !dL 3 x) = l at *
  generalize k - ((ks.filter (dL 2)).length : Int) = n
  split
  · rw [cE, nodesL]; omega
  · split
    · rw [cE, nodesL]; omega
    · split
      · have := uY 2 l; omega
      · split
        · have := uY 3 l; omega
        · have := zO (rJ l); rw [cE]; omega
theorem tz : ∀ f : Formula, cE (iK f) ≤ cE f := by
  refine D6 fun f ih => ?_
  have h : ∀ ks : List Formula, (∀ k ∈ ks, cE (iK k) ≤ cE k) → nodesL (shapeL ks) ≤ nodesL ks := by
    intro ks
    induction ks with
    | nil => intro _; rw [shapeL]; exact Nat.le_refl _
    | cons k ks a =>
      intro h
      have := a (fun x b => h x (by simp [b]))
      have := h k (by simp)
      rw [shapeL, nodesL, nodesL]; omega
  have h := h f.Kids ih
  rw [rA, gA f]
  split
  · rw [gA]; omega
  · split
    · have := Du f.K (shapeL f.Kids); omega
    · have := uY f.Op (shapeL f.Kids); omega
theorem xU (ks : List Formula) : nodesL (shapeL ks) ≤ nodesL ks := by
  induction ks with
  | nil => rw [shapeL]; exact Nat.le_refl _
  | cons k ks ih => have := tz k; rw [shapeL, nodesL, nodesL]; omega
theorem Ir : ∀ (n : Nat) (f : Formula), gm f ≤ n → cE f ≤ 64 → mH f = true → ∀ s : cL, fJ n s f = some (iK f, s) := by
  intro n
  induction n with
  | zero => intro f h; rw [eZ] at h; omega
  | succ n ih =>
    intro f u y hw s
    rw [eZ] at u
    have v := gA f
    obtain ⟨x, t, p⟩ := qQ hw
    rw [fJ]
    unfold lA
    rw [rA]
    by_cases i : f.Op = 1
    · simp only [i, beq_self_eq_true, if_true]
    · have q : (f.Op == 1) = false := by simpa using i
      simp only [q, Bool.false_eq_true, if_false, i]
      have key : ∀ (ks acc : List Formula), (∀ k ∈ ks, k ∈ f.Kids) → wellL ks = true → nodesL (acc ++ shapeL ks) ≤ 64 → nodesL ks ≤ 64 → gj (fJ n) f ks acc s = some (if f.Op = 4 then me f.K (acc ++ shapeL ks) else iF f.Op (acc ++ shapeL ks), s) := by
        intro ks
        induction ks with
        | nil =>
          intro acc _ _ d _
          rw [shapeL, List.append_nil] at *
          rw [gj]
          by_cases j : f.Op = 4
          · simp only [j, beq_self_eq_true, if_true]
            rw [Gv s f.K (by rcases p with h | h | h <;> omega) acc d, Option.bind_some]
          · have r : (f.Op == 4) = false := by simpa using j
            simp only [r, Bool.false_eq_true, if_false, j]
            rw [yA s f.Op (by rcases p with h | h | h <;> omega) acc d, Option.bind_some]
        | cons k ks m =>
          intro acc g a d l
          rw [wellL, Bool.and_eq_true] at a
          rw [nodesL] at l
          rw [shapeL] at d
          have b := je (acc ++ iK k :: shapeL ks)
          simp only [List.length_append, List.length_cons] at b
          rw [gj, ih k (by have := kz (g k (by simp)); omega) (by omega) a.1 s, Option.bind_some, eW (by simp; omega) (by simp; omega), Option.bind_some,
            m (acc ++ [iK k]) (fun z w => g z (by simp [w])) a.2 (by rw [List.append_assoc]; exact d) (by omega), shapeL]
          simp only [List.append_assoc, List.cons_append, List.nil_append]
      have := xU f.Kids
      have := key f.Kids [] (fun k g => g) t (by simpa using by omega) (by omega)
      simpa using this
def zT : Formula := ⟨0, 0, jf, []⟩
noncomputable def pE (f : Formula) : Formula × Int := if fS f then (if fS (iK f) then (iK f, 0) else (zT, 12)) else (zT, 11)
theorem Fm (f : Formula) (h : Gd f) : qJ f = some (pE f) := by
  unfold qJ pE
  rw [xc f h, Option.bind_some]
  cases d : fS f
  · rfl
  · obtain ⟨a, g, b⟩ := th d
    have i := tz f
    simp only [Bool.not_true, Bool.false_eq_true, if_false, if_true]
    rw [Ir bL f (by rw [eE]; omega) a b, Option.bind_some, xc (iK f) (by omega)]
    have e : (((⟨0⟩ : cL).e) != 0) = false := rfl
    simp only [e, Bool.false_eq_true, if_false, Option.bind_some]
    cases fS (iK f) <;> rfl
theorem rH {f : Formula} : cE (pE f).1 ≤ 64 := by
  unfold pE
  cases h : fS f
  · exact by simp only [Bool.false_eq_true, if_false, zT]; rw [cE, nodesL]; omega
  · obtain ⟨a, b, d⟩ := th h
    have := tz f
    simp only [if_true]
    split
    · show cE (iK f) ≤ 64; omega
    · rw [zT, cE, nodesL]; omega
theorem Kl (f g : Formula) (a : cE f ≤ 10000000) (b : cE g ≤ 10000000) : rj f g = some (pE ⟨2, 0, jf, [f, g]⟩) := by
  unfold rj
  have := Fm ⟨2, 0, jf, [f, g]⟩ (by show cE _ ≤ _; rw [cE, nodesL, nodesL, nodesL]; omega)
  rw [show (⟨2, 0, (⟨zS, zS⟩ : aA), [f, g]⟩ : Formula) = ⟨2, 0, jf, [f, g]⟩ from rfl, this]
  rfl
end Go.Proofs.YtmlncblocfcmiaaGreat
