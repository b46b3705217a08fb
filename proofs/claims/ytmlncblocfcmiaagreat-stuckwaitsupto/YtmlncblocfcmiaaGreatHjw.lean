/- a part of a proof of StuckWaits -/
import Derived.Test.YtmlncblocfcmiaaGreatRtVw
import Derived.Test.YtmlncblocfcmiaaGreatSWMw
set_option linter.all false
namespace Go.Proofs.YtmlncblocfcmiaaGreat
open Go.RowKit
theorem CO {c x : Bool} : (if c = true then some x else some false : Option Bool) = some (c && x) := by cases c <;> rfl
theorem jA {α : Type} (x : Option α) : (x.bind fun y => some y) = x := by cases x <;> rfl
theorem eK {x : Int} (h0 : -9223372036854775808 ≤ x) (h1 : x ≤ 9223372036854775807) : IntKind.i64.wrap x = x := IntWalk.i64_in _ (by omega)
theorem gp {α : Type} (A : List α) (x : α) (B : List α) (i : Int) (h : i = (A.length : Int)) : dS (A ++ x :: B) i = some x := by
  subst h; rw [un]; simp
theorem fC : bR = 18446744073709551615 + 1 := by rw [rI]
def sD {α : Type} (f1 : α → Option Bool) (z : α) : Nat → List α → Int → Int → Option (List α)
  | 0, _, _, _ => none
  | n + 1, l, i, j => if decide (j < (l.length : Int)) then
      ((dS l j).bind fun x => (f1 x).bind fun r => if (!r) then (dS l i).bind fun _ => some (l.set (Int.toNat i) x, IntKind.i64.wrap (i + 1)) else some (l, i) : Option (List α × Int)).bind fun (l', i') => sD f1 z n l' i' (IntKind.i64.wrap (j + 1))
    else (lE (decide (0 ≤ i) && decide (i ≤ (l.length : Int)))).bind fun _ => (lE (decide (0 ≤ i) && decide (i ≤ ((gW l (Int.toNat i) z).length : Int)))).bind fun _ => some ((gW l (Int.toNat i) z).take (Int.toNat i))
theorem tY {a b : Int} (h0 : 0 ≤ a) (h1 : a ≤ b) : lE (decide (0 ≤ a) && decide (a ≤ b)) = some () := by simp [lE, h0, h1]
theorem zf {α : Type} (f1 : α → Option Bool) (p : α → Bool) (z : α) : ∀ (rest out mid : List α) (n : Nat), rest.length < n → (out ++ mid ++ rest).length < 4611686018427387904 → mid ≠ [] → (∀ x ∈ rest, f1 x = some (p x)) →
    sD f1 z n (out ++ mid ++ rest) (out.length : Int) ((out.length + mid.length : Nat) : Int) = some (out ++ rest.filter fun x => !p x)
  | [], out, mid, 0, h, _, _, _ => by simp at h
  | [], out, mid, n + 1, _, hl, hm, _ => by
    rw [sD, if_neg (by simp)]
    have h1 : out.length ≤ (out ++ mid ++ []).length := by simp
    rw [tY (by omega) (by omega)]
    simp only [Option.bind_some]
    rw [tY (by omega) (by rw [mT _ _ _ (by simpa using h1)]; omega)]
    simp only [Option.bind_some, Int.toNat_natCast]
    rw [uO _ _ _ h1]
    simp
  | x :: rest, out, mid, 0, h, _, _, _ => by simp at h
  | x :: rest, out, mid, n + 1, h, hl, hm, hf => by
    have hlen : (out ++ mid ++ x :: rest).length = out.length + mid.length + rest.length + 1 := by simp; omega
    rw [hlen] at hl
    rw [sD, if_pos (by rw [hlen]; simp; omega)]
    rw [gp (out ++ mid) x rest _ (by simp)]
    simp only [Option.bind_some, hf x (by simp)]
    rw [eK (x := ((out.length + mid.length : Nat) : Int) + 1) (by omega) (by omega)]
    have ih := zf f1 p z rest
    cases hp : p x with
    | true =>
      simp only [Bool.not_true, Bool.false_eq_true, if_false, Option.bind_some]
      have := ih out (mid ++ [x]) n (by simp at h; omega) (by simp; omega) (by simp) (fun y hy => hf y (by simp [hy]))
      simp only [List.append_assoc, List.cons_append, List.nil_append, List.length_append, List.length_cons, List.length_nil] at this ⊢
      rw [show ((out.length + mid.length : Nat) : Int) + 1 = ((out.length + (mid.length + (0 + 1)) : Nat) : Int) by omega, this]
      simp [hp]
    | false =>
      obtain ⟨m, mid', rfl⟩ : ∃ m mid', mid = m :: mid' := by cases mid with
        | nil => exact absurd rfl hm
        | cons m mid' => exact ⟨m, mid', rfl⟩
      simp only [Bool.not_false, if_true]
      rw [List.append_assoc out (m :: mid') (x :: rest), List.cons_append]
      rw [gp out m (mid' ++ x :: rest) _ rfl]
      simp only [Option.bind_some]
      rw [eK (x := (out.length : Int) + 1) (by omega) (by simp at hl; omega)]
      have := ih (out ++ [x]) (mid' ++ [x]) n (by simp at h; omega) (by simp at hl ⊢; omega) (by simp) (fun y hy => hf y (by simp [hy]))
      simp only [List.append_assoc, List.cons_append, List.nil_append, List.length_append, List.length_cons, List.length_nil] at this
      have hs : (out ++ m :: (mid' ++ x :: rest)).set (Int.toNat (out.length : Int)) x = out ++ x :: (mid' ++ x :: rest) := by
        rw [Int.toNat_natCast, List.set_append_right _ _ (Nat.le_refl _)]; simp
      rw [hs]
      simp only [List.length_cons] at hl ⊢
      rw [show (out.length : Int) + 1 = ((out.length + (0 + 1) : Nat) : Int) by omega, show ((out.length + (mid'.length + 1) : Nat) : Int) + 1 = ((out.length + (0 + 1) + (mid'.length + (0 + 1)) : Nat) : Int) by omega, this]
      simp [hp]
def pi {α : Type} (f1 : α → Option Bool) : List α → Nat → Option Int
  | [], _ => some (-1)
  | x :: xs, i => (f1 x).bind fun r => if r then some (i : Int) else pi f1 xs (i + 1)
theorem pg {α : Type} (f1 : α → Option Bool) (p : α → Bool) : ∀ (l : List α) (i : Nat), (∀ x ∈ l, f1 x = some (p x)) →
    (pi f1 l i = some (-1) ∧ ∀ x ∈ l, p x = false) ∨ ∃ A x B, l = A ++ x :: B ∧ (∀ y ∈ A, p y = false) ∧ p x = true ∧ pi f1 l i = some ((i + A.length : Nat) : Int)
  | [], i, _ => .inl ⟨rfl, by simp⟩
  | x :: l, i, h => by
    rw [pi, h x (by simp)]
    simp only [Option.bind_some]
    cases hp : p x with
    | true => exact .inr ⟨[], x, l, rfl, by simp, hp, by simp⟩
    | false =>
      simp only [Bool.false_eq_true, if_false]
      rcases pg f1 p l (i + 1) (fun y hy => h y (by simp [hy])) with ⟨h1, h2⟩ | ⟨A, y, B, rfl, h1, h2, h3⟩
      · exact .inl ⟨h1, by intro y hy; rcases List.mem_cons.1 hy with rfl | hy; exact hp; exact h2 y hy⟩
      · refine .inr ⟨x :: A, y, B, rfl, ?_, h2, ?_⟩
        · intro z hz; rcases List.mem_cons.1 hz with rfl | hz
          · exact hp
          · exact h1 z hz
        · rw [h3]; simp; omega
def wY {α : Type} (f1 : α → Option Bool) (z : α) (l : List α) : Option (List α) :=
  (pi f1 l 0).bind fun r1 => if (r1 == ((-1))) then some l else sD f1 z bR l r1 (IntKind.i64.wrap (r1 + 1))
theorem sn {α : Type} (f1 : α → Option Bool) (p : α → Bool) (z : α) (l : List α) (hl : l.length < 4611686018427387904) (h : ∀ x ∈ l, f1 x = some (p x)) : wY f1 z l = some (l.filter fun x => !p x) := by
  unfold wY
  rcases pg f1 p l 0 h with ⟨h1, h2⟩ | ⟨A, x, B, rfl, h1, h2, h3⟩
  · rw [h1]
    simp only [Option.bind_some, beq_self_eq_true, if_true]
    rw [List.filter_eq_self.2 (fun y hy => by simp [h2 y hy])]
  · rw [h3]
    simp only [Option.bind_some, Nat.zero_add]
    rw [if_neg (by simp), eK (by omega) (by simp at hl; omega)]
    have := zf f1 p z B A [x] bR (by rw [rI]; simp at hl; omega) (by simpa using hl) (by simp) (fun y hy => h y (by simp [hy]))
    simp only [List.append_assoc, List.cons_append, List.nil_append, List.length_cons, List.length_nil] at this
    rw [show (A.length : Int) + 1 = ((A.length + (0 + 1) : Nat) : Int) by omega, this]
    have hA : A.filter (fun x => !p x) = A := List.filter_eq_self.2 (fun y hy => by simp [h1 y hy])
    rw [List.filter_append, hA]
    simp [h2]
def iP {α : Type} (eq : α → α → Bool) : α → List α → List α
  | _, [] => []
  | p, y :: ys => if eq y p then iP eq y ys else y :: iP eq y ys
def dd {α : Type} (eq : α → α → Bool) : List α → List α
  | [] => []
  | x :: xs => x :: iP eq x xs
def qC {α : Type} (eq : α → α → Bool) (i : Int) : Nat → List α → Int → Int → Option (List α × Int)
  | 0, _, _, _ => none
  | n + 1, l, k, j => if decide (j < ((l.length - Int.toNat i : Nat) : Int)) then
      ((dS (l.drop (Int.toNat i)) j).bind fun x => (dS (l.drop (Int.toNat i)) (IntKind.i64.wrap (j - 1))).bind fun y => if !(eq x y) then (dS (l.drop (Int.toNat i)) j).bind fun z => (dS l k).bind fun _ => some (l.set (Int.toNat k) z, IntKind.i64.wrap (k + 1)) else some (l, k) : Option (List α × Int)).bind fun (l', k') => qC eq i n l' k' (IntKind.i64.wrap (j + 1))
    else some (l, k)
def rl {α : Type} (eq : α → α → Bool) (z : α) (l : List α) : Nat → Int → Option (List α)
  | 0, _ => none
  | n + 1, i => if decide (i < (l.length : Int)) then (dS l i).bind fun x => (dS l (IntKind.i64.wrap (i - 1))).bind fun y => if eq x y then
        (lE (decide (0 ≤ i) && decide (i ≤ (l.length : Int)))).bind fun _ => (qC eq i bR l i 1).bind fun (l', k) => (lE (decide (0 ≤ k) && decide (k ≤ (l'.length : Int)))).bind fun _ => (lE (decide (0 ≤ k) && decide (k ≤ ((gW l' (Int.toNat k) z).length : Int)))).bind fun _ => some ((gW l' (Int.toNat k) z).take (Int.toNat k))
      else rl eq z l n (IntKind.i64.wrap (i + 1))
    else some l
def yO {α : Type} (eq : α → α → Bool) (z : α) (l : List α) : Option (List α) := if decide ((l.length : Int) < 2) then some l else rl eq z l bR 1
theorem yc {α : Type} (l : List α) (i : Nat) (j : Int) (hj : 0 ≤ j) : dS (l.drop i) j = dS l ((i : Int) + j) := by
  obtain ⟨m, rfl⟩ : ∃ m : Nat, j = m := ⟨j.toNat, by omega⟩
  rw [show (i : Int) + (m : Int) = ((i + m : Nat) : Int) by omega, un, un, List.getElem?_drop]
theorem vg {α : Type} (eq : α → α → Bool) (i : Nat) : ∀ (rest out mid : List α) (p : α) (n : Nat), rest.length < n → (out ++ (mid ++ [p]) ++ rest).length < 4611686018427387904 → 1 ≤ i → i ≤ out.length →
    ∃ l', qC eq (i : Int) n (out ++ (mid ++ [p]) ++ rest) (out.length : Int) ((out.length + mid.length + 1 - i : Nat) : Int) = some (l', ((out ++ iP eq p rest).length : Int)) ∧ l'.take (out ++ iP eq p rest).length = out ++ iP eq p rest ∧ (out ++ iP eq p rest).length ≤ l'.length
  | [], out, mid, p, 0, h, _, _, _ => by simp at h
  | [], out, mid, p, n + 1, h, hl, h1, h2 => by
    rw [qC, if_neg (by simp; omega)]
    exact ⟨out ++ (mid ++ [p]) ++ [], by simp [iP], by simp [iP], by simp [iP]⟩
  | x :: rest, out, mid, p, 0, h, _, _, _ => by simp at h
  | x :: rest, out, mid, p, n + 1, h, hl, h1, h2 => by
    have hlen : (out ++ (mid ++ [p]) ++ x :: rest).length = out.length + mid.length + rest.length + 2 := by simp; omega
    rw [hlen] at hl
    rw [qC, if_pos (by rw [hlen]; simp; omega)]
    rw [Int.toNat_natCast, yc _ _ _ (by omega), gp (out ++ (mid ++ [p])) x rest _ (by simp; omega)]
    simp only [Option.bind_some]
    rw [eK (x := ((out.length + mid.length + 1 - i : Nat) : Int) - 1) (by omega) (by omega), yc _ _ _ (by omega)]
    rw [show out ++ (mid ++ [p]) ++ x :: rest = (out ++ mid) ++ p :: (x :: rest) by simp]
    rw [gp (out ++ mid) p (x :: rest) _ (by simp; omega)]
    simp only [Option.bind_some]
    rw [eK (x := ((out.length + mid.length + 1 - i : Nat) : Int) + 1) (by omega) (by omega)]
    cases hp : eq x p with
    | true =>
      simp only [Bool.not_true, Bool.false_eq_true, if_false, Option.bind_some]
      obtain ⟨l', e1, e2, e3⟩ := vg eq i rest out (mid ++ [p]) x n (by simp at h; omega) (by simp; omega) h1 h2
      refine ⟨l', ?_, by rw [iP, hp]; exact e2, by rw [iP, hp]; exact e3⟩
      rw [iP, hp, if_pos rfl, ← e1]
      congr 1
      · simp
      · simp; omega
    | false =>
      simp only [Bool.not_false, if_true]
      obtain ⟨m, mid', hm⟩ : ∃ m mid', mid ++ [p] = m :: mid' := by cases mid with
        | nil => exact ⟨p, [], rfl⟩
        | cons m mid' => exact ⟨m, mid' ++ [p], rfl⟩
      have hml : mid'.length = mid.length := by have := congrArg List.length hm; simp at this; omega
      rw [show (out ++ mid) ++ p :: (x :: rest) = out ++ m :: (mid' ++ x :: rest) by rw [← List.cons_append, ← hm]; simp]
      rw [gp out m (mid' ++ x :: rest) _ rfl]
      simp only [Option.bind_some]
      rw [eK (x := (out.length : Int) + 1) (by omega) (by omega)]
      have hs : (out ++ m :: (mid' ++ x :: rest)).set (Int.toNat (out.length : Int)) x = (out ++ [x]) ++ (mid' ++ [x]) ++ rest := by
        rw [Int.toNat_natCast, List.set_append_right _ _ (Nat.le_refl _)]; simp
      rw [hs]
      obtain ⟨l', e1, e2, e3⟩ := vg eq i rest (out ++ [x]) mid' x n (by simp at h; omega) (by simp; omega) h1 (by simp; omega)
      refine ⟨l', ?_, ?_, ?_⟩
      · rw [iP, hp, if_neg (by decide)]
        have e4 : ((out ++ x :: iP eq x rest).length : Int) = ((out ++ [x] ++ iP eq x rest).length : Int) := by simp
        rw [e4, ← e1]
        congr 1
        · simp
        · simp; omega
      · rw [iP, hp, if_neg (by decide)]; simpa using e2
      · rw [iP, hp, if_neg (by decide)]; simpa using e3
theorem yy {α : Type} (eq : α → α → Bool) (z : α) : ∀ (rest pre : List α) (p : α) (n : Nat), rest.length < n → (pre ++ p :: rest).length < 4611686018427387904 →
    rl eq z (pre ++ p :: rest) n ((pre.length + 1 : Nat) : Int) = some (pre ++ p :: iP eq p rest)
  | [], pre, p, 0, h, _ => by simp at h
  | [], pre, p, n + 1, h, hl => by rw [rl, if_neg (by simp)]; simp [iP]
  | x :: rest, pre, p, 0, h, _ => by simp at h
  | x :: rest, pre, p, n + 1, h, hl => by
    have hlen : (pre ++ p :: x :: rest).length = pre.length + rest.length + 2 := by simp; omega
    rw [hlen] at hl
    rw [rl, if_pos (by rw [hlen]; simp; omega)]
    rw [show pre ++ p :: x :: rest = (pre ++ [p]) ++ x :: rest by simp, gp (pre ++ [p]) x rest _ (by simp)]
    simp only [Option.bind_some]
    rw [eK (x := ((pre.length + 1 : Nat) : Int) - 1) (by omega) (by omega)]
    rw [show (pre ++ [p]) ++ x :: rest = pre ++ p :: (x :: rest) by simp, gp pre p (x :: rest) _ (by omega)]
    simp only [Option.bind_some]
    cases hp : eq x p with
    | true =>
      simp only [if_true]
      rw [tY (by omega) (by rw [hlen]; omega)]
      simp only [Option.bind_some]
      obtain ⟨l', e1, e2, e3⟩ := vg eq (pre.length + 1) rest (pre ++ [p]) [] x bR (by rw [rI]; omega) (by simp; omega) (by omega) (by simp)
      simp only [List.append_assoc, List.cons_append, List.nil_append, List.length_append, List.length_cons, List.length_nil] at e1 e2 e3
      rw [show (pre.length + (0 + 1) + 0 + 1 - (pre.length + 1) : Nat) = 1 by omega] at e1
      rw [show ((pre.length + 1 : Nat) : Int) = ((pre.length + (0 + 1) : Nat) : Int) by omega] at *
      have e1' : qC eq ((pre.length + (0 + 1) : Nat) : Int) bR (pre ++ p :: x :: rest) ((pre.length + (0 + 1) : Nat) : Int) 1 = _ := e1
      rw [e1']
      simp only [Option.bind_some]
      rw [tY (by omega) (by omega)]
      simp only [Option.bind_some, Int.toNat_natCast]
      rw [tY (by omega) (by rw [mT _ _ _ e3]; omega)]
      simp only [Option.bind_some]
      rw [uO _ _ _ e3, e2, iP, hp]
      simp
    | false =>
      simp only [Bool.false_eq_true, if_false]
      rw [eK (x := ((pre.length + 1 : Nat) : Int) + 1) (by omega) (by omega)]
      have := yy eq z rest (pre ++ [p]) x n (by simp at h; omega) (by simp; omega)
      simp only [List.append_assoc, List.cons_append, List.nil_append, List.length_append, List.length_cons, List.length_nil] at this
      rw [show ((pre.length + 1 : Nat) : Int) + 1 = ((pre.length + (0 + 1) + 1 : Nat) : Int) by omega, this, iP, hp]
      simp
theorem zg {α : Type} (eq : α → α → Bool) (z : α) (l : List α) (hl : l.length < 4611686018427387904) : yO eq z l = some (dd eq l) := by
  unfold yO
  cases l with
  | nil => rfl
  | cons x xs =>
    cases xs with
    | nil => simp [dd, iP]
    | cons y ys =>
      rw [if_neg (by simp; omega)]
      have := yy eq z (y :: ys) [] x bR (by rw [rI]; simp at hl ⊢; omega) (by simpa using hl)
      simpa [dd] using this
structure wO {α : Type} (lt : α → α → Prop) (P : α → Prop) : Prop where
  irrefl : ∀ x, P x → ¬ lt x x
  trans : ∀ x y z, P x → P y → P z → lt x y → lt y z → lt x z
  total : ∀ x y, P x → P y → lt x y ∨ x = y ∨ lt y x
def pY {α : Type} (lt : α → α → Prop) (P : α → Prop) (l out : List α) : Prop := out.Pairwise lt ∧ ∀ x, x ∈ out ↔ x ∈ l ∧ P x
theorem pY.unique {α : Type} {lt : α → α → Prop} {P : α → Prop} (H : wO lt P) : ∀ {l a b : List α}, pY lt P l a → pY lt P l b → a = b := by
  have key : ∀ a b : List α, (∀ x ∈ a, P x) → a.Pairwise lt → b.Pairwise lt → (∀ x, x ∈ a ↔ x ∈ b) → a = b := by
    intro a
    induction a with
    | nil => intro b _ _ _ hm; cases b with
      | nil => rfl
      | cons y ys => exact absurd ((hm y).2 (by simp)) (by simp)
    | cons x xs ih =>
      intro b hP ha hb hm
      cases b with
      | nil => exact absurd ((hm x).1 (by simp)) (by simp)
      | cons y ys =>
        have hPy : P y := hP y ((hm y).2 (by simp))
        have hPx : P x := hP x (by simp)
        have ha' := List.pairwise_cons.1 ha
        have hb' := List.pairwise_cons.1 hb
        have hxy : x = y := by
          rcases List.mem_cons.1 ((hm x).1 (by simp)) with h | h
          · exact h
          · rcases List.mem_cons.1 ((hm y).2 (by simp)) with h2 | h2
            · exact h2.symm
            · exact absurd (H.trans x y x hPx hPy hPx (ha'.1 y h2) (hb'.1 x h)) (H.irrefl x hPx)
        subst hxy
        congr 1
        refine ih ys (fun z hz => hP z (by simp [hz])) ha'.2 hb'.2 (fun z => ?_)
        constructor
        · intro hz
          rcases List.mem_cons.1 ((hm z).1 (by simp [hz])) with h | h
          · subst h; exact absurd (ha'.1 z hz) (H.irrefl z hPx)
          · exact h
        · intro hz
          rcases List.mem_cons.1 ((hm z).2 (by simp [hz])) with h | h
          · subst h; exact absurd (hb'.1 z hz) (H.irrefl z hPx)
          · exact h
  intro l a b ha hb
  exact key a b (fun x hx => ((ha.2 x).1 hx).2) ha.1 hb.1 (fun x => (ha.2 x).trans (hb.2 x).symm)
theorem sv {α : Type} {eq : α → α → Bool} (he : ∀ x y, eq x y = true ↔ x = y) : ∀ (l : List α) (p x : α), x ∈ p :: iP eq p l ↔ x ∈ p :: l
  | [], p, x => by simp [iP]
  | y :: l, p, x => by
    rw [iP]
    split
    · rename_i h
      have := (he y p).1 h
      subst this
      rw [sv he l y x]; simp
    · have := sv he l y x
      simp only [List.mem_cons] at this ⊢
      rw [this]
theorem EG {α : Type} {eq : α → α → Bool} (he : ∀ x y, eq x y = true ↔ x = y) (l : List α) (x : α) : x ∈ dd eq l ↔ x ∈ l := by
  cases l with
  | nil => simp [dd]
  | cons y l => exact sv he l y x
theorem rk {α : Type} {eq : α → α → Bool} {lt : α → α → Prop} {P : α → Prop} (he : ∀ x y, eq x y = true ↔ x = y) (H : wO lt P) : ∀ (l : List α) (p : α), (∀ x ∈ p :: l, P x) → (p :: l).Pairwise (fun a b => ¬ lt b a) → (p :: iP eq p l).Pairwise lt
  | [], p, _, _ => by simp [iP]
  | y :: l, p, hP, hs => by
    have h1 := List.pairwise_cons.1 hs
    rw [iP]
    split
    · rename_i h
      have := (he y p).1 h
      subst this
      exact rk he H l y (fun x hx => hP x (List.mem_cons_of_mem _ hx)) h1.2
    · rename_i h
      have ih := rk he H l y (fun x hx => hP x (List.mem_cons_of_mem _ hx)) h1.2
      refine List.pairwise_cons.2 ⟨fun z hz => ?_, ih⟩
      have hpy : lt p y := by
        rcases H.total p y (hP p (by simp)) (hP y (by simp)) with h2 | h2 | h2
        · exact h2
        · exact absurd ((he y p).2 h2.symm) h
        · exact absurd h2 (h1.1 y (by simp))
      rcases List.mem_cons.1 hz with rfl | hz'
      · exact hpy
      · have hzl : z ∈ y :: l := (sv he l y z).1 hz
        exact H.trans p y z (hP p (by simp)) (hP y (by simp)) (hP z (List.mem_cons_of_mem _ hzl)) hpy ((List.pairwise_cons.1 ih).1 z hz')
theorem BF {α : Type} {eq : α → α → Bool} {lt : α → α → Prop} {P : α → Prop} (he : ∀ x y, eq x y = true ↔ x = y) (H : wO lt P) (l : List α) (hP : ∀ x ∈ l, P x) (hs : l.Pairwise (fun a b => ¬ lt b a)) : (dd eq l).Pairwise lt := by
  cases l with
  | nil => simp [dd]
  | cons y l => exact rk he H l y hP hs
theorem xI {α : Type} {le : α → α → Bool} {P : α → Prop} (ht : ∀ a b c, P a → P b → P c → le a b = true → le b c = true → le a c = true) (ho : ∀ a b, P a → P b → (le a b || le b a) = true) (l : List α) (hP : ∀ x ∈ l, P x) :
    (l.mergeSort le).Pairwise (fun a b => le a b = true) := by
  have e : l = (l.attachWith P hP).map Subtype.val := by simp
  have hm : ((l.attachWith P hP).mergeSort fun a b => le a.1 b.1).map Subtype.val = l.mergeSort le := by
    conv => rhs; rw [e]
    exact List.map_mergeSort (fun a _ b _ => rfl)
  rw [← hm, List.pairwise_map]
  exact List.pairwise_mergeSort (le := fun (a b : {x // P x}) => le a.1 b.1) (fun a b c h1 h2 => ht a.1 b.1 c.1 a.2 b.2 c.2 h1 h2) (fun a b => ho a.1 b.1 a.2 b.2) _
theorem zx {α : Type} {eq : α → α → Bool} {lt : α → α → Prop} {P : α → Prop} {cf : α × α → Option Int} {l : List α} (he : ∀ x y, eq x y = true ↔ x = y) (H : wO lt P) (hP : ∀ x ∈ l, P x) (hl : l.length < 4611686018427387904)
    (hc : ∀ x y, P x → P y → ∃ c, cf (x, y) = some c ∧ (c < 0 ↔ lt x y)) : ∃ s, qG cf l = some s ∧ s.length = l.length ∧ pY lt P l (dd eq s) := by
  have hless : ∀ x y, P x → P y → (lL cf x y = true ↔ lt x y) := fun x y hx hy => by
    obtain ⟨c, h1, h2⟩ := hc x y hx hy
    unfold lL
    rw [h1]
    simpa using h2
  have hless' : ∀ x y, P x → P y → (lL cf x y = false ↔ ¬ lt x y) := fun x y hx hy => by
    rw [← hless x y hx hy]; simp
  have ok : tQ cf l := by
    refine ⟨fun x hx y hy => ?_, fun x hx => ?_, fun x hx y hy z hz h1 h2 => ?_, fun x hx y hy h1 h2 => ?_, hl⟩
    · obtain ⟨c, h1, _⟩ := hc x y (hP x hx) (hP y hy); exact ⟨c, h1⟩
    · exact (hless' x x (hP x hx) (hP x hx)).2 (H.irrefl x (hP x hx))
    · rw [hless _ _ (hP x hx) (hP y hy)] at h1
      rw [hless _ _ (hP y hy) (hP z hz)] at h2
      rw [hless _ _ (hP x hx) (hP z hz)]
      exact H.trans x y z (hP x hx) (hP y hy) (hP z hz) h1 h2
    · rw [hless' _ _ (hP x hx) (hP y hy)] at h1
      rw [hless' _ _ (hP y hy) (hP x hx)] at h2
      rcases H.total x y (hP x hx) (hP y hy) with h | h | h
      · exact absurd h h1
      · exact h
      · exact absurd h h2
  refine ⟨_, Cc ok, by simp [lX], ?_, ?_⟩
  · have hperm : ∀ x, x ∈ lX cf l ↔ x ∈ l := fun x => by simp [lX]
    refine BF he H _ (fun x hx => hP x ((hperm x).1 hx)) ?_
    have := xI (le := fun x y => !lL cf y x) (P := P) (fun a b c ha hb hcc h1 h2 => ?_) (fun a b ha hb => ?_) l hP
    · refine (this.imp_of_mem ?_ : _)
      intro a b ha hb h
      have ha' : a ∈ l := (hperm a).1 ha
      have hb' : b ∈ l := (hperm b).1 hb
      simp at h
      exact (hless' b a (hP b hb') (hP a ha')).1 h
    · simp at h1 h2 ⊢
      rw [hless' _ _ hb ha] at h1
      rw [hless' _ _ hcc hb] at h2
      rw [hless' _ _ hcc ha]
      intro h3
      rcases H.total a b ha hb with h | h | h
      · exact h2 (H.trans c a b hcc ha hb h3 h)
      · subst h; exact h2 h3
      · exact h1 h
    · simp only [Bool.or_eq_true, Bool.not_eq_true']
      rw [hless' _ _ hb ha, hless' _ _ ha hb]
      by_cases h : lt b a
      · right; intro h2; exact H.irrefl a ha (H.trans a b a ha hb ha h2 h)
      · exact .inl h
  · intro x
    rw [EG he]
    constructor
    · intro hx
      have : x ∈ l := by simpa [lX] using hx
      exact ⟨this, hP x this⟩
    · intro hx; simpa [lX] using hx.1
end Go.Proofs.YtmlncblocfcmiaaGreat
namespace Go.Proofs.YtmlncblocfcmiaaGreat
open Go.RowKit
theorem qI : ∀ a : List UInt8, Op.bytesLess a a = false
  | [] => rfl
  | x :: a => by simp [Op.bytesLess, qI a]
theorem yi (x y : UInt8) : x < y ∨ x = y ∨ y < x := by
  rcases Nat.lt_trichotomy x.toNat y.toNat with h | h | h
  · exact .inl h
  · exact .inr (.inl (UInt8.toNat_inj.1 h))
  · exact .inr (.inr h)
theorem sI : ∀ a b c : List UInt8, Op.bytesLess a b = true → Op.bytesLess b c = true → Op.bytesLess a c = true
  | [], [], c, h1, _ => by simp [Op.bytesLess] at h1
  | _ :: _, [], c, h1, _ => by simp [Op.bytesLess] at h1
  | a, _ :: _, [], _, h2 => by simp [Op.bytesLess] at h2
  | [], b :: bs, c :: cs, _, _ => rfl
  | a :: ax, b :: bs, c :: cs, h1, h2 => by
    simp only [Op.bytesLess, Bool.or_eq_true, decide_eq_true_eq, Bool.and_eq_true, beq_iff_eq] at h1 h2 ⊢
    rcases h1 with h1 | ⟨rfl, h1⟩
    · rcases h2 with h2 | ⟨rfl, h2⟩
      · exact .inl (UInt8.lt_trans h1 h2)
      · exact .inl h1
    · rcases h2 with h2 | ⟨rfl, h2⟩
      · exact .inl h2
      · exact .inr ⟨rfl, sI ax bs cs h1 h2⟩
theorem vA : ∀ a b : List UInt8, Op.bytesLess a b = true ∨ a = b ∨ Op.bytesLess b a = true
  | [], [] => .inr (.inl rfl)
  | [], _ :: _ => .inl rfl
  | _ :: _, [] => .inr (.inr rfl)
  | a :: ax, b :: bs => by
    simp only [Op.bytesLess, Bool.or_eq_true, decide_eq_true_eq, Bool.and_eq_true, beq_iff_eq, List.cons.injEq]
    rcases yi a b with h | h | h
    · exact .inl (.inl h)
    · subst h
      rcases vA ax bs with h | h | h
      · exact .inl (.inr ⟨rfl, h⟩)
      · exact .inr (.inl ⟨rfl, h⟩)
      · exact .inr (.inr (.inr ⟨rfl, h⟩))
    · exact .inr (.inr (.inl h))
theorem uz : ∀ a b : List UInt8, (Lib.compareBytes a b < 0 ↔ Op.bytesLess a b = true)
  | [], [] => by simp [Lib.compareBytes, Op.bytesLess]
  | [], _ :: _ => by simp [Lib.compareBytes, Op.bytesLess]
  | _ :: _, [] => by simp [Lib.compareBytes, Op.bytesLess]
  | a :: ax, b :: bs => by
    simp only [Lib.compareBytes, Op.bytesLess, Bool.or_eq_true, decide_eq_true_eq, Bool.and_eq_true, beq_iff_eq]
    by_cases h : a < b
    · simp [h]
    · by_cases h2 : b < a
      · have : a ≠ b := by rintro rfl; exact h h2
        simp [h, h2, this]
      · have : a = b := by rcases yi a b with h3 | h3 | h3; exact absurd h3 h; exact h3; exact absurd h3 h2
        subst this
        simp [h, uz ax bs]
theorem yZ : ∀ a b : List UInt8, (Lib.compareBytes a b = 0 ↔ a = b)
  | [], [] => by simp [Lib.compareBytes]
  | [], _ :: _ => by simp [Lib.compareBytes]
  | _ :: _, [] => by simp [Lib.compareBytes]
  | a :: ax, b :: bs => by
    simp only [Lib.compareBytes, List.cons.injEq]
    by_cases h : a < b
    · simp only [h, if_true]
      constructor
      · intro h; cases h
      · rintro ⟨rfl, _⟩; exact absurd h (by simp)
    · by_cases h2 : b < a
      · simp only [h, h2, if_true, if_false]
        constructor
        · intro h; cases h
        · rintro ⟨rfl, _⟩; exact absurd h2 (by simp)
      · have : a = b := by rcases yi a b with h3 | h3 | h3; exact absurd h3 h; exact h3; exact absurd h3 h2
        subst this
        simp [h, yZ ax bs]
theorem zT (a b : ByteArray) : uK a b = Op.bytesLess a.data.toList b.data.toList := by unfold uK; rw [ByteArray.toList_eq, ByteArray.toList_eq]
theorem By {a b : ByteArray} (h : a.data.toList = b.data.toList) : a = b := ByteArray.ext (Array.toList_inj.1 h)
theorem vN (a : ByteArray) : uK a a = false := by rw [zT, qI]
def sQ (b : UInt8) : Bool := decide (97 ≤ b.toNat) && decide (b.toNat ≤ 122)
def wn (b : UInt8) : Bool := sQ b || (decide (48 ≤ b.toNat) && decide (b.toNat ≤ 57)) || decide (b.toNat = 45)
def jY (s : ByteArray) : Bool := decide (1 ≤ s.size) && decide (s.size ≤ 16) && (match s.data.toList with | [] => false | b :: _ => sQ b) && s.data.toList.all wn
theorem kS {s : ByteArray} (h : jY s = true) : 1 ≤ s.size ∧ s.size ≤ 16 := by
  simp only [jY, Bool.and_eq_true, decide_eq_true_eq] at h
  exact h.1.1
theorem AP : ∀ n : Nat, n < 256 → decide (nM (⟨#[97, 98, 99, 100, 101, 102, 103, 104, 105, 106, 107, 108, 109, 110, 111, 112, 113, 114, 115, 116, 117, 118, 119, 120, 121, 122]⟩ : ByteArray) (n : Int) ≥ 0) = sQ (UInt8.ofNat n) := by decide +kernel
theorem CL : ∀ n : Nat, n < 256 → decide (nM (⟨#[97, 98, 99, 100, 101, 102, 103, 104, 105, 106, 107, 108, 109, 110, 111, 112, 113, 114, 115, 116, 117, 118, 119, 120, 121, 122, 48, 49, 50, 51, 52, 53, 54, 55, 56, 57, 45]⟩ : ByteArray) (n : Int) < 0) = !wn (UInt8.ofNat n) := by decide +kernel
theorem BJ (s : ByteArray) : s.size = s.data.toList.length := by rw [Array.length_toList]; rfl
theorem uP {s : ByteArray} (h : s.size ≤ 16) : ru s = some (lr s) := by
  unfold ru; rw [if_pos (by unfold maxLen; omega)]
theorem yE : ∀ l : List UInt8, ke (l.map fun b => (b.toNat : Int)) = some (l.all wn)
  | [] => rfl
  | b :: l => by
    rw [List.map_cons, ke]
    simp only [iW, fS, Option.bind_some]
    have hb := CL b.toNat (UInt8.toNat_lt b)
    rw [hb]
    simp only [UInt8.ofNat_toNat, List.all_cons]
    cases wn b with
    | true => simp [yE l]
    | false => simp
theorem BC {s : ByteArray} {b : UInt8} {l : List UInt8} (h : s.data.toList = b :: l) : vn s 0 = some b := by
  unfold vn
  rw [if_pos (Int.le_refl 0)]
  have h0 : s.data[0]? = some b := by rw [← Array.getElem?_toList, h]; rfl
  show s[0]? = some b
  rw [← h0]
  rfl
theorem oL (s : ByteArray) : jG s = some (jY s) := by
  unfold jG
  simp only [CO, Option.bind_some, jA]
  by_cases h1 : 1 ≤ s.size
  · by_cases h2 : s.size ≤ 16
    · rw [if_pos (by simp; omega)]
      obtain ⟨b, l, hl⟩ : ∃ b l, s.data.toList = b :: l := by
        cases h : s.data.toList with
        | nil => rw [BJ, h] at h1; simp at h1
        | cons b l => exact ⟨b, l, rfl⟩
      rw [BC hl]
      simp only [Option.bind_some, iW, fS]
      rw [AP b.toNat (UInt8.toNat_lt b)]
      simp only [UInt8.ofNat_toNat, jY, h1, h2, hl, decide_true, Bool.true_and]
      cases sQ b with
      | false => simp
      | true =>
        simp only [if_true, pv, uP h2, Option.bind_some, lr]
        rw [yE, hl]
        simp
    · rw [if_neg (by simp; omega)]
      simp [jY, h2]
  · rw [if_neg (by simp; omega)]
    simp [jY, h1]
theorem qO (a : ByteArray) : eT a a = true := fT.2 rfl
def fL (r : Role) : Bool := jY r.Owner && jY r.Word
theorem oW (r : Role) : iF r = some (fL r) := by
  unfold iF fL
  simp only [oL, Option.bind_some]
  cases jY r.Owner <;> simp
def yQ (a b : Role) : Bool := uK a.Owner b.Owner || (eT a.Owner b.Owner && uK a.Word b.Word)
theorem wW {a b : Role} : yQ a b = true ↔ uK a.Owner b.Owner = true ∨ (a.Owner = b.Owner ∧ uK a.Word b.Word = true) := by
  simp [yQ, fT]
theorem uG (a b : Role) : ∃ c, mo a b = some c ∧ (c < 0 ↔ yQ a b = true) := by
  unfold mo
  simp only [kK, gV, Option.bind_some, oI, kB]
  have h1 : ∀ a b : ByteArray, (lY a b < 0 ↔ uK a b = true) := fun a b => by rw [zT]; exact uz _ _
  have h0 : ∀ a b : ByteArray, (lY a b = 0 ↔ a = b) := fun a b => by
    unfold lY; rw [yZ]; exact ⟨By, fun h => by rw [h]⟩
  by_cases e : lY a.Owner b.Owner = 0
  · rw [if_neg (by simp [e])]
    have e' := (h0 _ _).1 e
    by_cases e2 : lY a.Word b.Word = 0
    · rw [if_neg (by simp [e2])]
      refine ⟨0, rfl, ?_⟩
      rw [wW, e', (h0 _ _).1 e2]
      simp [vN]
    · rw [if_pos (by simp [e2])]
      refine ⟨_, rfl, ?_⟩
      rw [wW, e', h1]
      simp [vN]
  · rw [if_pos (by simp [e])]
    refine ⟨_, rfl, ?_⟩
    rw [wW, h1]
    have : a.Owner ≠ b.Owner := fun h => e ((h0 _ _).2 h)
    simp [this]
def zR : Role := ⟨zS, zS⟩
theorem oS (a : Role) : bF a a = true := bA.2 rfl
def eE (c : Cred) : Bool := fL c.Head && (
  if c.Kind == 1 then jY c.Who && bF zR c.B && bF zR c.C && eT zS c.Word2
  else if c.Kind == 2 then fL c.B && eT zS c.Who && bF zR c.C && eT zS c.Word2
  else if c.Kind == 3 then fL c.B && eT c.B.Owner c.Head.Owner && jY c.Word2 && eT zS c.Who && bF zR c.C
  else if c.Kind == 4 then fL c.B && fL c.C && yQ c.B c.C && eT zS c.Who && eT zS c.Word2
  else false)
theorem nl (c : Cred) : ku c = some (eE c) := by
  unfold ku eE
  simp only [oW, oL, Option.bind_some]
  obtain ⟨k, hk, hk2⟩ := uG c.B c.C
  rw [hk]
  have hk3 : decide (k < 0) = yQ c.B c.C := by rw [Bool.eq_iff_iff, ← hk2]; simp
  simp only [Option.bind_some, hk3]
  by_cases h1 : c.Kind = 1
  · cases fL c.Head <;> cases jY c.Who <;> simp [h1, bG, oS, qO, zR, Bool.and_assoc]
  · by_cases h2 : c.Kind = 2
    · cases fL c.Head <;> cases fL c.B <;> simp [h2, bG, oS, qO, zR, Bool.and_assoc]
    · by_cases h3 : c.Kind = 3
      · cases fL c.Head <;> cases fL c.B <;> cases eT c.B.Owner c.Head.Owner <;> cases jY c.Word2 <;> simp [h3, bG, oS, qO, zR, Bool.and_assoc]
      · by_cases h4 : c.Kind = 4
        · cases fL c.Head <;> cases fL c.B <;> cases fL c.C <;> cases yQ c.B c.C <;> simp [h4, bG, oS, qO, zR, Bool.and_assoc]
        · simp [h1, h2, h3, h4]
end Go.Proofs.YtmlncblocfcmiaaGreat
namespace Go.Proofs.YtmlncblocfcmiaaGreat
open Go.RowKit
theorem gX {α : Type} {b : Nat} {l m : List α} (h : (l.length + m.length) * b ≤ 140737488355328) (h2 : l.length + m.length ≤ 9223372036854775807) : gT b l m = some (l ++ m) := by
  unfold gT; rw [if_pos ⟨h, by unfold maxLen; omega⟩]
theorem vy {l m : List Int} (h : l.length + m.length ≤ 1000000) : gT 1 l m = some (l ++ m) := gX (by omega) (by omega)
def od (s : ByteArray) : List Int := (s.size : Int) :: lr s
def kF (r : Role) : List Int := od r.Owner ++ od r.Word
def sG (c : Cred) : List Int := if c.Kind = 1 then od c.Who else if c.Kind = 2 then kF c.B else if c.Kind = 3 then kF c.B ++ od c.Word2 else kF c.B ++ kF c.C
def py (c : Cred) : List Int := c.Kind :: (kF c.Head ++ sG c)
theorem oH (s : ByteArray) : (od s).length = s.size + 1 := by simp [od, jg]
theorem mH {r : Role} (h : fL r = true) : (kF r).length ≤ 34 := by
  simp only [fL, Bool.and_eq_true] at h
  have h1 := kS h.1
  have h2 := kS h.2
  simp [kF, oH]; omega
theorem oy {l : List Int} {n : Int} (h0 : 0 ≤ n) (h1 : n < 128) (hl : l.length ≤ 100000) : fU l n = some (true, l ++ [n]) := by
  have hw : IntKind.u8.wrap n = n := by
    obtain ⟨k, rfl⟩ : ∃ k : Nat, n = k := ⟨n.toNat, by omega⟩
    have : ∀ k : Nat, k < 128 → IntKind.u8.wrap (k : Int) = (k : Int) := by decide +kernel
    exact this k (by omega)
  unfold fU
  rw [if_neg (by simp; omega), fC, gY, if_neg (by simp; omega), hw, vy (by simp; omega)]
  rfl
theorem um {l : List Int} {s : ByteArray} (h : jY s = true) (hl : l.length ≤ 10000) : kw l s = some (true, l ++ od s) := by
  have h1 := kS h
  unfold kw
  simp only [oL, Option.bind_some, h, if_true, uP h1.2]
  unfold ml
  rw [if_neg (by rw [jg]; simp; omega)]
  rw [jg, oy (by omega) (by omega) (by omega)]
  simp only [Option.bind_some]
  rw [vy (by simp [jg]; omega)]
  simp [od]
theorem yD {l : List Int} {r : Role} (h : fL r = true) (hl : l.length ≤ 9000) : iG l r = some (true, l ++ kF r) := by
  have h0 := h
  simp only [fL, Bool.and_eq_true] at h
  have h1 := kS h.1
  unfold iG
  simp only [oW, Option.bind_some, h0, if_true]
  rw [um h.1 (by omega)]
  simp only [Option.bind_some, if_true]
  rw [um h.2 (by simp [oH]; omega)]
  simp [kF]
theorem rD {l : List Int} {r : Role} (h : fL r = true) (hl : l.length ≤ 1000) : iG l r = some (true, l ++ kF r) := yD h (by omega)
theorem uU {c : Cred} (h : eE c = true) : fL c.Head = true := by
  simp only [eE, Bool.and_eq_true] at h; exact h.1
theorem ky {c : Cred} (h : eE c = true) :
    (c.Kind = 1 ∧ jY c.Who = true ∧ c.B = zR ∧ c.C = zR ∧ c.Word2 = zS) ∨
    (c.Kind = 2 ∧ fL c.B = true ∧ c.Who = zS ∧ c.C = zR ∧ c.Word2 = zS) ∨
    (c.Kind = 3 ∧ fL c.B = true ∧ jY c.Word2 = true ∧ c.B.Owner = c.Head.Owner ∧ c.Who = zS ∧ c.C = zR) ∨
    (c.Kind = 4 ∧ fL c.B = true ∧ fL c.C = true ∧ yQ c.B c.C = true ∧ c.Who = zS ∧ c.Word2 = zS) := by
  simp only [eE, Bool.and_eq_true] at h
  obtain ⟨_, h⟩ := h
  split at h
  · rename_i h1
    simp only [Bool.and_eq_true, bA, fT] at h
    exact .inl ⟨by simpa using h1, h.1.1.1, h.1.1.2.symm, h.1.2.symm, h.2.symm⟩
  · split at h
    · rename_i h1
      simp only [Bool.and_eq_true, bA, fT] at h
      exact .inr (.inl ⟨by simpa using h1, h.1.1.1, h.1.1.2.symm, h.1.2.symm, h.2.symm⟩)
    · split at h
      · rename_i h1
        simp only [Bool.and_eq_true, bA, fT] at h
        exact .inr (.inr (.inl ⟨by simpa using h1, h.1.1.1.1, h.1.1.2, h.1.1.1.2, h.1.2.symm, h.2.symm⟩))
      · split at h
        · rename_i h1
          simp only [Bool.and_eq_true, bA, fT] at h
          exact .inr (.inr (.inr ⟨by simpa using h1, h.1.1.1.1, h.1.1.1.2, h.1.1.2, h.1.2.symm, h.2.symm⟩))
        · cases h
theorem qM (c : Cred) : mt c = some (if eE c then py c else []) := by
  unfold mt
  rw [nl]
  simp only [Option.bind_some]
  cases h : eE c with
  | false => simp
  | true =>
    have hh := uU h
    have hl := mH hh
    simp only [Bool.not_true, Bool.false_eq_true, if_false, if_true]
    have hk : 0 ≤ c.Kind ∧ c.Kind < 128 := by rcases ky h with h | h | h | h <;> omega
    rw [oy hk.1 hk.2 (by simp)]
    simp only [Option.bind_some]
    rw [rD hh (by simp)]
    simp only [Option.bind_some, ki, lH]
    rcases ky h with ⟨k, h1, _⟩ | ⟨k, h1, _⟩ | ⟨k, h1, h2, _⟩ | ⟨k, h1, h2, _⟩
    · have hs := kS h1
      simp only [k, beq_self_eq_true, if_true, um h1 (show (([] ++ [(1:Int)]) ++ kF c.Head).length ≤ 10000 by simp; omega), Option.bind_some]
      rw [vy (by simp [oH]; omega)]
      simp [py, sG, k]
    · have hs := mH h1
      simp only [k, show ((2 : Int) == 1) = false from rfl, Bool.false_eq_true, beq_self_eq_true, if_true, if_false, rD h1 (show (([] ++ [(2:Int)]) ++ kF c.Head).length ≤ 1000 by simp; omega), Option.bind_some]
      rw [vy (by simp; omega)]
      simp [py, sG, k]
    · have hs := mH h1
      have hs2 := kS h2
      simp only [k, show ((3 : Int) == 1) = false from rfl, show ((3 : Int) == 2) = false from rfl, Bool.false_eq_true, beq_self_eq_true, if_true, if_false, rD h1 (show (([] ++ [(3:Int)]) ++ kF c.Head).length ≤ 1000 by simp; omega), Option.bind_some]
      rw [um h2 (by simp; omega)]
      simp only [Option.bind_some]
      rw [vy (by simp [oH]; omega)]
      simp [py, sG, k]
    · have hs := mH h1
      have hs2 := mH h2
      simp only [k, show ((4 : Int) == 1) = false from rfl, show ((4 : Int) == 2) = false from rfl, show ((4 : Int) == 3) = false from rfl, Bool.false_eq_true, beq_self_eq_true, if_true, if_false, rD h1 (show (([] ++ [(4:Int)]) ++ kF c.Head).length ≤ 1000 by simp; omega), Option.bind_some]
      rw [rD h2 (by simp; omega)]
      simp only [Option.bind_some]
      rw [vy (by simp; omega)]
      simp [py, sG, k]
def Fv (l : List Int) : ByteArray := ⟨(oY l).toArray⟩
theorem B9 (l : List Int) : (Fv l).data.toList = oY l := rfl
theorem wA (s : ByteArray) : Fv (lr s) = s := By (by rw [B9]; simp [oY, lr, Function.comp_def])
def zd (c : Cred) : List UInt8 := oY (if eE c then py c else [])
def An (a b : Cred) : Bool := Op.bytesLess (zd a) (zd b)
theorem uF (a b : Cred) : ∃ c, kg a b = some c ∧ (c < 0 ↔ An a b = true) := by
  unfold kg
  rw [qM, qM]
  exact ⟨_, rfl, uz _ _⟩
theorem EI {a b : Int} (ha : 0 ≤ a ∧ a < 256) (hb : 0 ≤ b ∧ b < 256) (h : a.toNat.toUInt8 = b.toNat.toUInt8) : a = b := by
  have := congrArg UInt8.toNat h
  simp only [UInt8.toNat_ofNat', Nat.toUInt8] at this
  simp at this
  omega
theorem zD : ∀ {a b : List Int}, (∀ x ∈ a, 0 ≤ x ∧ x < 256) → (∀ x ∈ b, 0 ≤ x ∧ x < 256) → oY a = oY b → a = b
  | [], [], _, _, _ => rfl
  | [], _ :: _, _, _, h => by simp [oY] at h
  | _ :: _, [], _, _, h => by simp [oY] at h
  | x :: a, y :: b, ha, hb, h => by
    simp only [oY, List.map_cons, List.cons.injEq] at h
    rw [EI (ha x (by simp)) (hb y (by simp)) h.1, zD (fun z hz => ha z (by simp [hz])) (fun z hz => hb z (by simp [hz])) h.2]
theorem pt {s : ByteArray} (h : jY s = true) : ∀ x ∈ od s, 0 ≤ x ∧ x < 256 := by
  have h1 := kS h
  intro x hx
  rcases List.mem_cons.1 hx with rfl | hx
  · omega
  · simp only [lr, List.mem_map] at hx
    obtain ⟨b, _, rfl⟩ := hx
    have := UInt8.toNat_lt b
    omega
theorem nZ {r : Role} (h : fL r = true) : ∀ x ∈ kF r, 0 ≤ x ∧ x < 256 := by
  simp only [fL, Bool.and_eq_true] at h
  intro x hx
  rcases List.mem_append.1 hx with hx | hx
  · exact pt h.1 x hx
  · exact pt h.2 x hx
theorem uM {c : Cred} (h : eE c = true) : ∀ x ∈ py c, 0 ≤ x ∧ x < 256 := by
  intro x hx
  rcases List.mem_cons.1 hx with rfl | hx
  · rcases ky h with h | h | h | h <;> omega
  · rcases List.mem_append.1 hx with hx | hx
    · exact nZ (uU h) x hx
    · unfold sG at hx
      rcases ky h with ⟨k, h1, _⟩ | ⟨k, h1, _⟩ | ⟨k, h1, h2, _⟩ | ⟨k, h1, h2, _⟩
      · rw [if_pos k] at hx; exact pt h1 x hx
      · rw [if_neg (by omega), if_pos k] at hx; exact nZ h1 x hx
      · rw [if_neg (by omega), if_neg (by omega), if_pos k] at hx
        rcases List.mem_append.1 hx with hx | hx
        · exact nZ h1 x hx
        · exact pt h2 x hx
      · rw [if_neg (by omega), if_neg (by omega), if_neg (by omega)] at hx
        rcases List.mem_append.1 hx with hx | hx
        · exact nZ h1 x hx
        · exact nZ h2 x hx
theorem AU {s t : ByteArray} (h : lr s = lr t) : s = t := by rw [← wA s, h, wA]
theorem qV {s t : ByteArray} {X Y : List Int} (h : od s ++ X = od t ++ Y) : s = t ∧ X = Y := by
  simp only [od, List.cons_append, List.cons.injEq] at h
  obtain ⟨h1, h2⟩ := h
  have hl : (lr s).length = (lr t).length := by rw [jg, jg]; omega
  have := List.append_inj h2 hl
  exact ⟨AU this.1, this.2⟩
theorem pE {a b : Role} {X Y : List Int} (h : kF a ++ X = kF b ++ Y) : a = b ∧ X = Y := by
  simp only [kF, List.append_assoc] at h
  obtain ⟨h1, h2⟩ := qV h
  obtain ⟨h3, h4⟩ := qV h2
  exact ⟨by cases a; cases b; simp at h1 h3; simp [h1, h3], h4⟩
theorem Bz {a b : Cred} (ha : eE a = true) (hb : eE b = true) (h : py a = py b) : a = b := by
  simp only [py, List.cons.injEq] at h
  obtain ⟨hk, hq⟩ := h
  obtain ⟨hh, h⟩ := pE hq
  clear hq
  have e0 : ∀ {X Y : List Int}, X = Y → X ++ [] = Y ++ [] := fun h => by rw [h]
  unfold sG at h
  obtain ⟨ka, ha1, wa, ba, ca, wa2⟩ := a
  obtain ⟨kb, hb1, wb, bb, cb, wb2⟩ := b
  simp only at hk hh h
  subst hk hh
  rcases ky ha with ⟨k, h1, h2, h3, h4⟩ | ⟨k, h1, h2, h3, h4⟩ | ⟨k, h1, h2, h3, h4, h5⟩ | ⟨k, h1, h2, h3, h4, h5⟩ <;>
  rcases ky hb with ⟨k', g1, g2, g3, g4⟩ | ⟨k', g1, g2, g3, g4⟩ | ⟨k', g1, g2, g3, g4, g5⟩ | ⟨k', g1, g2, g3, g4, g5⟩ <;> simp only at k k' h2 h3 h4 g2 g3 g4 <;> (try omega)
  · rw [if_pos k, if_pos k] at h
    simp [qV (e0 h), h2, h3, h4, g2, g3, g4]
  · rw [if_neg (by omega), if_pos k, if_neg (by omega), if_pos k] at h
    simp [pE (e0 h), h2, h3, h4, g2, g3, g4]
  · rw [if_neg (by omega), if_neg (by omega), if_pos k, if_neg (by omega), if_neg (by omega), if_pos k] at h
    obtain ⟨q1, q2⟩ := pE h
    simp only at h5 g5
    simp [q1, qV (e0 q2), h4, h5, g4, g5]
  · rw [if_neg (by omega), if_neg (by omega), if_neg (by omega), if_neg (by omega), if_neg (by omega), if_neg (by omega)] at h
    obtain ⟨q1, q2⟩ := pE h
    simp only at h5 g5
    simp [q1, pE (e0 q2), h4, h5, g4, g5]
theorem AH : wO (fun a b => An a b = true) (fun c => eE c = true) := by
  refine ⟨fun x _ h => ?_, fun x y z _ _ _ h1 h2 => sI _ _ _ h1 h2, fun x y hx hy => ?_⟩
  · unfold An at h; rw [qI] at h; cases h
  · rcases vA (zd x) (zd y) with h | h | h
    · exact .inl h
    · refine .inr (.inl (Bz hx hy ?_))
      unfold zd at h
      rw [if_pos hx, if_pos hy] at h
      exact zD (uM hx) (uM hy) h
    · exact .inr (.inr h)
end Go.Proofs.YtmlncblocfcmiaaGreat
namespace Go.Proofs.YtmlncblocfcmiaaGreat
open Go.RowKit
section
variable {α : Type} {R : α → Bool} {lt : α → α → Bool}
theorem zz (H : wO (fun a b => lt a b = true) (fun x => R x = true)) {l : List α} (hR : ∀ x ∈ l, R x = true) (h : l.Pairwise (fun a b => lt a b = true)) : l.Nodup := by
  refine h.imp_of_mem (fun {a b} ha hb hab e => ?_)
  subst e
  exact H.irrefl a (hR a ha) hab
theorem iz : ∀ {l m : List α}, l.Nodup → (∀ x ∈ l, x ∈ m) → l.length ≤ m.length
  | [], _, _, _ => by simp
  | x :: l, m, hn, hs => by
    obtain ⟨A, B, rfl⟩ := List.append_of_mem (hs x (by simp))
    have hn' := List.nodup_cons.1 hn
    have := iz (l := l) (m := A ++ B) hn'.2 (fun y hy => by
      have := hs y (List.mem_cons_of_mem _ hy)
      simp only [List.mem_append, List.mem_cons] at this ⊢
      rcases this with h | h | h
      · exact .inl h
      · subst h; exact absurd hy hn'.1
      · exact .inr h)
    simp at this ⊢; omega
end
abbrev Eb (l s : List Cred) := pY (fun a b => An a b = true) (fun x => eE x = true) l s
end Go.Proofs.YtmlncblocfcmiaaGreat
namespace Go.Proofs.YtmlncblocfcmiaaGreat
open Go.RowKit
def zC : Cred := ⟨0, ⟨zS, zS⟩, zS, ⟨zS, zS⟩, ⟨zS, zS⟩, zS⟩
theorem Am (f : Cred → Option Bool) : ∀ (n : Nat) (l : List Cred) (i j : Int), eV f n l i j = sD f zC n l i j
  | 0, _, _, _ => rfl
  | n + 1, l, i, j => by
    rw [eV, sD]
    simp only [Am f n]
    rfl
theorem Aa (f : Cred → Option Bool) : ∀ (l : List Cred) (i : Nat), eY f l i = pi f l i
  | [], _ => rfl
  | x :: l, i => by rw [eY, pi]; simp only [Aa f l]
theorem vq (f : Cred → Option Bool) (l : List Cred) : fR l f = wY f zC l := by
  unfold fR wY jU
  simp only [Aa, Am]
theorem yz (i : Int) : ∀ (n : Nat) (l : List Cred) (k j : Int), fM i n l k j = qC bG i n l k j
  | 0, _, _, _ => rfl
  | n + 1, l, k, j => by
    rw [fM, qC]
    simp only [yz i n]
theorem yH (l : List Cred) : ∀ (n : Nat) (i : Int), fQ l n i = rl bG zC l n i
  | 0, _ => rfl
  | n + 1, i => by
    rw [fQ, rl]
    simp only [yH l n, yz]
    rfl
theorem Cy (l : List Cred) : jz l = yO bG zC l := by
  unfold jz yO
  simp only [yH]
theorem zh {l : List Cred} (hl : l.length ≤ 1000000000) : ic l = some l := by
  unfold ic
  rw [gX (by simp; omega) (by simp; omega)]
  simp
theorem Em (l : List Cred) (hl : l.length ≤ 1000000000) : ∃ s, lW l = some s ∧ Eb l s := by
  unfold lW
  rw [zh hl]
  simp only [Option.bind_some]
  rw [vq, sn _ (fun x => !eE x) zC l (by omega) (fun x _ => by simp [mV, nl])]
  simp only [Option.bind_some, Bool.not_not]
  have hf : (l.filter fun x => eE x).length ≤ l.length := List.length_filter_le _ _
  obtain ⟨s, h1, h2, h3⟩ := zx (eq := bG) (lt := fun a b => An a b = true) (P := fun x => eE x = true) (cf := fun x => kg x.1 x.2) (l := l.filter fun x => eE x) (fun x y => cL) AH (fun x hx => (List.mem_filter.1 hx).2) (by omega) (fun x y _ _ => uF x y)
  rw [h1]
  simp only [Option.bind_some]
  rw [Cy, zg _ _ _ (by omega)]
  refine ⟨_, rfl, h3.1, fun x => ?_⟩
  rw [h3.2]
  simp
end Go.Proofs.YtmlncblocfcmiaaGreat
namespace Go.Proofs.YtmlncblocfcmiaaGreat
open Go.RowKit
def tt {κ : Type} (ks : List κ) : List (κ × Bool) := ks.map fun k => (k, true)
def gE {κ : Type} (beq : κ → κ → Bool) (ks : List κ) (k : κ) : Bool := ks.any fun x => beq k x
def ins {κ : Type} (beq : κ → κ → Bool) (ks : List κ) (k : κ) : List κ := if gE beq ks k then ks else ks ++ [k]
section
variable {κ : Type} {beq : κ → κ → Bool}
theorem iB (hb : ∀ {x y}, beq x y = true ↔ x = y) (ks : List κ) (k : κ) : gE beq ks k = true ↔ k ∈ ks := by
  simp [gE, List.any_eq_true, hb]
theorem Bw (ks : List κ) : (tt ks).length = ks.length := by simp [tt]
theorem B6 (ks : List κ) (k : κ) : pw beq (tt ks) k false = gE beq ks k := by
  unfold pw cG gE tt
  induction ks with
  | nil => rfl
  | cons x xs ih =>
    simp only [List.map_cons, List.find?_cons, List.any_cons]
    cases h : beq k x with
    | true => simp
    | false => simpa using ih
theorem DG (hb : ∀ {x y}, beq x y = true ↔ x = y) (ks : List κ) (k : κ) : gG beq (tt ks) k true = tt (ins beq ks k) := by
  unfold gG ins
  have hf : (tt ks).findIdx? (fun p => beq k p.1) = ks.findIdx? (fun x => beq k x) := by
    unfold tt; rw [List.findIdx?_map]; rfl
  rw [hf]
  cases h : ks.findIdx? (fun x => beq k x) with
  | none =>
    rw [List.findIdx?_eq_none_iff] at h
    rw [if_neg]
    · simp [tt]
    · intro hh
      unfold gE at hh
      rw [List.any_eq_true] at hh
      obtain ⟨x, hx, hx2⟩ := hh
      rw [h x hx] at hx2
      cases hx2
  | some i =>
    rw [List.findIdx?_eq_some_iff_getElem] at h
    obtain ⟨hi, h1, _⟩ := h
    have e := hb.1 h1
    rw [if_pos]
    · simp only [tt]
      apply List.ext_getElem?
      intro j
      rw [List.getElem?_set]
      split
      · rename_i hij
        subst hij
        simp [hi, e]
      · rfl
    · unfold gE
      exact List.any_eq_true.2 ⟨ks[i], List.getElem_mem hi, h1⟩
end
section
variable {all : List Cred} {wants : List Role} {T : List Role} {W : List ByteArray} {R : List Cred}
def gP (c : Cred) : List Role := if c.Kind = 1 then [] else if c.Kind = 4 then [c.B, c.C] else [c.B]
end
theorem rH (x : Cred) : ∀ l : List Cred, kX l x = some (gE bG l x)
  | [] => rfl
  | y :: l => by
    have ih := rH x l
    unfold kX at ih ⊢
    rw [ld, ih]
    have : bG y x = bG x y := by rw [Bool.eq_iff_iff, cL, cL]; exact eq_comm
    rw [this]
    simp only [gE, List.any_cons]
    cases bG x y <;> simp
end Go.Proofs.YtmlncblocfcmiaaGreat
namespace Go.Proofs.YtmlncblocfcmiaaGreat
open Go.RowKit
theorem EA {c : Cred} (h : eE c = true) : ny c = some (c.Head :: gP c) := by
  unfold ny
  rw [nl, h]
  simp only [Option.bind_some, Bool.not_true, Bool.false_eq_true, if_false]
  have hkk : c.Kind = 1 ∨ c.Kind = 2 ∨ c.Kind = 3 ∨ c.Kind = 4 := by rcases ky h with h | h | h | h <;> simp [h.1]
  rcases hkk with k | k | k | k
  · simp [k, gP]
  · rw [if_pos (by simp [k]), gX (by simp) (by simp)]
    simp [k, gP]
  · rw [if_pos (by simp [k]), gX (by simp) (by simp)]
    simp [k, gP]
  · rw [if_pos (by simp [k]), gX (by simp) (by simp)]
    simp only [Option.bind_some]
    rw [if_pos (by simp [k]), gX (by simp) (by simp)]
    simp [k, gP]
theorem pY.congr {α : Type} {lt : α → α → Prop} {P : α → Prop} {l m s : List α} (h : pY lt P l s) (hm : ∀ x, x ∈ l ↔ x ∈ m) : pY lt P m s := ⟨h.1, fun x => by rw [h.2, hm]⟩
theorem DY {κ : Type} (ks : List κ) : (tt ks).map (·.1) = ks := by simp [tt, Function.comp_def]
end Go.Proofs.YtmlncblocfcmiaaGreat
namespace Go.Proofs.YtmlncblocfcmiaaGreat
open Go.RowKit
theorem yJ : ∀ (l : List Cred) (n : Int), 0 ≤ n → n ≤ 4000000000000000000 → (∀ c ∈ l, c.Head.Owner.size + c.Head.Word.size + c.Who.size + c.B.Owner.size + c.B.Word.size + c.C.Owner.size + c.C.Word.size + c.Word2.size ≤ 1000000000) → n + l.length * 1000000020 ≤ 4000000000000000000 →
    ∃ r, jk l n = some r ∧ n + 20 * l.length ≤ r
  | [], n, _, _, _, _ => ⟨n, rfl, by simp⟩
  | c :: l, n, h0, h1, hc, hb => by
    have h := hc c (by simp)
    simp only [List.length_cons] at hb ⊢
    rw [jk]
    rw [eK (x := 20 + (c.Head.Owner.size : Int)) (by omega) (by omega), eK (x := 20 + (c.Head.Owner.size : Int) + (c.Head.Word.size : Int)) (by omega) (by omega), eK (x := 20 + (c.Head.Owner.size : Int) + (c.Head.Word.size : Int) + (c.Who.size : Int)) (by omega) (by omega), eK (x := 20 + (c.Head.Owner.size : Int) + (c.Head.Word.size : Int) + (c.Who.size : Int) + (c.B.Owner.size : Int)) (by omega) (by omega), eK (x := 20 + (c.Head.Owner.size : Int) + (c.Head.Word.size : Int) + (c.Who.size : Int) + (c.B.Owner.size : Int) + (c.B.Word.size : Int)) (by omega) (by omega), eK (x := 20 + (c.Head.Owner.size : Int) + (c.Head.Word.size : Int) + (c.Who.size : Int) + (c.B.Owner.size : Int) + (c.B.Word.size : Int) + (c.C.Owner.size : Int)) (by omega) (by omega), eK (x := 20 + (c.Head.Owner.size : Int) + (c.Head.Word.size : Int) + (c.Who.size : Int) + (c.B.Owner.size : Int) + (c.B.Word.size : Int) + (c.C.Owner.size : Int) + (c.C.Word.size : Int)) (by omega) (by omega), eK (x := 20 + (c.Head.Owner.size : Int) + (c.Head.Word.size : Int) + (c.Who.size : Int) + (c.B.Owner.size : Int) + (c.B.Word.size : Int) + (c.C.Owner.size : Int) + (c.C.Word.size : Int) + (c.Word2.size : Int)) (by omega) (by omega), eK (by omega) (by omega)]
    obtain ⟨r, e1, e2⟩ := yJ l (n + (20 + (c.Head.Owner.size : Int) + (c.Head.Word.size : Int) + (c.Who.size : Int) + (c.B.Owner.size : Int) + (c.B.Word.size : Int) + (c.C.Owner.size : Int) + (c.C.Word.size : Int) + (c.Word2.size : Int))) (by omega) (by omega) (fun d hd => hc d (by simp [hd])) (by omega)
    exact ⟨r, e1, by omega⟩
def pW (c : Cred) : Nat := c.Head.Owner.size + c.Head.Word.size + c.Who.size + c.B.Owner.size + c.B.Word.size + c.C.Owner.size + c.C.Word.size + c.Word2.size
theorem yw (l : List Cred) (hl : l.length ≤ 100000000) (hc : ∀ c ∈ l, pW c ≤ 1000000000) : ∃ r, na l = some r := by
  obtain ⟨r, h, _⟩ := yJ l 0 (by omega) (by omega) hc (by omega)
  exact ⟨r, h⟩
end Go.Proofs.YtmlncblocfcmiaaGreat
namespace Go.Proofs.YtmlncblocfcmiaaGreat
open Go.RowKit
section
variable {κ γ : Type} {beq : κ → κ → Bool}
theorem jK (hb : ∀ {x y}, beq x y = true ↔ x = y) {A B : List (κ × γ)} {k : κ} {x : γ} (hA : ∀ p ∈ A, p.1 ≠ k) : cG beq (A ++ (k, x) :: B) k = some x := by
  unfold cG
  rw [List.find?_append]
  have : A.find? (fun p => beq k p.1) = none := List.find?_eq_none.2 (fun p hp h => hA p hp (hb.1 h).symm)
  rw [this]
  simp [hb.2 (rfl : k = k)]
theorem nf (hb : ∀ {x y}, beq x y = true ↔ x = y) {l : List (κ × γ)} {k : κ} (h : ∀ p ∈ l, p.1 ≠ k) : cG beq l k = none := by
  unfold cG
  rw [List.find?_eq_none.2 (fun p hp hh => h p hp (hb.1 hh).symm)]
  rfl
theorem nO (hb : ∀ {x y}, beq x y = true ↔ x = y) {A B : List (κ × γ)} {k : κ} {x y : γ} (hA : ∀ p ∈ A, p.1 ≠ k) : gG beq (A ++ (k, x) :: B) k y = A ++ (k, y) :: B := by
  have h1 : (A ++ (k, x) :: B).findIdx? (fun p => beq k p.1) = some A.length := by
    rw [List.findIdx?_append, List.findIdx?_eq_none_iff.2 (fun p hp => by
      cases h : beq k p.1 with
      | false => rfl
      | true => exact absurd (hb.1 h).symm (hA p hp))]
    simp [List.findIdx?_cons, hb.2 (rfl : k = k)]
  rw [jI h1]
  simp
theorem rT (hb : ∀ {x y}, beq x y = true ↔ x = y) {l : List (κ × γ)} {k : κ} {y : γ} (h : ∀ p ∈ l, p.1 ≠ k) : gG beq l k y = l ++ [(k, y)] := by
  refine mI (List.findIdx?_eq_none_iff.2 (fun p hp => ?_)) y
  cases hh : beq k p.1 with
  | false => rfl
  | true => exact absurd (hb.1 hh).symm (h p hp)
theorem lV (k : κ) : ∀ (l : List (κ × γ)), (∀ p ∈ l, p.1 ≠ k) ∨ ∃ A x B, l = A ++ (k, x) :: B ∧ ∀ p ∈ A, p.1 ≠ k
  | [] => .inl (fun _ h => by cases h)
  | p :: l => by
    by_cases hp : p.1 = k
    · exact .inr ⟨[], p.2, l, by rw [← hp]; rfl, fun _ h => by cases h⟩
    · rcases lV k l with h | ⟨A, x, B, rfl, h⟩
      · exact .inl (fun q hq => by rcases List.mem_cons.1 hq with rfl | hq; exact hp; exact h q hq)
      · exact .inr ⟨p :: A, x, B, rfl, fun q hq => by rcases List.mem_cons.1 hq with rfl | hq; exact hp; exact h q hq⟩
theorem vi (hb : ∀ {x y}, beq x y = true ↔ x = y) (A B : List (κ × γ)) (k : κ) : cG beq (A ++ B) k = (cG beq A k).or (cG beq B k) := by
  unfold cG
  rw [List.find?_append]
  cases A.find? (fun p => beq k p.1) <;> rfl
theorem qW (p : κ × γ) (l : List (κ × γ)) (k : κ) : cG beq (p :: l) k = if beq k p.1 = true then some p.2 else cG beq l k := by
  unfold cG
  rw [List.find?_cons]
  cases beq k p.1 <;> simp
theorem tN (hb : ∀ {x y}, beq x y = true ↔ x = y) (l : List (κ × γ)) (k k2 : κ) (y : γ) : cG beq (gG beq l k y) k2 = if beq k2 k = true then some y else cG beq l k2 := by
  rcases lV k l with h | ⟨A, x, B, rfl, h⟩
  · rw [rT hb h, vi hb, qW]
    by_cases hk : beq k2 k = true
    · have := hb.1 hk
      subst this
      rw [if_pos hk, if_pos hk, nf hb h]; rfl
    · rw [if_neg hk, if_neg hk]
      show (cG beq l k2).or none = _
      cases cG beq l k2 <;> rfl
  · rw [nO hb h, vi hb, qW, vi hb, qW]
    by_cases hk : beq k2 k = true
    · have := hb.1 hk
      subst this
      rw [if_pos hk, if_pos hk, nf hb h]; rfl
    · rw [if_neg hk, if_neg hk, if_neg hk]
end
abbrev iA := List (Role × List ByteArray)
def mm (T : iA) : List (Role × List (ByteArray × Bool)) := T.map fun p => (p.1, tt p.2)
def kf (T : iA) (r : Role) : List ByteArray := (cG bF T r).getD []
def FS (T : iA) : List aZ := T.flatMap fun p => p.2.map fun w => (⟨p.1, w⟩ : aZ)
def tP (T : iA) (r : Role) (w : ByteArray) : iA := gG bF T r (kf T r ++ [w])
theorem ui (A B : iA) : mm (A ++ B) = mm A ++ mm B := by simp [mm]
theorem pb {A : iA} {r : Role} (h : ∀ p ∈ A, p.1 ≠ r) : ∀ p ∈ mm A, p.1 ≠ r := by
  intro p hp
  simp only [mm, List.mem_map] at hp
  obtain ⟨q, hq, rfl⟩ := hp
  exact h q hq
theorem Dv (T : iA) (r : Role) : cG bF (mm T) r = (cG bF T r).map tt := by
  rcases lV r T with h | ⟨A, x, B, rfl, h⟩
  · rw [nf bA h, nf bA (pb h)]; rfl
  · rw [jK bA h, ui]
    exact jK bA (pb h)
theorem zW (T : iA) (r : Role) : (cG bF (mm T) r).getD [] = tt (kf T r) := by
  rw [Dv, kf]; cases cG bF T r <;> rfl
theorem vZ (T : iA) (r : Role) (w : ByteArray) : (FS (tP T r w)).Perm (FS T ++ [(⟨r, w⟩ : aZ)]) := by
  unfold tP kf
  rcases lV r T with h | ⟨A, x, B, rfl, h⟩
  · rw [rT bA h, nf bA h]
    simp [FS]
  · rw [nO bA h, jK bA h]
    simp only [FS, List.flatMap_append, List.flatMap_cons, Option.getD_some, List.map_append, List.map_cons, List.map_nil, List.append_assoc]
    refine List.Perm.append_left _ (List.Perm.append_left _ ?_)
    exact List.perm_append_comm
theorem CS {T : iA} (hk : (T.map (·.1)).Nodup) (r : Role) (w : ByteArray) : ((tP T r w).map (·.1)).Nodup := by
  unfold tP
  rcases lV r T with h | ⟨A, x, B, rfl, h⟩
  · rw [rT bA h]
    simp only [List.map_append, List.map_cons, List.map_nil]
    refine List.nodup_append.2 ⟨hk, by simp, fun a ha b hb e => ?_⟩
    simp at hb; subst hb; subst e
    obtain ⟨p, hp, e⟩ := List.mem_map.1 ha
    exact h p hp e
  · rw [nO bA h]
    simpa using hk
theorem qo {T : iA} (hk : (T.map (·.1)).Nodup) (f : aZ) : f ∈ FS T ↔ f.Who ∈ kf T f.Role := by
  simp only [FS, List.mem_flatMap, List.mem_map]
  constructor
  · rintro ⟨p, hp, w, hw, rfl⟩
    obtain ⟨A, B, rfl⟩ := List.append_of_mem hp
    have hA : ∀ q ∈ A, q.1 ≠ p.1 := fun q hq e => by
      rw [List.map_append, List.map_cons] at hk
      exact (List.nodup_append.1 hk).2.2 q.1 (List.mem_map.2 ⟨q, hq, rfl⟩) p.1 (by simp) e
    rw [kf, show p = (p.1, p.2) from rfl, jK bA hA]
    exact hw
  · intro h
    unfold kf at h
    rcases lV f.Role T with hn | ⟨A, x, B, rfl, hA⟩
    · rw [nf bA hn] at h; cases h
    · rw [jK bA hA] at h
      exact ⟨(f.Role, x), by simp, f.Who, h, rfl⟩
theorem zt {T : iA} (h : (FS T).Nodup) (r : Role) : (kf T r).Nodup := by
  unfold kf
  rcases lV r T with hn | ⟨A, x, B, rfl, hA⟩
  · rw [nf bA hn]; simp
  · rw [jK bA hA]
    simp only [FS, List.flatMap_append, List.flatMap_cons] at h
    have h1 := (List.nodup_append.1 (List.nodup_append.1 h).2.1).1
    simp only [List.Nodup, List.pairwise_map] at h1
    exact h1.imp (fun h e => h (by rw [e]))
inductive kG (C : List Cred) : aZ → Prop
  | mem (c) : c ∈ C → c.Kind = 1 → kG C ⟨c.Head, c.Who⟩
  | inc (c w) : c ∈ C → c.Kind = 2 → kG C ⟨c.B, w⟩ → kG C ⟨c.Head, w⟩
  | lnk (c b w) : c ∈ C → c.Kind = 3 → kG C ⟨c.B, b⟩ → kG C ⟨⟨b, c.Word2⟩, w⟩ → kG C ⟨c.Head, w⟩
  | both (c w) : c ∈ C → c.Kind = 4 → kG C ⟨c.B, w⟩ → kG C ⟨c.C, w⟩ → kG C ⟨c.Head, w⟩
theorem kG.mono {C C' : List Cred} (h : ∀ c ∈ C, c ∈ C') {f : aZ} (hf : kG C f) : kG C' f := by
  induction hf with
  | mem c hc hk => exact .mem c (h c hc) hk
  | inc c w hc hk _ ih => exact .inc c w (h c hc) hk ih
  | lnk c b w hc hk _ _ ih1 ih2 => exact .lnk c b w (h c hc) hk ih1 ih2
  | both c w hc hk _ _ ih1 ih2 => exact .both c w (h c hc) hk ih1 ih2
def uni (C : List Cred) : List aZ := (C.map (·.Head)).flatMap fun r => (C.map (·.Who)).map fun w => (⟨r, w⟩ : aZ)
theorem AI (C : List Cred) : (uni C).length = C.length * C.length := by
  unfold uni
  have : ∀ l : List Role, (l.flatMap fun r => (C.map (·.Who)).map fun w => (⟨r, w⟩ : aZ)).length = l.length * C.length := fun l => by
    induction l with
    | nil => simp
    | cons x l ih => simp only [List.flatMap_cons, List.length_append, ih, List.length_map, List.length_cons, Nat.add_mul]; omega
  rw [this, List.length_map]
theorem DZ {C : List Cred} {r : Role} {w : ByteArray} : (⟨r, w⟩ : aZ) ∈ uni C ↔ (∃ c ∈ C, c.Head = r) ∧ ∃ c ∈ C, c.Who = w := by
  unfold uni
  simp only [List.mem_flatMap, List.mem_map, aZ.mk.injEq]
  constructor
  · rintro ⟨r', ⟨c, hc, rfl⟩, w', ⟨c', hc', rfl⟩, rfl, rfl⟩; exact ⟨⟨c, hc, rfl⟩, c', hc', rfl⟩
  · rintro ⟨⟨c, hc, rfl⟩, c', hc', rfl⟩; exact ⟨_, ⟨c, hc, rfl⟩, _, ⟨c', hc', rfl⟩, rfl, rfl⟩
theorem kG.who {C : List Cred} {f : aZ} (h : kG C f) : ∃ c ∈ C, c.Kind = 1 ∧ c.Who = f.Who := by
  induction h with
  | mem c hc hk => exact ⟨c, hc, hk, rfl⟩
  | inc c w hc hk _ ih => exact ih
  | lnk c b w hc hk _ _ ih1 ih2 => exact ih2
  | both c w hc hk _ _ ih1 ih2 => exact ih1
theorem kG.head {C : List Cred} {f : aZ} (h : kG C f) : ∃ c ∈ C, c.Head = f.Role := by
  cases h with
  | mem c hc hk => exact ⟨c, hc, rfl⟩
  | inc c w hc hk _ => exact ⟨c, hc, rfl⟩
  | lnk c b w hc hk _ _ => exact ⟨c, hc, rfl⟩
  | both c w hc hk _ _ => exact ⟨c, hc, rfl⟩
theorem kG.uni {C : List Cred} {f : aZ} (h : kG C f) : f ∈ uni C := by
  obtain ⟨c, hc, _, hw⟩ := h.who
  exact DZ.2 ⟨h.head, c, hc, hw⟩
structure jm (C : List Cred) (T : iA) (td : List aZ) (n : Int) : Prop where
  keys : (T.map (·.1)).Nodup
  nd : (FS T).Nodup
  tnd : td.Nodup
  sub : ∀ f ∈ td, f ∈ FS T
  num : n = (FS T).length
  der : ∀ f ∈ FS T, kG C f
theorem jm.len {C : List Cred} {T : iA} {td : List aZ} {n : Int} (h : jm C T td n) : (FS T).length ≤ C.length * C.length := by
  rw [← AI]; exact iz h.nd (fun f hf => (h.der f hf).uni)
theorem jm.tlen {C : List Cred} {T : iA} {td : List aZ} {n : Int} (h : jm C T td n) : td.length ≤ (FS T).length := iz h.tnd h.sub
theorem jm.mono {C C' : List Cred} {T : iA} {td : List aZ} {n : Int} (h : jm C T td n) (hc : ∀ c ∈ C, c ∈ C') : jm C' T td n := ⟨h.keys, h.nd, h.tnd, h.sub, h.num, fun f hf => (h.der f hf).mono hc⟩
structure pF (T : iA) (td : List aZ) (T' : iA) (td' : List aZ) : Prop where
  old : ∀ f ∈ FS T, f ∈ FS T'
  todo : ∀ f ∈ td, f ∈ td'
  new : ∀ f ∈ FS T', f ∈ FS T ∨ f ∈ td'
  fresh : ∀ f ∈ td', f ∈ td ∨ f ∉ FS T
theorem pF.refl (T : iA) (td : List aZ) : pF T td T td := ⟨fun _ h => h, fun _ h => h, fun _ h => .inl h, fun _ h => .inl h⟩
theorem pF.trans {T T' T'' : iA} {td td' td'' : List aZ} (h : pF T td T' td') (k : pF T' td' T'' td'') : pF T td T'' td'' :=
  ⟨fun f hf => k.old f (h.old f hf), fun f hf => k.todo f (h.todo f hf), fun f hf => by
    rcases k.new f hf with h1 | h1
    · rcases h.new f h1 with h2 | h2
      · exact .inl h2
      · exact .inr (k.todo f h2)
    · exact .inr h1, fun f hf => by
    rcases k.fresh f hf with h1 | h1
    · exact h.fresh f h1
    · exact .inr (fun h2 => h1 (h.old f h2))⟩
theorem wd {α : Type} (p : α → Bool) : ∀ l : List α, (l.filter p).length + (l.filter fun x => !p x).length = l.length
  | [] => rfl
  | x :: l => by
    have := wd p l
    cases h : p x <;> simp [h] <;> omega
theorem jm.cnt {C C' : List Cred} {T T' : iA} {td td' : List aZ} {n n' : Int} (g' : jm C' T' td' n') (g : jm C T td n) (x : pF T td T' td') : td'.length + (FS T).length ≤ td.length + (FS T').length := by
  classical
  have h1 : (td'.filter fun f => decide (f ∈ FS T)).length ≤ td.length := iz (g'.tnd.filter _) (fun f hf => by
    have := List.mem_filter.1 hf
    rcases x.fresh f this.1 with h | h
    · exact h
    · exact absurd (by simpa using this.2) h)
  have h2 : (FS T ++ td'.filter fun f => !decide (f ∈ FS T)).length ≤ (FS T').length := iz (List.nodup_append.2 ⟨g.nd, g'.tnd.filter _, fun a ha b hb e => by
    subst e
    have := (List.mem_filter.1 hb).2
    simp [ha] at this⟩) (fun f hf => by
    rcases List.mem_append.1 hf with h | h
    · exact x.old f h
    · exact g'.sub f (List.mem_filter.1 h).1)
  have h3 : (td'.filter fun f => decide (f ∈ FS T)).length + (td'.filter fun f => !decide (f ∈ FS T)).length = td'.length := by
    exact wd (fun f => decide (f ∈ FS T)) td'
  rw [List.length_append] at h2
  omega
def rj (C : List Cred) (T : iA) (td : List aZ) (res : Option (List (Role × List (ByteArray × Bool)) × List aZ × Int)) (Q : iA → Prop) : Prop :=
  ∃ T' td' n', res = some (mm T', td', n') ∧ jm C T' td' n' ∧ pF T td T' td' ∧ Q T'
theorem rj.mono {C : List Cred} {T : iA} {td : List aZ} {res : Option (List (Role × List (ByteArray × Bool)) × List aZ × Int)} {Q Q' : iA → Prop} (h : rj C T td res Q) (hq : ∀ T', (∀ f ∈ FS T, f ∈ FS T') → Q T' → Q' T') : rj C T td res Q' := by
  obtain ⟨T', td', n', h1, h2, h3, h4⟩ := h
  exact ⟨T', td', n', h1, h2, h3, hq T' h3.old h4⟩
def lC (C : List Cred) : Prop := C.length ≤ 1000000
theorem lC.sq {C : List Cred} (h : lC C) : C.length * C.length ≤ 1000000000000 := Nat.mul_le_mul h h
theorem kP {T : iA} (hk : (T.map (·.1)).Nodup) (r : Role) (w : ByteArray) : pw eT ((cG bF (mm T) r).getD []) w false = true ↔ (⟨r, w⟩ : aZ) ∈ FS T := by
  rw [zW, B6, iB fT, qo hk]
theorem rr {C : List Cred} (hC : lC C) {T : iA} {td : List aZ} {n : Int} (h : jm C T td n) (cs : List Cred) (us : List (Role × List Cred)) (ws : List (ByteArray × List Cred)) {r : Role} {w : ByteArray} (hd : kG C ⟨r, w⟩) :
    rj C T td (fE (mm T) cs us ws td n r w) (fun T' => (⟨r, w⟩ : aZ) ∈ FS T') := by
  unfold fE
  have hsq := hC.sq
  have hl := h.len
  have htl := h.tlen
  by_cases hin : (⟨r, w⟩ : aZ) ∈ FS T
  · rw [if_pos ((kP h.keys r w).2 hin)]
    exact ⟨T, td, n, rfl, h, pF.refl _ _, hin⟩
  · rw [if_neg (fun hh => hin ((kP h.keys r w).1 hh))]
    have hg : jm C (tP T r w) (td ++ [⟨r, w⟩]) (n + 1) := by
      have hp := vZ T r w
      refine ⟨CS h.keys r w, (hp.nodup_iff).2 (List.nodup_append.2 ⟨h.nd, by simp, fun a ha b hb e => ?_⟩), List.nodup_append.2 ⟨h.tnd, by simp, fun a ha b hb e => ?_⟩, fun f hf => hp.mem_iff.2 ?_, ?_, fun f hf => ?_⟩
      · simp at hb; subst hb; subst e; exact hin ha
      · simp at hb; subst hb; subst e; exact hin (h.sub _ ha)
      · rcases List.mem_append.1 hf with hf | hf
        · exact List.mem_append_left _ (h.sub f hf)
        · exact List.mem_append_right _ hf
      · rw [hp.length_eq, h.num]; simp
      · rcases List.mem_append.1 (hp.mem_iff.1 hf) with hf | hf
        · exact h.der f hf
        · simp at hf; subst hf; exact hd
    have hst : ((if (cG bF (mm T) r).isNone = true then ((vm bF (mm T) r []).bind fun l => some l) else some (mm T)) : Option _).bind (fun l => (vj bF eT l r w true)) = some (mm (tP T r w)) := by
      unfold tP kf
      rcases lV r T with hn | ⟨A, x, B, rfl, hA⟩
      · have hn' := nf bA (pb hn)
        rw [hn', nf bA hn, rT bA hn, ui]
        simp only [Option.isNone_none, if_true, vm, hn', Option.bind_some]
        rw [rT bA (pb hn)]
        unfold vj
        rw [jK bA (pb hn)]
        simp only [Option.map_some]
        rw [nO bA (pb hn)]
        rfl
      · have hA' := pb hA
        have hs : cG bF (mm (A ++ (r, x) :: B)) r = some (tt x) := by rw [ui]; exact jK bA hA'
        rw [hs, jK bA hA, nO bA hA]
        simp only [Option.isNone_some, Bool.false_eq_true, if_false, Option.bind_some, vj, hs, Option.map_some, Option.getD_some]
        have hx : w ∉ x := fun hw => hin (by
          rw [qo h.keys, kf, jK bA hA]; exact hw)
        rw [DG fT]
        rw [show ins eT x w = x ++ [w] from by unfold ins; rw [if_neg (fun hh => hx ((iB fT x w).1 hh))]]
        rw [ui, show mm ((r, x) :: B) = (r, tt x) :: mm B from rfl, nO bA hA', ui]
        rfl
    refine ⟨tP T r w, td ++ [⟨r, w⟩], n + 1, ?_, hg, ⟨fun f hf => (vZ T r w).mem_iff.2 (List.mem_append_left _ hf), fun f hf => List.mem_append_left _ hf, fun f hf => ?_, fun f hf => ?_⟩, (vZ T r w).mem_iff.2 (by simp)⟩
    · have hst' := hst
      generalize ((if (cG bF (mm T) r).isNone = true then ((vm bF (mm T) r []).bind fun l => some l) else some (mm T)) : Option _) = o at hst'
      cases o with
      | none => cases hst'
      | some l =>
        simp only [Option.bind_some] at hst' ⊢
        rw [hst']
        simp only [Option.bind_some]
        rw [gX (by simp; omega) (by simp; omega)]
        simp only [Option.bind_some]
        rw [eK (by rw [h.num]; omega) (by rw [h.num]; omega)]
    · rcases List.mem_append.1 ((vZ T r w).mem_iff.1 hf) with h1 | h1
      · exact .inl h1
      · exact .inr (List.mem_append_right _ h1)
    · rcases List.mem_append.1 hf with h1 | h1
      · exact .inl h1
      · simp at h1; subst h1; exact .inr hin
end Go.Proofs.YtmlncblocfcmiaaGreat
namespace Go.Proofs.YtmlncblocfcmiaaGreat
open Go.RowKit
theorem pz (l : List ByteArray) (x : ByteArray) : x ∈ ms l ↔ x ∈ l := by unfold ms; simp
def nA (C : List Cred) : Prop := ∀ c ∈ C, eE c = true
theorem BX {c : Cred} (h : eE c = true) (hk : c.Kind = 1) : c.Who.size ≤ 16 := by
  rcases ky h with h | h | h | h
  · exact (kS h.2.1).2
  · exact absurd (hk.symm.trans h.1) (by decide)
  · exact absurd (hk.symm.trans h.1) (by decide)
  · exact absurd (hk.symm.trans h.1) (by decide)
theorem B0 {T : iA} (r : Role) (hk : (T.map (·.1)).Nodup) : (kf T r).length ≤ (FS T).length := by
  unfold kf
  rcases lV r T with hn | ⟨A, x, B, rfl, hA⟩
  · rw [nf bA hn]; simp
  · rw [jK bA hA]
    simp only [FS, List.flatMap_append, List.flatMap_cons, List.length_append, List.length_map, Option.getD_some]
    omega
theorem wm {C : List Cred} (hC : lC C) (hR : nA C) {T : iA} {td : List aZ} {n : Int} (h : jm C T td n) (cs : List Cred) (us : List (Role × List Cred)) (ws : List (ByteArray × List Cred)) (q : List aZ) (z : Int) (r : Role) :
    iv (mm T) cs us ws q z r = some (ms (kf T r)) := by
  unfold iv fI
  rw [zW]
  simp only [Option.bind_some, jA]
  have hl := B0 r h.keys
  have h2 := h.len
  have h3 := hC.sq
  unfold wr
  rw [DY, if_pos]
  refine ⟨zt h.nd r, fun p hp => ?_, by rw [Bw]; omega⟩
  simp only [tt, List.mem_map] at hp
  obtain ⟨w, hw, rfl⟩ := hp
  have hd := h.der ⟨r, w⟩ ((qo h.keys ⟨r, w⟩).2 hw)
  obtain ⟨c, hc, hk, e⟩ := hd.who
  have := BX (hR c hc) hk
  simp only at e ⊢
  rw [← e]
  unfold maxLen
  omega
theorem Bv {C : List Cred} (hC : lC C) (cs : List Cred) (us : List (Role × List Cred)) (ws : List (ByteArray × List Cred)) (head : Role) : ∀ (l : List ByteArray) {T : iA} {td : List aZ} {n : Int}, jm C T td n → (∀ w ∈ l, kG C ⟨head, w⟩) →
    rj C T td (gz cs us ws head l (mm T) td n) (fun T' => ∀ w ∈ l, (⟨head, w⟩ : aZ) ∈ FS T')
  | [], T, td, n, h, _ => ⟨T, td, n, rfl, h, pF.refl _ _, fun _ hw => by cases hw⟩
  | w :: l, T, td, n, h, hd => by
    rw [gz]
    obtain ⟨T1, td1, n1, e1, g1, x1, q1⟩ := rr hC h cs us ws (hd w (by simp))
    rw [e1]
    simp only [Option.bind_some]
    obtain ⟨T2, td2, n2, e2, g2, x2, q2⟩ := Bv hC cs us ws head l g1 (fun w hw => hd w (by simp [hw]))
    refine ⟨T2, td2, n2, e2, g2, x1.trans x2, fun v hv => ?_⟩
    rcases List.mem_cons.1 hv with rfl | hv
    · exact x2.old _ q1
    · exact q2 v hv
theorem EL {C : List Cred} (hC : lC C) (hR : nA C) {T : iA} {td : List aZ} {n : Int} (h : jm C T td n) (cs : List Cred) (us : List (Role × List Cred)) (ws : List (ByteArray × List Cred)) (r head : Role) (hd : ∀ w, (⟨r, w⟩ : aZ) ∈ FS T → kG C ⟨head, w⟩) :
    rj C T td (jX (mm T) cs us ws td n r head) (fun T' => ∀ w, (⟨r, w⟩ : aZ) ∈ FS T → (⟨head, w⟩ : aZ) ∈ FS T') := by
  unfold jX
  rw [wm hC hR h]
  simp only [Option.bind_some]
  refine (Bv hC cs us ws head _ h (fun w hw => hd w ((qo h.keys ⟨r, w⟩).2 ((pz _ _).1 hw)))).mono (fun T' _ hq w hw => hq w ((pz _ _).2 ((qo h.keys ⟨r, w⟩).1 hw)))
def ua (c : Cred) (f : aZ) (T T' : iA) : Prop :=
  (c.Kind = 2 → f.Role = c.B → (⟨c.Head, f.Who⟩ : aZ) ∈ FS T') ∧
  (c.Kind = 3 → f.Role = c.B → ∀ w, (⟨⟨f.Who, c.Word2⟩, w⟩ : aZ) ∈ FS T → (⟨c.Head, w⟩ : aZ) ∈ FS T') ∧
  (c.Kind = 4 → (⟨c.B, f.Who⟩ : aZ) ∈ FS T → (⟨c.C, f.Who⟩ : aZ) ∈ FS T → (⟨c.Head, f.Who⟩ : aZ) ∈ FS T')
theorem ua.mono {c : Cred} {f : aZ} {T T' T0 T1 : iA} (h : ua c f T T') (h0 : ∀ f ∈ FS T0, f ∈ FS T) (h1 : ∀ f ∈ FS T', f ∈ FS T1) : ua c f T0 T1 :=
  ⟨fun a b => h1 _ (h.1 a b), fun a b w hw => h1 _ (h.2.1 a b w (h0 _ hw)), fun a b d => h1 _ (h.2.2 a (h0 _ b) (h0 _ d))⟩
theorem Dk (x : Option (List (Role × List (ByteArray × Bool)) × List aZ × Int)) : (x.bind fun r => some (r.1, r.2.1, r.2.2)) = x := by cases x <;> rfl
theorem Bq {C : List Cred} (hC : lC C) (hR : nA C) {T : iA} {td : List aZ} {n : Int} (h : jm C T td n) (cs : List Cred) (us : List (Role × List Cred)) (ws : List (ByteArray × List Cred)) {c : Cred} (hc : c ∈ C) {f : aZ} (hf : f ∈ FS T) (hr : f.Role ∈ gP c) :
    rj C T td (iV (mm T) cs us ws td n c f) (ua c f T) := by
  unfold iV
  simp only [Dk, CO]
  by_cases h2 : c.Kind = 2
  · have hB : f.Role = c.B := by simpa [gP, h2] using hr
    rw [if_pos (by simp [h2])]
    have hd : kG C ⟨c.Head, f.Who⟩ := .inc c f.Who hc h2 (by rw [← hB]; exact h.der f hf)
    refine (rr hC h cs us ws hd).mono (fun T' _ hq => ⟨fun _ _ => hq, fun k => absurd (h2.symm.trans k) (by decide), fun k => absurd (h2.symm.trans k) (by decide)⟩)
  rw [if_neg (by simp [h2])]
  by_cases h3 : c.Kind = 3
  · have hB : f.Role = c.B := by simpa [gP, h3] using hr
    rw [if_pos (by simp [h3])]
    refine (EL hC hR h cs us ws ⟨f.Who, c.Word2⟩ c.Head (fun w hw => .lnk c f.Who w hc h3 (by rw [← hB]; exact h.der f hf) (h.der _ hw))).mono (fun T' _ hq => ⟨fun k => absurd k h2, fun _ _ w hw => hq w hw, fun k => absurd (h3.symm.trans k) (by decide)⟩)
  rw [if_neg (by simp [h3])]
  by_cases h4 : c.Kind = 4
  · rw [if_pos (by simp [h4])]
    simp only [Option.bind_some]
    by_cases hb : (⟨c.B, f.Who⟩ : aZ) ∈ FS T ∧ (⟨c.C, f.Who⟩ : aZ) ∈ FS T
    · rw [if_pos (by rw [Bool.and_eq_true, kP h.keys, kP h.keys]; exact hb)]
      have hd : kG C ⟨c.Head, f.Who⟩ := .both c f.Who hc h4 (h.der _ hb.1) (h.der _ hb.2)
      exact (rr hC h cs us ws hd).mono (fun T' _ hq => ⟨fun k => absurd k h2, fun k => absurd k h3, fun _ _ _ => hq⟩)
    · rw [if_neg (by rw [Bool.and_eq_true, kP h.keys, kP h.keys]; exact hb)]
      exact ⟨T, td, n, rfl, h, pF.refl _ _, fun k => absurd k h2, fun k => absurd k h3, fun _ x y => absurd ⟨x, y⟩ hb⟩
  · rw [if_neg (by simp [h4])]
    exact ⟨T, td, n, rfl, h, pF.refl _ _, fun k => absurd k h2, fun k => absurd k h3, fun k => absurd k h4⟩
theorem zc {C : List Cred} (hC : lC C) (hR : nA C) (cs : List Cred) (us : List (Role × List Cred)) (ws : List (ByteArray × List Cred)) {c : Cred} (hc : c ∈ C) (hr : c.B ∈ gP c) : ∀ (l : List ByteArray) {T : iA} {td : List aZ} {n : Int}, jm C T td n → (∀ w ∈ l, (⟨c.B, w⟩ : aZ) ∈ FS T) →
    rj C T td (fP cs us ws c l (mm T) td n) (fun T' => ∀ w ∈ l, ua c ⟨c.B, w⟩ T T')
  | [], T, td, n, h, _ => ⟨T, td, n, rfl, h, pF.refl _ _, fun _ hw => by cases hw⟩
  | w :: l, T, td, n, h, hm => by
    rw [fP]
    obtain ⟨T1, td1, n1, e1, g1, x1, q1⟩ := Bq hC hR h cs us ws hc (f := ⟨c.B, w⟩) (hm w (by simp)) hr
    rw [e1]
    simp only [Option.bind_some]
    obtain ⟨T2, td2, n2, e2, g2, x2, q2⟩ := zc hC hR cs us ws hc hr l g1 (fun w hw => x1.old _ (hm w (by simp [hw])))
    refine ⟨T2, td2, n2, e2, g2, x1.trans x2, fun v hv => ?_⟩
    rcases List.mem_cons.1 hv with rfl | hv
    · exact q1.mono (fun _ h => h) x2.old
    · exact (q2 v hv).mono x1.old (fun _ h => h)
def uH (c : Cred) (T : iA) (td : List aZ) : Prop :=
  (c.Kind = 1 → (⟨c.Head, c.Who⟩ : aZ) ∈ FS T) ∧
  (c.Kind = 2 → ∀ w, (⟨c.B, w⟩ : aZ) ∈ FS T → (⟨c.B, w⟩ : aZ) ∉ td → (⟨c.Head, w⟩ : aZ) ∈ FS T) ∧
  (c.Kind = 3 → ∀ b w, (⟨c.B, b⟩ : aZ) ∈ FS T → (⟨c.B, b⟩ : aZ) ∉ td → (⟨⟨b, c.Word2⟩, w⟩ : aZ) ∈ FS T → (⟨⟨b, c.Word2⟩, w⟩ : aZ) ∉ td → (⟨c.Head, w⟩ : aZ) ∈ FS T) ∧
  (c.Kind = 4 → ∀ w, (⟨c.B, w⟩ : aZ) ∈ FS T → (⟨c.B, w⟩ : aZ) ∉ td → (⟨c.C, w⟩ : aZ) ∈ FS T → (⟨c.C, w⟩ : aZ) ∉ td → (⟨c.Head, w⟩ : aZ) ∈ FS T)
theorem uH.ext {c : Cred} {T T' : iA} {td td' : List aZ} (h : uH c T td) (x : pF T td T' td') : uH c T' td' := by
  have old : ∀ f, f ∈ FS T' → f ∉ td' → f ∈ FS T ∧ f ∉ td := fun f hf hn => by
    rcases x.new f hf with h1 | h1
    · exact ⟨h1, fun h2 => hn (x.todo f h2)⟩
    · exact absurd h1 hn
  refine ⟨fun k => x.old _ (h.1 k), fun k w a b => ?_, fun k b w a1 a2 a3 a4 => ?_, fun k w a1 a2 a3 a4 => ?_⟩
  · exact x.old _ (h.2.1 k w (old _ a b).1 (old _ a b).2)
  · exact x.old _ (h.2.2.1 k b w (old _ a1 a2).1 (old _ a1 a2).2 (old _ a3 a4).1 (old _ a3 a4).2)
  · exact x.old _ (h.2.2.2 k w (old _ a1 a2).1 (old _ a1 a2).2 (old _ a3 a4).1 (old _ a3 a4).2)
theorem CV {C : List Cred} (hC : lC C) (hR : nA C) {T : iA} {td : List aZ} {n : Int} (h : jm C T td n) (cs : List Cred) (us : List (Role × List Cred)) (ws : List (ByteArray × List Cred)) {c : Cred} (hc : c ∈ C) :
    ∃ T' td' n', jt (mm T) cs us ws td n c = some (mm T', td', n') ∧ jm C T' td' n' ∧ pF T td T' td' ∧ uH c T' td' := by
  unfold jt
  simp only [Dk]
  by_cases h1 : c.Kind = 1
  · rw [if_pos (by simp [h1])]
    obtain ⟨T', td', n', e, g, x, q⟩ := rr hC h cs us ws (kG.mem c hc h1)
    exact ⟨T', td', n', e, g, x, fun _ => q, fun k => absurd (h1.symm.trans k) (by decide), fun k => absurd (h1.symm.trans k) (by decide), fun k => absurd (h1.symm.trans k) (by decide)⟩
  · rw [if_neg (by simp [h1]), wm hC hR h]
    simp only [Option.bind_some]
    have hr : c.B ∈ gP c := by unfold gP; rw [if_neg h1]; split <;> simp
    obtain ⟨T', td', n', e, g, x, q⟩ := zc hC hR cs us ws hc hr (ms (kf T c.B)) h (fun w hw => (qo h.keys ⟨c.B, w⟩).2 ((pz _ _).1 hw))
    have old : ∀ f, f ∈ FS T' → f ∉ td' → f ∈ FS T := fun f hf hn => by
      rcases x.new f hf with h1 | h1
      · exact h1
      · exact absurd h1 hn
    have qq : ∀ w, (⟨c.B, w⟩ : aZ) ∈ FS T → ua c ⟨c.B, w⟩ T T' := fun w hw => q w ((pz _ _).2 ((qo h.keys ⟨c.B, w⟩).1 hw))
    refine ⟨T', td', n', e, g, x, fun k => absurd k h1, fun k w a b => ?_, fun k b w a1 a2 a3 a4 => ?_, fun k w a1 a2 a3 a4 => ?_⟩
    · exact (qq w (old _ a b)).1 k rfl
    · exact (qq b (old _ a1 a2)).2.1 k rfl w (old _ a3 a4)
    · exact (qq w (old _ a1 a2)).2.2 k (old _ a1 a2) (old _ a3 a4)
structure tI (C : List Cred) (us : List (Role × List Cred)) (ws : List (ByteArray × List Cred)) : Prop where
  role : ∀ r c, c ∈ (cG bF us r).getD [] ↔ c ∈ C ∧ r ∈ gP c
  word : ∀ w c, c ∈ (cG eT ws w).getD [] ↔ c ∈ C ∧ c.Kind = 3 ∧ c.Word2 = w
  rlen : ∀ r, ((cG bF us r).getD []).length ≤ 2 * C.length
  wlen : ∀ w, ((cG eT ws w).getD []).length ≤ C.length
theorem xh {C : List Cred} (hC : lC C) (hR : nA C) (cs : List Cred) (us : List (Role × List Cred)) (ws : List (ByteArray × List Cred)) {f : aZ} : ∀ (l : List Cred) {T : iA} {td : List aZ} {n : Int}, jm C T td n → f ∈ FS T → (∀ c ∈ l, c ∈ C ∧ f.Role ∈ gP c) →
    rj C T td (fF cs us ws f l (mm T) td n) (fun T' => ∀ c ∈ l, ua c f T T')
  | [], T, td, n, h, _, _ => ⟨T, td, n, rfl, h, pF.refl _ _, fun _ hw => by cases hw⟩
  | c :: l, T, td, n, h, hf, hm => by
    rw [fF]
    obtain ⟨T1, td1, n1, e1, g1, x1, q1⟩ := Bq hC hR h cs us ws (hm c (by simp)).1 hf (hm c (by simp)).2
    rw [e1]
    simp only [Option.bind_some]
    obtain ⟨T2, td2, n2, e2, g2, x2, q2⟩ := xh hC hR cs us ws l g1 (x1.old _ hf) (fun c hc => hm c (by simp [hc]))
    refine ⟨T2, td2, n2, e2, g2, x1.trans x2, fun v hv => ?_⟩
    rcases List.mem_cons.1 hv with rfl | hv
    · exact q1.mono (fun _ h => h) x2.old
    · exact (q2 v hv).mono x1.old (fun _ h => h)
theorem tK {C : List Cred} (hC : lC C) (hR : nA C) (cs : List Cred) (us : List (Role × List Cred)) (ws : List (ByteArray × List Cred)) {f : aZ} : ∀ (l : List Cred) {T : iA} {td : List aZ} {n : Int}, jm C T td n → f ∈ FS T → (∀ c ∈ l, c ∈ C ∧ c.Kind = 3 ∧ c.Word2 = f.Role.Word) →
    rj C T td (eL f cs us ws l (mm T) td n) (fun T' => ∀ c ∈ l, (⟨c.B, f.Role.Owner⟩ : aZ) ∈ FS T → (⟨c.Head, f.Who⟩ : aZ) ∈ FS T')
  | [], T, td, n, h, _, _ => ⟨T, td, n, rfl, h, pF.refl _ _, fun _ hw => by cases hw⟩
  | c :: l, T, td, n, h, hf, hm => by
    rw [eL]
    have hk := hm c (by simp)
    by_cases hb : (⟨c.B, f.Role.Owner⟩ : aZ) ∈ FS T
    · rw [if_pos ((kP h.keys _ _).2 hb)]
      have hfe : f = ⟨⟨f.Role.Owner, c.Word2⟩, f.Who⟩ := by rw [hk.2.2]
      have hd : kG C ⟨c.Head, f.Who⟩ := .lnk c f.Role.Owner f.Who hk.1 hk.2.1 (h.der _ hb) (by rw [← hfe]; exact h.der f hf)
      obtain ⟨T1, td1, n1, e1, g1, x1, q1⟩ := rr hC h cs us ws hd
      rw [e1]
      simp only [Option.bind_some]
      obtain ⟨T2, td2, n2, e2, g2, x2, q2⟩ := tK hC hR cs us ws l g1 (x1.old _ hf) (fun c hc => hm c (by simp [hc]))
      refine ⟨T2, td2, n2, e2, g2, x1.trans x2, fun v hv hv2 => ?_⟩
      rcases List.mem_cons.1 hv with rfl | hv
      · exact x2.old _ q1
      · exact q2 v hv (x1.old _ hv2)
    · rw [if_neg (fun hh => hb ((kP h.keys _ _).1 hh))]
      obtain ⟨T2, td2, n2, e2, g2, x2, q2⟩ := tK hC hR cs us ws l h hf (fun c hc => hm c (by simp [hc]))
      refine ⟨T2, td2, n2, e2, g2, x2, fun v hv hv2 => ?_⟩
      rcases List.mem_cons.1 hv with rfl | hv
      · exact absurd hv2 hb
      · exact q2 v hv hv2
theorem xk {C : List Cred} (hC : lC C) (hR : nA C) {cs : List Cred} {us : List (Role × List Cred)} {ws : List (ByteArray × List Cred)} (hU : tI C us ws) : ∀ (m : Nat) {T : iA} {td : List aZ} {n : Int}, jm C T td n → (∀ c ∈ C, uH c T td) → C.length * C.length + td.length < m + (FS T).length →
    ∃ T' n', eO cs us ws m (mm T) td n = some (mm T', [], n') ∧ jm C T' [] n' ∧ (∀ c ∈ C, uH c T' []) ∧ (∀ f ∈ FS T, f ∈ FS T')
  | 0, T, td, n, h, _, hm => by have := h.len; omega
  | m + 1, T, [], n, h, hcl, hm => by
    rw [eO]
    exact ⟨T, n, rfl, h, hcl, fun _ h => h⟩
  | m + 1, T, f :: td, n, h, hcl, hm => by
    rw [eO]
    rw [if_pos (by simp)]
    have hf : f ∈ FS T := h.sub f (by simp)
    have hn := (List.nodup_cons.1 h.tnd)
    simp only [dS, Int.le_refl, if_true, Int.toNat_zero, List.getElem?_cons_zero, Option.bind_some]
    rw [show lE (decide ((0 : Nat) ≤ 1) && decide ((1 : Int) ≤ ((f :: td).length : Int))) = some () by simp [lE]; omega]
    simp only [Option.bind_some, show Int.toNat 1 = 1 from rfl, List.drop_one, List.tail_cons]
    have h0 : jm C T td n := ⟨h.keys, h.nd, hn.2, fun g hg => h.sub g (by simp [hg]), h.num, h.der⟩
    obtain ⟨T1, td1, n1, e1, g1, x1, q1⟩ := xh hC hR cs us ws ((cG bF us f.Role).getD []) h0 hf (fun c hc => (hU.role _ c).1 hc)
    rw [e1]
    simp only [Option.bind_some]
    obtain ⟨T2, td2, n2, e2, g2, x2, q2⟩ := tK hC hR cs us ws ((cG eT ws f.Role.Word).getD []) g1 (x1.old _ hf) (fun c hc => (hU.word _ c).1 hc)
    rw [e2]
    simp only [Option.bind_some]
    have x := x1.trans x2
    have old : ∀ g, g ∈ FS T2 → g ∉ td2 → g ∈ FS T ∧ (g = f ∨ g ∉ f :: td) := fun g hg hg2 => by
      rcases x.new g hg with h1 | h1
      · refine ⟨h1, ?_⟩
        by_cases he : g = f
        · exact .inl he
        · exact .inr (fun h2 => by
            rcases List.mem_cons.1 h2 with h2 | h2
            · exact he h2
            · exact hg2 (x.todo g h2))
      · exact absurd h1 hg2
    have d1 : ∀ c ∈ C, f.Role ∈ gP c → ua c f T T2 := fun c hc hr => (q1 c ((hU.role _ c).2 ⟨hc, hr⟩)).mono (fun _ h => h) x2.old
    have hcl2 : ∀ c ∈ C, uH c T2 td2 := fun c hc => by
      have k := hcl c hc
      refine ⟨fun hk => x.old _ (k.1 hk), fun hk w a b => ?_, fun hk b w a1 a2 a3 a4 => ?_, fun hk w a1 a2 a3 a4 => ?_⟩
      · obtain ⟨o1, o2⟩ := old _ a b
        rcases o2 with o2 | o2
        · subst o2; exact (d1 c hc (by simp [gP, hk])).1 hk rfl
        · exact x.old _ (k.2.1 hk w o1 o2)
      · obtain ⟨o1, o2⟩ := old _ a1 a2
        obtain ⟨p1, p2⟩ := old _ a3 a4
        rcases o2 with o2 | o2
        · subst o2; exact (d1 c hc (by simp [gP, hk])).2.1 hk rfl w p1
        · rcases p2 with p2 | p2
          · subst p2
            exact q2 c ((hU.word _ c).2 ⟨hc, hk, rfl⟩) (x1.old _ o1)
          · exact x.old _ (k.2.2.1 hk b w o1 o2 p1 p2)
      · obtain ⟨o1, o2⟩ := old _ a1 a2
        obtain ⟨p1, p2⟩ := old _ a3 a4
        rcases o2 with o2 | o2
        · subst o2; exact (d1 c hc (by simp [gP, hk])).2.2 hk o1 p1
        · rcases p2 with p2 | p2
          · subst p2; exact (d1 c hc (by simp [gP, hk])).2.2 hk o1 p1
          · exact x.old _ (k.2.2.2 hk w o1 o2 p1 p2)
    have hlen : td2.length + (FS T).length ≤ td.length + (FS T2).length := by
      exact g2.cnt h0 x
    obtain ⟨T3, n3, e3, g3, c3, o3⟩ := xk hC hR hU m g2 hcl2 (by simp only [List.length_cons] at hm; omega)
    exact ⟨T3, n3, e3, g3, c3, fun g hg => o3 g (x.old g hg)⟩
end Go.Proofs.YtmlncblocfcmiaaGreat
namespace Go.Proofs.YtmlncblocfcmiaaGreat
open Go.RowKit
theorem Ai (c : Cred) : ∀ (l : List Cred) (i : Nat), ∃ z, gy c l i = some z ∧ (z ≥ 0 ↔ c ∈ l)
  | [], i => ⟨-1, rfl, by simp⟩
  | x :: l, i => by
    rw [gy]
    by_cases h : bG c x = true
    · rw [if_pos h]
      exact ⟨_, rfl, by simp [cL.1 h]⟩
    · rw [if_neg h]
      obtain ⟨z, e, hz⟩ := Ai c l (i + 1)
      refine ⟨z, e, ?_⟩
      rw [hz, List.mem_cons]
      exact ⟨.inr, fun h2 => h2.resolve_left (fun e => h (cL.2 e))⟩
theorem yU (c : Cred) (l : List Cred) : ∃ b, jj l c = some b ∧ (b = true ↔ c ∈ l) := by
  obtain ⟨z, e, hz⟩ := Ai c l 0
  refine ⟨decide (z ≥ 0), ?_, by simpa using hz⟩
  unfold jj ja lD
  rw [e]
  rfl
theorem Ad (c : Cred) (ws : List (ByteArray × List Cred)) (C : List Cred) (hw : ∀ w, ((cG eT ws w).getD []).length ≤ 2000000) : ∀ (rs : List Role) (us : List (Role × List Cred)), (∀ r, ((cG bF us r).getD []).length + rs.length ≤ 4000000) →
    ∃ us' ws', eZ c ws C rs us = some (C, us', ws') ∧ (∀ r x, x ∈ (cG bF us' r).getD [] ↔ x ∈ (cG bF us r).getD [] ∨ (x = c ∧ r ∈ rs)) ∧
      (∀ w x, x ∈ (cG eT ws' w).getD [] ↔ x ∈ (cG eT ws w).getD [] ∨ (x = c ∧ c.Kind = 3 ∧ w = c.Word2)) ∧ (∀ r, ((cG bF us' r).getD []).length ≤ ((cG bF us r).getD []).length + rs.length) ∧
      (∀ w, ((cG eT ws' w).getD []).length ≤ ((cG eT ws w).getD []).length + 1)
  | [], us, _ => by
    rw [eZ]
    by_cases h3 : c.Kind = 3
    · rw [if_pos (by simp [h3])]
      have h := hw c.Word2
      rw [gX (by simp; omega) (by simp; omega)]
      simp only [Option.bind_some]
      refine ⟨us, _, rfl, by simp, fun w x => ?_, by simp, fun w => ?_⟩
      · rw [tN fT]
        by_cases hk : eT w c.Word2 = true
        · rw [if_pos hk, fT.1 hk]; simp [h3]
        · rw [if_neg hk]
          have : w ≠ c.Word2 := fun e => hk (fT.2 e)
          simp [this]
      · rw [tN fT]
        by_cases hk : eT w c.Word2 = true
        · rw [if_pos hk, fT.1 hk]; simp
        · rw [if_neg hk]; exact Nat.le_succ _
    · rw [if_neg (by simp [h3])]
      exact ⟨us, ws, rfl, by simp, by simp [h3], by simp, by simp⟩
  | r0 :: rs, us, hl => by
    rw [eZ]
    have h := hl r0
    simp only [List.length_cons] at h
    rw [gX (by simp; omega) (by simp; omega)]
    simp only [Option.bind_some]
    have hget : ∀ r, (cG bF (gG bF us r0 (((cG bF us r0).getD []) ++ [c])) r).getD [] = if bF r r0 = true then ((cG bF us r0).getD []) ++ [c] else (cG bF us r).getD [] := fun r => by
      rw [tN bA]; by_cases hk : bF r r0 = true
      · rw [if_pos hk, if_pos hk]; rfl
      · rw [if_neg hk, if_neg hk]
    obtain ⟨us', ws', e, a1, a2, a3, a4⟩ := Ad c ws C hw rs (gG bF us r0 (((cG bF us r0).getD []) ++ [c])) (fun r => by
      rw [hget r]
      have h2 := hl r
      simp only [List.length_cons] at h2
      by_cases hk : bF r r0 = true
      · rw [if_pos hk]; simp; omega
      · rw [if_neg hk]; omega)
    refine ⟨us', ws', e, fun r x => ?_, a2, fun r => ?_, a4⟩
    · rw [a1, hget]
      by_cases hk : bF r r0 = true
      · rw [if_pos hk, bA.1 hk]
        simp only [List.mem_append, List.mem_cons, List.not_mem_nil, or_false]
        constructor
        · rintro ((h | h) | h)
          · exact .inl h
          · exact .inr ⟨h, .inl trivial⟩
          · exact .inr ⟨h.1, .inr h.2⟩
        · rintro (h | h)
          · exact .inl (.inl h)
          · exact .inl (.inr h.1)
      · rw [if_neg hk]
        have : r ≠ r0 := fun e => hk (bA.2 e)
        simp [this]
    · have := a3 r
      rw [hget r] at this
      by_cases hk : bF r r0 = true
      · rw [if_pos hk] at this; rw [bA.1 hk] at this ⊢; simp at this ⊢; omega
      · rw [if_neg hk] at this; simp; omega
theorem DD {C : List Cred} {us : List (Role × List Cred)} {ws : List (ByteArray × List Cred)} (hU : tI C us ws) (hC : C.length + 1 ≤ 1000000) {c : Cred} (hr : eE c = true) (i : List (Role × List (ByteArray × Bool))) (td : List aZ) (n : Int) :
    ∃ us' ws', jJ i C us ws td n c = some (C ++ [c], us', ws') ∧ tI (C ++ [c]) us' ws' := by
  unfold jJ
  rw [gX (by simp; omega) (by simp; omega)]
  simp only [Option.bind_some, EA hr]
  rw [show lE (decide ((0 : Nat) ≤ 1) && decide ((1 : Int) ≤ ((c.Head :: gP c).length : Int))) = some () by simp [lE]; omega]
  simp only [Option.bind_some, show Int.toNat 1 = 1 from rfl, List.drop_one, List.tail_cons]
  have hro : (gP c).length ≤ 2 := by unfold gP; split; simp; split <;> simp
  obtain ⟨us', ws', e, a1, a2, a3, a4⟩ := Ad c ws (C ++ [c]) (fun w => by have := hU.wlen w; omega) (gP c) us (fun r => by have := hU.rlen r; omega)
  refine ⟨us', ws', e, fun r x => ?_, fun w x => ?_, fun r => ?_, fun w => ?_⟩
  · rw [a1, hU.role, List.mem_append, List.mem_singleton]
    constructor
    · rintro (h | h)
      · exact ⟨.inl h.1, h.2⟩
      · exact ⟨.inr h.1, by rw [h.1]; exact h.2⟩
    · rintro ⟨h | h, h2⟩
      · exact .inl ⟨h, h2⟩
      · exact .inr ⟨h, by rw [← h]; exact h2⟩
  · rw [a2, hU.word, List.mem_append, List.mem_singleton]
    constructor
    · rintro (h | h)
      · exact ⟨.inl h.1, h.2⟩
      · exact ⟨.inr h.1, by rw [h.1]; exact ⟨h.2.1, h.2.2.symm⟩⟩
    · rintro ⟨h | h, h2⟩
      · exact .inl ⟨h, h2⟩
      · subst h; exact .inr ⟨rfl, h2.1, h2.2.symm⟩
  · have := a3 r; have := hU.rlen r; simp; omega
  · have := a4 w; have := hU.wlen w; simp; omega
structure MS (C : List Cred) (T : iA) (us : List (Role × List Cred)) (ws : List (ByteArray × List Cred)) (n : Int) : Prop where
  good : jm C T [] n
  cl : ∀ c ∈ C, uH c T []
  uses : tI C us ws
  right : nA C
theorem MS.all {C : List Cred} {T : iA} {us : List (Role × List Cred)} {ws : List (ByteArray × List Cred)} {n : Int} (h : MS C T us ws n) (f : aZ) : f ∈ FS T ↔ kG C f := by
  refine ⟨h.good.der f, fun hd => ?_⟩
  induction hd with
  | mem c hc hk => exact (h.cl c hc).1 hk
  | inc c w hc hk _ ih => exact (h.cl c hc).2.1 hk w ih (by simp)
  | lnk c b w hc hk _ _ ih1 ih2 => exact (h.cl c hc).2.2.1 hk b w ih1 (by simp) ih2 (by simp)
  | both c w hc hk _ _ ih1 ih2 => exact (h.cl c hc).2.2.2 hk w ih1 (by simp) ih2 (by simp)
theorem yM (n0 : Int) (hn0 : 0 ≤ n0 ∧ n0 ≤ 1000000000000) : ∀ (l : List Cred) {C : List Cred} {T : iA} {td : List aZ} {us : List (Role × List Cred)} {ws : List (ByteArray × List Cred)} {n : Int}, jm C T td n → (∀ c ∈ C, uH c T td) → tI C us ws → nA C → C.length + l.length ≤ 1000000 →
    ∃ C' T' us' ws' n', eU n0 l (mm T) C us ws td n = some (n' - n0, mm T', C', us', ws', [], n') ∧ MS C' T' us' ws' n' ∧ (∀ c, c ∈ C' ↔ c ∈ C ∨ (c ∈ l ∧ eE c = true)) ∧ C'.length ≤ C.length + l.length ∧ (∀ f ∈ FS T, f ∈ FS T')
  | [], C, T, td, us, ws, n, g, hcl, hU, hR, hl => by
    rw [eU]
    have hC : lC C := by unfold lC; simp at hl; omega
    have hsq := hC.sq
    have hlen := g.len
    have htl := g.tlen
    obtain ⟨T', n', e, g', c', o⟩ := xk hC hR hU (cs := C) bR g hcl (by rw [rI]; omega)
    unfold km
    rw [e]
    simp only [Option.bind_some]
    have hlen' := g'.len
    have hnum := g'.num
    rw [eK (by omega) (by omega)]
    exact ⟨C, T', us, ws, n', rfl, ⟨g', c', hU, hR⟩, by simp, by simp, o⟩
  | x :: l, C, T, td, us, ws, n, g, hcl, hU, hR, hl => by
    rw [eU, nl]
    simp only [List.length_cons] at hl
    obtain ⟨b, hb, hb2⟩ := yU x C
    simp only [Option.bind_some, hb, CO]
    by_cases hx : eE x = true ∧ x ∉ C
    · have hbf : b = false := by cases b with | false => rfl | true => exact absurd (hb2.1 rfl) hx.2
      rw [hx.1, hbf]
      simp only [Bool.not_false, Bool.and_self, if_true]
      obtain ⟨us1, ws1, e1, U1⟩ := DD hU (by omega) hx.1 (mm T) td n
      rw [e1]
      simp only [Option.bind_some]
      have hC1 : lC (C ++ [x]) := by unfold lC; simp; omega
      have hR1 : nA (C ++ [x]) := fun c hc => by
        rcases List.mem_append.1 hc with h | h
        · exact hR c h
        · simp at h; subst h; exact hx.1
      have g1 : jm (C ++ [x]) T td n := g.mono (fun c hc => List.mem_append_left _ hc)
      obtain ⟨T2, td2, n2, e2, g2, x2, c2⟩ := CV hC1 hR1 g1 (C ++ [x]) us1 ws1 (c := x) (by simp)
      rw [e2]
      simp only [Option.bind_some]
      have hcl2 : ∀ c ∈ C ++ [x], uH c T2 td2 := fun c hc => by
        rcases List.mem_append.1 hc with h | h
        · exact (hcl c h).ext x2
        · simp at h; subst h; exact c2
      obtain ⟨C', T', us', ws', n', e, m, a1, a2, a3⟩ := yM n0 hn0 l g2 hcl2 U1 hR1 (by simp; omega)
      refine ⟨C', T', us', ws', n', e, m, fun c => ?_, by simp at a2 ⊢; omega, fun f hf => a3 f (x2.old f hf)⟩
      rw [a1]
      simp only [List.mem_append, List.mem_cons, List.not_mem_nil, or_false]
      constructor
      · rintro ((h | h) | h)
        · exact .inl h
        · subst h; exact .inr ⟨.inl rfl, hx.1⟩
        · exact .inr ⟨.inr h.1, h.2⟩
      · rintro (h | ⟨h | h, h2⟩)
        · exact .inl (.inl h)
        · exact .inl (.inr h)
        · exact .inr ⟨h, h2⟩
    · have hf : (eE x && !b) = false := by
        cases hr : eE x with
        | false => rfl
        | true =>
          have : x ∈ C := Classical.byContradiction fun hn => hx ⟨hr, hn⟩
          rw [hb2.2 this]; rfl
      rw [hf]
      simp only [Bool.false_eq_true, if_false]
      obtain ⟨C', T', us', ws', n', e, m, a1, a2, a3⟩ := yM n0 hn0 l g hcl hU hR (by omega)
      refine ⟨C', T', us', ws', n', e, m, fun c => ?_, by simp; omega, a3⟩
      rw [a1, List.mem_cons]
      constructor
      · rintro (h | h)
        · exact .inl h
        · exact .inr ⟨.inr h.1, h.2⟩
      · rintro (h | ⟨h | h, h2⟩)
        · exact .inl h
        · subst h
          exact .inl (Classical.byContradiction fun hn => hx ⟨h2, hn⟩)
        · exact .inr ⟨h, h2⟩
theorem EY {C : List Cred} {T : iA} {us : List (Role × List Cred)} {ws : List (ByteArray × List Cred)} {n : Int} (h : MS C T us ws n) (l : List Cred) (hl : C.length + l.length ≤ 1000000) :
    ∃ C' T' us' ws' n', jW (mm T) C us ws [] n l = some (n' - n, mm T', C', us', ws', [], n') ∧ MS C' T' us' ws' n' ∧ (∀ c, c ∈ C' ↔ c ∈ C ∨ (c ∈ l ∧ eE c = true)) ∧ C'.length ≤ C.length + l.length ∧ (∀ f ∈ FS T, f ∈ FS T') := by
  have hC : lC C := by unfold lC; omega
  have h1 := h.good.len
  have h2 := hC.sq
  have h3 := h.good.num
  exact yM n ⟨by omega, by omega⟩ l h.good h.cl h.uses h.right hl
theorem tI.zero : tI [] [] [] := ⟨fun r c => by simp [cG], fun w c => by simp [cG], fun r => by simp [cG], fun w => by simp [cG]⟩
theorem jm.zero : jm [] [] [] 0 := ⟨by simp, by simp [FS], by simp, by simp, by simp [FS], by simp [FS]⟩
theorem MS.zero : MS [] [] [] [] 0 := ⟨jm.zero, fun c hc => (by cases hc), tI.zero, fun c hc => (by cases hc)⟩
theorem E7 (l : List Cred) (hl : l.length ≤ 1000000) : ∃ C T us ws n, oN l = some (mm T, C, us, ws, [], n) ∧ MS C T us ws n ∧ (∀ c, c ∈ C ↔ c ∈ l ∧ eE c = true) ∧ C.length ≤ l.length := by
  unfold oN
  obtain ⟨C', T', us', ws', n', e, m, a1, a2, a3⟩ := EY MS.zero l (by simpa using hl)
  rw [show jW [] [] [] [] [] 0 l = _ from e]
  exact ⟨C', T', us', ws', n', rfl, m, by simpa using a1, by simpa using a2⟩
theorem kG.congr {C C' : List Cred} (h : ∀ c, c ∈ C ↔ c ∈ C') (f : aZ) : kG C f ↔ kG C' f := ⟨fun d => d.mono (fun c hc => (h c).1 hc), fun d => d.mono (fun c hc => (h c).2 hc)⟩
end Go.Proofs.YtmlncblocfcmiaaGreat
namespace Go.Proofs.YtmlncblocfcmiaaGreat
open Go.RowKit
theorem Ef {C : List Cred} {T : iA} {us : List (Role × List Cred)} {ws : List (ByteArray × List Cred)} {n : Int} (h : MS C T us ws n) (cs : List Cred) (u : List (Role × List Cred)) (w : List (ByteArray × List Cred)) (td : List aZ) (z : Int) (r : Role) (who : ByteArray) :
    ∃ b, mP (mm T) cs u w td z r who = some b ∧ (b = true ↔ kG C ⟨r, who⟩) :=
  ⟨_, rfl, by rw [kP h.good.keys, h.all]⟩
def qA : Role := ⟨⟨#[97]⟩, ⟨#[114]⟩⟩
def qB : Role := ⟨⟨#[98]⟩, ⟨#[115]⟩⟩
def qd : ByteArray := ⟨#[100]⟩
def j1 : Cred := ⟨2, qA, zS, qB, ⟨zS, zS⟩, zS⟩
def j2 : Cred := ⟨1, qB, qd, ⟨zS, zS⟩, ⟨zS, zS⟩, zS⟩
end Go.Proofs.YtmlncblocfcmiaaGreat
namespace Go.Proofs.YtmlncblocfcmiaaGreat
open Go.RowKit
def tot {α : Type} (ls : List (List α)) : Nat := (ls.map List.length).sum
end Go.Proofs.YtmlncblocfcmiaaGreat
namespace Go.Proofs.YtmlncblocfcmiaaGreat
open Go.RowKit
def up (w : ByteArray) (g : ByteArray → Nat) : ByteArray → Nat := fun x => if eT w x = true then g x + 1 else g x
end Go.Proofs.YtmlncblocfcmiaaGreat
namespace Go.Proofs.YtmlncblocfcmiaaGreat
open Go.RowKit
instance decRole : DecidableEq Role := fun a b => decidable_of_iff (bF a b = true) bA
end Go.Proofs.YtmlncblocfcmiaaGreat
namespace Go.Proofs.YtmlncblocfcmiaaGreat
open Go.RowKit
def B8 (l : List Int) : Prop := ∀ x ∈ l, 0 ≤ x ∧ x < 256
end Go.Proofs.YtmlncblocfcmiaaGreat
namespace Go.Proofs.YtmlncblocfcmiaaGreat
open Go.RowKit
def Aw : List ByteArray → List Key → Int
  | _, [] => 0
  | seen, k :: l => if jY k.Who = false then 30 else if k.Key.length < 1 ∨ 32 < k.Key.length then 21 else if gE eT seen k.Who = true then 41 else Aw (seen ++ [k.Who]) l
def CY (l : List Key) : List (ByteArray × List Int) := l.map fun k => (k.Who, k.Key)
def Ck (l : List Key) (o : ByteArray) : Option (List Int) := cG eT (CY l) o
theorem EB {l : List Int} (h : l.length ≤ 1000000) : lH l = some l := by
  unfold lH
  rw [vy (by simpa using h)]; rfl
theorem zN : ∀ (l : List Key) (seen : List ByteArray), Aw seen l = 0 → ∀ k ∈ l, 1 ≤ k.Key.length ∧ k.Key.length ≤ 32
  | [], _, _, _, hk => by cases hk
  | x :: l, seen, h, k, hk => by
    unfold Aw at h
    split at h
    · cases h
    split at h
    · cases h
    split at h
    · cases h
    rcases List.mem_cons.1 hk with rfl | hk
    · omega
    · exact zN l _ h k hk
theorem vk : ∀ (l : List Key) (o : ByteArray) (b : List Int), Ck l o = some b → ∃ k ∈ l, k.Key = b
  | [], o, b, h => by cases h
  | x :: l, o, b, h => by
    unfold Ck at h
    rw [show CY (x :: l) = (x.Who, x.Key) :: CY l from rfl, qW] at h
    split at h
    · cases h; exact ⟨x, by simp, rfl⟩
    · obtain ⟨k, hk, e⟩ := vk l o b h
      exact ⟨k, by simp [hk], e⟩
def K8 (l : List Key) : Prop := ∀ k ∈ l, B8 k.Key
structure Mk (ks : List Key) (c : Cred) (k : List Int) : Prop where
  ok : Aw [] ks = 0
  rt : eE c = true
  lk : Ck ks c.Head.Owner = some k
theorem Mk.len {ks : List Key} {c : Cred} {k : List Int} (h : Mk ks c k) : 1 ≤ k.length ∧ k.length ≤ 32 := by
  obtain ⟨q, hq, rfl⟩ := vk _ _ _ h.lk
  exact zN ks [] h.ok q hq
theorem Mk.b8 {ks : List Key} {c : Cred} {k : List Int} (h : Mk ks c k) (hk : K8 ks) : B8 k := by
  obtain ⟨q, hq, rfl⟩ := vk _ _ _ h.lk
  exact hk q hq
theorem Mk.unique {ks : List Key} {c : Cred} {k k' : List Int} (h : Mk ks c k) (h' : Mk ks c k') : k = k' := by
  have := h.lk; rw [h'.lk] at this; cases this; rfl
end Go.Proofs.YtmlncblocfcmiaaGreat
namespace Go.Proofs.YtmlncblocfcmiaaGreat
open Go.RowKit
def S8 (l : List Signed) : Prop := ∀ s ∈ l, B8 s.Tag
theorem vI : ∀ (l : List Signed) (x : Int), (∀ s ∈ l, pW s.Cred ≤ 1000000000) → ∃ r, jl l x = some r
  | [], x, _ => ⟨x, rfl⟩
  | s :: l, x, h => by
    rw [jl]
    obtain ⟨r, e⟩ := yw [s.Cred] (by simp) (fun c hc => by rw [List.mem_singleton] at hc; rw [hc]; exact h s (by simp))
    rw [e, Option.bind_some]
    exact vI l _ (fun s hs => h s (by simp [hs]))
theorem wy (l : List Signed) (h : ∀ s ∈ l, pW s.Cred ≤ 1000000000) : ∀ (ks : List Key) (x : Int), ∃ r, iw l ks x = some r
  | [], x => by
    rw [iw]
    obtain ⟨r, e⟩ := vI l x h
    rw [e]; exact ⟨r, rfl⟩
  | k :: ks, x => by rw [iw]; exact wy l h ks _
theorem Ao (ks : List Key) (l : List Signed) (h : ∀ s ∈ l, pW s.Cred ≤ 1000000000) : ∃ r, mQ ks l = some r := wy l h ks 0
end Go.Proofs.YtmlncblocfcmiaaGreat
namespace Go.Proofs.YtmlncblocfcmiaaGreat
open Go.RowKit
theorem uW (b : List Cred) (x : Cred) : ja b x = some (gE bG b x) := by
  obtain ⟨q, e, h⟩ := yU x b
  unfold jj at e
  rw [jA] at e
  rw [e, show q = gE bG b x from by rw [Bool.eq_iff_iff, h, iB cL]]
end Go.Proofs.YtmlncblocfcmiaaGreat
namespace Go.Proofs.YtmlncblocfcmiaaGreat
open Go.RowKit
section
variable {α : Type}
structure SWO (lt : α → α → Bool) : Prop where
  irr : ∀ x, lt x x = false
  tr : ∀ x y z, lt x y = true → lt y z = true → lt x z = true
  ntr : ∀ x y z, lt x z = true → lt x y = true ∨ lt y z = true
variable {lt : α → α → Bool}
def tl (lt : α → α → Bool) (p q : α × Nat) : Prop := lt p.1 q.1 = true ∨ (lt q.1 p.1 = false ∧ p.2 < q.2)
theorem sF (h : SWO lt) {p q r : α × Nat} (a : tl lt p q) (b : tl lt q r) : tl lt p r := by
  unfold tl at *
  rcases a with a | ⟨a, a2⟩ <;> rcases b with b | ⟨b, b2⟩
  · exact .inl (h.tr _ _ _ a b)
  · rcases h.ntr _ r.1 _ a with c | c
    · exact .inl c
    · rw [b] at c; cases c
  · rcases h.ntr _ p.1 _ b with c | c
    · rw [a] at c; cases c
    · exact .inl c
  · refine .inr ⟨?_, by omega⟩
    cases e : lt r.1 p.1
    · rfl
    · rcases h.ntr _ q.1 _ e with c | c
      · rw [b] at c; cases c
      · rw [a] at c; cases c
theorem DE (h : SWO lt) {p q : α × Nat} (a : tl lt p q) (b : tl lt q p) : False := by
  have c := sF h a b
  rcases c with c | ⟨_, c⟩
  · rw [h.irr] at c; cases c
  · omega
abbrev gN (lt : α → α → Bool) (t : List (α × Nat)) : Prop := t.Pairwise (tl lt)
theorem wg (h : SWO lt) : ∀ {t u : List (α × Nat)}, gN lt t → gN lt u → t.Perm u → t = u
  | [], u, _, _, hp => by rw [List.nil_perm] at hp; exact hp.symm
  | p :: t, [], _, _, hp => by simp at hp
  | p :: t, q :: u, h1, h2, hp => by
    have e : p = q := by
      rcases List.mem_cons.1 (hp.mem_iff.1 (.head _)) with e | hq
      · exact e
      · rcases List.mem_cons.1 (hp.mem_iff.2 (.head _)) with e | hq'
        · exact e.symm
        · exact (DE h ((List.pairwise_cons.1 h1).1 _ hq') ((List.pairwise_cons.1 h2).1 _ hq)).elim
    subst e
    rw [wg h (List.pairwise_cons.1 h1).2 (List.pairwise_cons.1 h2).2 (List.Perm.cons_inv hp)]
def vx (lt : α → α → Bool) (l : List α) (k : α) : List α := l.filter (fun x => !lt k x) ++ k :: l.filter (fun x => lt k x)
def yA (lt : α → α → Bool) (l : List α) : List α := l.foldl (vx lt) []
def vB (lt : α → α → Bool) (t : List (α × Nat)) (k : α × Nat) : List (α × Nat) := t.filter (fun x => !lt k.1 x.1) ++ k :: t.filter (fun x => lt k.1 x.1)
theorem CQ (t : List (α × Nat)) (k : α × Nat) : (vB lt t k).map (·.1) = vx lt (t.map (·.1)) k.1 := by
  simp [vB, vx, List.filter_map, Function.comp_def]
theorem Bm (t : List (α × Nat)) (k : α × Nat) : (vB lt t k).Perm (t ++ [k]) := by
  unfold vB
  refine List.perm_middle.trans ?_
  refine (List.Perm.cons _ ?_).trans (List.perm_append_singleton k t).symm
  have := List.filter_append_perm (fun x : α × Nat => !lt k.1 x.1) t
  simpa using this
theorem Cm (h : SWO lt) {t : List (α × Nat)} {k : α × Nat} (ht : gN lt t) (hk : ∀ x ∈ t, x.2 < k.2) : gN lt (vB lt t k) := by
  unfold vB gN
  rw [List.pairwise_append, List.pairwise_cons]
  refine ⟨ht.filter _, ⟨fun x hx => ?_, ht.filter _⟩, fun x hx y hy => ?_⟩
  · exact .inl (List.mem_filter.1 hx).2
  · obtain ⟨h1, h2⟩ := List.mem_filter.1 hx
    simp only [Bool.not_eq_true', ] at h2
    have hxk : tl lt x k := .inr ⟨h2, hk x h1⟩
    rcases List.mem_cons.1 hy with rfl | hy
    · exact hxk
    · exact sF h hxk (.inl (List.mem_filter.1 hy).2)
theorem Fg (h : SWO lt) (l : List α) : ∃ t, gN lt t ∧ t.Perm l.zipIdx ∧ t.map (·.1) = yA lt l := by
  suffices H : ∀ (l r : List α) (t : List (α × Nat)), gN lt t → t.Perm r.zipIdx → ∃ u, gN lt u ∧ u.Perm (r ++ l).zipIdx ∧ u.map (·.1) = l.foldl (vx lt) (t.map (·.1)) by
    obtain ⟨u, h1, h2, h3⟩ := H l [] [] .nil (by simp)
    exact ⟨u, h1, by simpa using h2, h3⟩
  intro l
  induction l with
  | nil => intro r t h1 h2; exact ⟨t, h1, by simpa using h2, rfl⟩
  | cons k l ih =>
    intro r t h1 h2
    obtain ⟨u, a1, a2, a3⟩ := ih (r ++ [k]) (vB lt t (k, r.length)) (Cm h h1 (fun x hx => by
      obtain ⟨a, b⟩ := x
      have := List.snd_lt_of_mem_zipIdx (h2.mem_iff.1 hx)
      simpa using this)) ((Bm t _).trans (by rw [List.zipIdx_append]; simpa using h2.append_right _))
    refine ⟨u, a1, by simpa using a2, ?_⟩
    rw [a3, CQ]
    rfl
theorem DO (h : SWO lt) {l : List α} {t : List (α × Nat)} (h1 : gN lt t) (h2 : t.Perm l.zipIdx) : t.map (·.1) = yA lt l := by
  obtain ⟨u, a1, a2, a3⟩ := Fg h l
  rw [← a3, wg h h1 a1 (h2.trans a2.symm)]
end
end Go.Proofs.YtmlncblocfcmiaaGreat
namespace Go.Proofs.YtmlncblocfcmiaaGreat
open Go.RowKit
section
variable {α : Type} {lt : α → α → Bool}
abbrev Lk (lt : α → α → Bool) (A B : List (α × Nat)) : Prop := ∀ A' a b B', A = A' ++ [a] → B = b :: B' → tl lt a b
theorem pH (h : SWO lt) {A B : List (α × Nat)} (hA : gN lt A) (hB : gN lt B) (l : Lk lt A B) : ∀ a ∈ A, ∀ b ∈ B, tl lt a b := by
  intro a ha b hb
  rcases List.eq_nil_or_concat A with rfl | ⟨A', z, rfl⟩
  · cases ha
  cases B with
  | nil => cases hb
  | cons y B' =>
    have h1 : tl lt z y := l A' z y B' (by simp) rfl
    have h2 : a = z ∨ tl lt a z := by
      simp only [List.concat_eq_append, List.mem_append, List.mem_singleton] at ha
      rcases ha with ha | ha
      · refine .inr ?_
        simp only [List.concat_eq_append, gN, List.pairwise_append] at hA
        exact hA.2.2 a ha z (by simp)
      · exact .inl ha
    have h3 : b = y ∨ tl lt y b := by
      rcases List.mem_cons.1 hb with hb | hb
      · exact .inl hb
      · exact .inr ((List.pairwise_cons.1 hB).1 b hb)
    have h4 : tl lt a y := by
      rcases h2 with rfl | h2
      · exact h1
      · exact sF h h2 h1
    rcases h3 with rfl | h3
    · exact h4
    · exact sF h h4 h3
theorem yW (h : SWO lt) {A B : List (α × Nat)} (hA : gN lt A) (hB : gN lt B) (l : Lk lt A B) : gN lt (A ++ B) :=
  List.pairwise_append.2 ⟨hA, hB, pH h hA hB l⟩
theorem gN.left {A B : List (α × Nat)} (h : gN lt (A ++ B)) : gN lt A := (List.pairwise_append.1 h).1
theorem gN.right {A B : List (α × Nat)} (h : gN lt (A ++ B)) : gN lt B := (List.pairwise_append.1 h).2.1
theorem gN.two {A B : List (α × Nat)} (h : gN lt (A ++ B)) : ∀ a ∈ A, ∀ b ∈ B, tl lt a b := (List.pairwise_append.1 h).2.2
theorem wM (h : SWO lt) {A B : List (α × Nat)} {x : α × Nat} (hs : gN lt (A ++ B)) (l1 : Lk lt A [x]) (l2 : Lk lt [x] B) : gN lt (A ++ x :: B) := by
  have h1 := pH h hs.left (List.pairwise_singleton _ x) l1
  have h2 := pH h (List.pairwise_singleton _ x) hs.right l2
  refine List.pairwise_append.2 ⟨hs.left, List.pairwise_cons.2 ⟨fun b hb => h2 x (by simp) b hb, hs.right⟩, fun a ha b hb => ?_⟩
  rcases List.mem_cons.1 hb with rfl | hb
  · exact h1 a ha _ (by simp)
  · exact hs.two a ha b hb
theorem DK (h : SWO lt) {A1 A2 B1 B2 C1 C2 : List (α × Nat)} (hA : gN lt (A1 ++ A2)) (hB : gN lt (B1 ++ B2)) (l1 : Lk lt A1 B2) (l2 : Lk lt B1 A2)
    (p1 : C1.Perm (A1 ++ B1)) (p2 : C2.Perm (A2 ++ B2)) (h1 : gN lt C1) (h2 : gN lt C2) : gN lt (C1 ++ C2) := by
  have x1 := pH h hA.left hB.right l1
  have x2 := pH h hB.left hA.right l2
  refine List.pairwise_append.2 ⟨h1, h2, fun a ha b hb => ?_⟩
  rcases List.mem_append.1 (p1.mem_iff.1 ha) with ha | ha <;> rcases List.mem_append.1 (p2.mem_iff.1 hb) with hb | hb
  · exact hA.two a ha b hb
  · exact x1 a ha b hb
  · exact x2 a ha b hb
  · exact hB.two a ha b hb
end
section
variable {α : Type}
theorem uo (p q : List α) (x y : α) : (p ++ x :: q).set p.length y = p ++ y :: q := by simp
theorem ze (p q : List α) (x y : α) (n : Nat) (h : n = p.length) : (p ++ x :: q).set n y = p ++ y :: q := by subst h; simp
theorem vh (p m q : List α) (x y : α) : ((p ++ x :: (m ++ y :: q)).set p.length y).set (p.length + 1 + m.length) x = p ++ y :: (m ++ x :: q) := by
  rw [uo]
  have : p ++ y :: (m ++ y :: q) = (p ++ y :: m) ++ y :: q := by simp
  rw [this, show p.length + 1 + m.length = (p ++ y :: m).length by simp; omega, uo]
  simp
theorem Bn (p m q : List α) (x y : α) : ((p ++ x :: (m ++ y :: q)).set (p.length + 1 + m.length) x).set p.length y = p ++ y :: (m ++ x :: q) := by
  rw [List.set_comm _ _ (by omega), vh]
theorem nv {l : List α} {n : Nat} (h : n ≤ l.length) : ∃ a b, l = a ++ b ∧ a.length = n := ⟨l.take n, l.drop n, (List.take_append_drop n l).symm, by simp [h]⟩
end
end Go.Proofs.YtmlncblocfcmiaaGreat
namespace Go.Proofs.YtmlncblocfcmiaaGreat
open Go.RowKit
section
variable {c : Formula → Formula → Int} {G : Formula → Prop} {f : Formula × Formula → Option Int}
theorem Az (x : Formula) : (⟨x.Op, x.K, x.Role, x.Kids⟩ : Formula) = x := by cases x; rfl
abbrev gK (c : Formula → Formula → Int) (x y : Formula) : Bool := decide (c x y < 0)
abbrev rR (f : Formula × Formula → Option Int) (c : Formula → Formula → Int) (G : Formula → Prop) : Prop := ∀ x y, G x → G y → f (x, y) = some (c x y)
theorem FB (hf : rR f c G) (pre : List Formula) (x : Formula) (hx : G x) : ∀ (k : Nat) (P S : List Formula) (n : Nat) (j a : Int), P.length = k → k < n → (∀ y ∈ P, G y) → (pre ++ (P ++ x :: S)).length ≤ 1000000 → j = ((pre.length + P.length : Nat) : Int) → a = (pre.length : Int) →
    ∃ P1 P2, P = P1 ++ P2 ∧ cO a f n (pre ++ (P ++ x :: S)) j = some (pre ++ (P1 ++ x :: (P2 ++ S))) ∧ (∀ P' z, P1 = P' ++ [z] → gK c x z = false) ∧ (∀ y P', P2 = y :: P' → gK c x y = true) := by
  intro k
  induction k with
  | zero =>
    intro P S n j a hk hn hG hl hj ha
    obtain rfl := List.eq_nil_of_length_eq_zero hk
    obtain ⟨n, rfl⟩ := Nat.exists_eq_succ_of_ne_zero (by omega : n ≠ 0)
    refine ⟨[], [], rfl, ?_, by simp, by simp⟩
    rw [cO]
    have : ¬ (j > a) := by rw [hj, ha]; simp
    simp [this]
  | succ k ih =>
    intro P S n j a hk hn hG hl hj ha
    rcases List.eq_nil_or_concat P with rfl | ⟨P', z, rfl⟩
    · simp at hk
    simp only [List.concat_eq_append, List.length_append, List.length_cons, List.length_nil] at hk hj hl hG ⊢
    obtain ⟨n, rfl⟩ := Nat.exists_eq_succ_of_ne_zero (by omega : n ≠ 0)
    have hja : j > a := by omega
    have e0 : pre ++ (P' ++ [z] ++ x :: S) = (pre ++ P') ++ z :: x :: S := by simp
    have hw : IntKind.i64.wrap (j - 1) = ((pre.length + P'.length : Nat) : Int) := by rw [eK (by omega) (by omega)]; omega
    have i1 : dS ((pre ++ P') ++ z :: x :: S) j = some x := by
      rw [show (pre ++ P') ++ z :: x :: S = (pre ++ P' ++ [z]) ++ x :: S by simp]
      exact gp _ _ _ _ (by simp; omega)
    have i2 : dS ((pre ++ P') ++ z :: x :: S) ((pre.length + P'.length : Nat) : Int) = some z := gp _ _ _ _ (by simp)
    have hz : G z := hG z (by simp)
    have hP : ∀ y ∈ P', G y := fun y hy => hG y (by simp [hy])
    have jn : j.toNat = pre.length + P'.length + 1 := by omega
    rw [cO, e0]
    simp only [hja, decide_true, if_true, i1, hw, i2, Option.bind_some, hf x z hx hz]
    by_cases hc : c x z < 0
    · simp only [hc, decide_true, if_true]
      have s1 : ((pre ++ P') ++ z :: x :: S).set j.toNat z = (pre ++ P') ++ z :: z :: S := by
        have := ze (pre ++ P' ++ [z]) S x z j.toNat (by simp; omega)
        simpa only [List.append_assoc, List.singleton_append, List.cons_append, List.nil_append] using this
      have s2 : ((pre ++ P') ++ z :: z :: S).set (pre.length + P'.length) x = (pre ++ P') ++ x :: z :: S := by
        exact ze (pre ++ P') (z :: S) z x _ (by simp)
      have i3 : dS ((pre ++ P') ++ z :: z :: S) ((pre.length + P'.length : Nat) : Int) = some z := gp _ _ _ _ (by simp)
      rw [s1, i3, Option.bind_some, Int.toNat_natCast, Az, s2]
      have e1 : (pre ++ P') ++ x :: z :: S = pre ++ (P' ++ x :: (z :: S)) := by simp
      obtain ⟨P1, P2, h1, h2, h3, h4⟩ := ih P' (z :: S) n ((pre.length + P'.length : Nat) : Int) a (by omega) (by omega) hP (by simp; omega) rfl ha
      rw [e1, h2]
      refine ⟨P1, P2 ++ [z], by rw [h1]; simp, by simp, h3, ?_⟩
      intro y Q hQ
      cases P2 with
      | nil =>
        simp only [List.nil_append, List.cons.injEq] at hQ
        rw [← hQ.1]; simp [gK, hc]
      | cons y' P2 =>
        simp only [List.cons_append, List.cons.injEq] at hQ
        rw [← hQ.1]; exact h4 y' P2 rfl
    · simp only [hc, decide_false, Bool.false_eq_true, if_false]
      refine ⟨P' ++ [z], [], by simp, by simp, ?_, by simp⟩
      intro Q y hQ
      have := List.append_inj' hQ rfl
      simp only [List.cons.injEq, and_true] at this
      rw [← this.2]; simp [gK, hc]
theorem Di (h : SWO (gK c)) (hf : rR f c G) (pre post : List Formula) (a b : Int) (ha : a = (pre.length : Int)) : ∀ (S t : List (Formula × Nat)) (n : Nat) (i : Int),
    S.length < n → gN (gK c) t → (∀ x ∈ t, ∀ y ∈ S, x.2 < y.2) → S.Pairwise (fun x y => x.2 < y.2) → (∀ x ∈ t ++ S, G x.1) → (pre ++ (t.map (·.1) ++ (S.map (·.1) ++ post))).length ≤ 1000000 →
    i = ((pre.length + t.length : Nat) : Int) → b = ((pre.length + t.length + S.length : Nat) : Int) →
    ∃ u, cC b a f n (pre ++ (t.map (·.1) ++ (S.map (·.1) ++ post))) i = some (pre ++ (u.map (·.1) ++ post)) ∧ gN (gK c) u ∧ u.Perm (t ++ S)
  | [], t, n, i, hn, ht, h1, h2, hG, hl, hi, hb => by
    obtain ⟨n, rfl⟩ := Nat.exists_eq_succ_of_ne_zero (by simp at hn; omega : n ≠ 0)
    rw [cC]
    simp only [List.length_nil] at hb
    have : ¬ (i < b) := by omega
    simp only [this, decide_false, Bool.false_eq_true, if_false]
    exact ⟨t, by simp, ht, by simp⟩
  | s :: S, t, n, i, hn, ht, h1, h2, hG, hl, hi, hb => by
    simp only [List.length_cons] at hn hb
    obtain ⟨n, rfl⟩ := Nat.exists_eq_succ_of_ne_zero (by omega : n ≠ 0)
    rw [cC]
    have hib : i < b := by omega
    simp only [hib, decide_true, if_true]
    have hl2 := hl
    simp only [List.length_append, List.length_map, List.length_cons] at hl2
    obtain ⟨P1, P2, e1, e2, e3, e4⟩ := FB hf pre s.1 (hG s (by simp)) (t.map (·.1)).length (t.map (·.1)) (S.map (·.1) ++ post) bR i a rfl (by rw [fC]; simp; omega)
      (fun y hy => by obtain ⟨p, hp, rfl⟩ := List.mem_map.1 hy; exact hG p (by simp [hp])) (by simpa using hl) (by simp; omega) ha
    simp only [List.map_cons, List.cons_append]
    rw [e2, Option.bind_some]
    obtain ⟨t1, t2, rfl, q1, q2⟩ := List.map_eq_append_iff.1 e1
    have hlen : t1.length + t2.length = (t1 ++ t2).length := by simp
    have hw : IntKind.i64.wrap (i + 1) = ((pre.length + (t1 ++ s :: t2).length : Nat) : Int) := by rw [eK (by omega) (by omega)]; simp at hi ⊢; omega
    rw [hw]
    have hsrt : gN (gK c) (t1 ++ s :: t2) := wM h ht
      (fun A' z b B' hA hB => by
        simp only [List.cons.injEq] at hB
        rw [← hB.1]
        refine .inr ⟨e3 (A'.map (·.1)) z.1 (by rw [← q1, hA]; simp), h1 z (by rw [hA]; simp) s (by simp)⟩)
      (fun A' z b B' hA hB => by
        have hz : z = s := by
          cases A' with
          | nil => simpa using hA.symm
          | cons _ A' => simp at hA
        rw [hz]
        exact .inl (e4 b.1 (B'.map (·.1)) (by rw [← q2, hB]; simp)))
    have h2' := List.pairwise_cons.1 h2
    have e5 : pre ++ (P1 ++ s.1 :: (P2 ++ (S.map (·.1) ++ post))) = pre ++ ((t1 ++ s :: t2).map (·.1) ++ (S.map (·.1) ++ post)) := by rw [← q1, ← q2]; simp
    rw [e5]
    obtain ⟨u, u1, u2, u3⟩ := Di h hf pre post a b ha S (t1 ++ s :: t2) n _ (by omega) hsrt
      (fun x hx y hy => by
        rcases List.mem_append.1 hx with hx | hx
        · exact h1 x (by simp [hx]) y (by simp [hy])
        · rcases List.mem_cons.1 hx with rfl | hx
          · exact h2'.1 y hy
          · exact h1 x (by simp [hx]) y (by simp [hy]))
      h2'.2 (fun x hx => hG x (by
        simp only [List.mem_append, List.mem_cons] at hx ⊢
        rcases hx with (hx | hx | hx) | hx
        · exact .inl (.inl hx)
        · exact .inr (.inl hx)
        · exact .inl (.inr hx)
        · exact .inr (.inr hx))) (by simp at hl2 ⊢; omega) rfl (by simp at hb ⊢; omega)
    refine ⟨u, u1, u2, u3.trans ?_⟩
    simp only [List.append_assoc, List.cons_append]
    exact List.Perm.append_left t1 (List.perm_middle.symm)
theorem Ab (h : SWO (gK c)) (hf : rR f c G) (pre post : List Formula) (S : List (Formula × Nat)) (a b : Int) (h2 : S.Pairwise (fun x y => x.2 < y.2)) (hG : ∀ x ∈ S, G x.1) (hl : (pre ++ (S.map (·.1) ++ post)).length ≤ 1000000)
    (ha : a = (pre.length : Int)) (hb : b = ((pre.length + S.length : Nat) : Int)) :
    ∃ u, eD (pre ++ (S.map (·.1) ++ post)) a b f = some (pre ++ (u.map (·.1) ++ post)) ∧ gN (gK c) u ∧ u.Perm S := by
  unfold eD
  have hl2 := hl
  simp only [List.length_append, List.length_map] at hl2
  cases S with
  | nil =>
    refine ⟨[], ?_, .nil, .nil⟩
    obtain ⟨n, hn⟩ := Nat.exists_eq_succ_of_ne_zero (by rw [fC]; omega : bR ≠ 0)
    rw [hn, cC]
    have : ¬ (IntKind.i64.wrap (a + 1) < b) := by rw [eK (by omega) (by omega)]; simp at hb; omega
    simp [this]
  | cons s S =>
    simp only [List.length_cons] at hb hl2
    have h2' := List.pairwise_cons.1 h2
    obtain ⟨u, u1, u2, u3⟩ := Di h hf pre post a b ha S [s] bR (IntKind.i64.wrap (a + 1)) (by rw [fC]; omega) (List.pairwise_singleton _ _) (fun x hx y hy => by simp at hx; rw [hx]; exact h2'.1 y hy) h2'.2
      (fun x hx => hG x (by simpa using hx)) (by simp at hl ⊢; omega) (by rw [eK (by omega) (by omega)]; simp; omega) (by simp; omega)
    exact ⟨u, by simpa using u1, u2, by simpa using u3⟩
end
end Go.Proofs.YtmlncblocfcmiaaGreat
namespace Go.Proofs.YtmlncblocfcmiaaGreat
open Go.RowKit
section
variable {c : Formula → Formula → Int} {G : Formula → Prop} {f : Formula × Formula → Option Int}
theorem fK {x : Int} (n : Nat) (h : x = (n : Int)) (hn : n ≤ 4000000) : IntKind.i64.wrap x = (n : Int) := by rw [h, eK (by omega) (by omega)]
theorem EO (p m q : List Formula) (a b N : Int) : ∀ (k : Nat) (X1 X2 Y1 Y2 : List Formula) (n : Nat) (i : Int), X2.length = k → Y2.length = k → X1.length = Y1.length → k < n → (p ++ (Y1 ++ (X2 ++ (m ++ (X1 ++ (Y2 ++ q)))))).length ≤ 1000000 →
    i = (X1.length : Int) → N = ((X1.length + k : Nat) : Int) → a = (p.length : Int) → b = ((p.length + X1.length + k + m.length : Nat) : Int) →
    dA N b a n (p ++ (Y1 ++ (X2 ++ (m ++ (X1 ++ (Y2 ++ q)))))) i = some (p ++ ((Y1 ++ Y2) ++ (m ++ ((X1 ++ X2) ++ q)))) := by
  intro k
  induction k with
  | zero =>
    intro X1 X2 Y1 Y2 n i h1 h2 h3 hn hl hi hN ha hb
    obtain rfl := List.eq_nil_of_length_eq_zero h1
    obtain rfl := List.eq_nil_of_length_eq_zero h2
    obtain ⟨n, rfl⟩ := Nat.exists_eq_succ_of_ne_zero (by omega : n ≠ 0)
    rw [dA]
    have : ¬ (i < N) := by omega
    simp [this]
  | succ k ih =>
    intro X1 X2 Y1 Y2 n i h1 h2 h3 hn hl hi hN ha hb
    cases X2 with
    | nil => simp at h1
    | cons x X2 =>
    cases Y2 with
    | nil => simp at h2
    | cons y Y2 =>
    simp only [List.length_cons, Nat.add_right_cancel_iff] at h1 h2
    obtain ⟨n, rfl⟩ := Nat.exists_eq_succ_of_ne_zero (by omega : n ≠ 0)
    have hl2 := hl
    simp only [List.length_append, List.length_cons] at hl2
    have hiN : i < N := by omega
    have w1 : IntKind.i64.wrap (b + i) = (((p ++ Y1).length + 1 + (X2 ++ (m ++ X1)).length : Nat) : Int) := fK _ (by simp; omega) (by simp; omega)
    have w2 : IntKind.i64.wrap (a + i) = ((p ++ Y1).length : Int) := fK _ (by simp; omega) (by simp; omega)
    have w3 : IntKind.i64.wrap (i + 1) = ((X1 ++ [x]).length : Int) := fK _ (by simp; omega) (by simp; omega)
    have e0 : p ++ (Y1 ++ (x :: X2 ++ (m ++ (X1 ++ (y :: Y2 ++ q))))) = (p ++ Y1) ++ x :: ((X2 ++ (m ++ X1)) ++ y :: (Y2 ++ q)) := by simp
    have i1 : dS ((p ++ Y1) ++ x :: ((X2 ++ (m ++ X1)) ++ y :: (Y2 ++ q))) (((p ++ Y1).length + 1 + (X2 ++ (m ++ X1)).length : Nat) : Int) = some y := by
      have := gp ((p ++ Y1) ++ x :: (X2 ++ (m ++ X1))) y (Y2 ++ q) (((p ++ Y1).length + 1 + (X2 ++ (m ++ X1)).length : Nat) : Int) (by simp; omega)
      simpa using this
    have i2 : dS ((p ++ Y1) ++ x :: ((X2 ++ (m ++ X1)) ++ y :: (Y2 ++ q))) ((p ++ Y1).length : Int) = some x := gp _ _ _ _ rfl
    rw [dA, e0]
    simp only [hiN, decide_true, if_true, w1, w2, i1, i2, Option.bind_some, Int.toNat_natCast, w3]
    have i3 : dS (((p ++ Y1) ++ x :: ((X2 ++ (m ++ X1)) ++ y :: (Y2 ++ q))).set (p ++ Y1).length y) (((p ++ Y1).length + 1 + (X2 ++ (m ++ X1)).length : Nat) : Int) = some y := by
      rw [uo]
      have := gp ((p ++ Y1) ++ y :: (X2 ++ (m ++ X1))) y (Y2 ++ q) (((p ++ Y1).length + 1 + (X2 ++ (m ++ X1)).length : Nat) : Int) (by simp; omega)
      simpa using this
    rw [i3, Option.bind_some, Az, vh]
    have e1 : (p ++ Y1) ++ y :: ((X2 ++ (m ++ X1)) ++ x :: (Y2 ++ q)) = p ++ ((Y1 ++ [y]) ++ (X2 ++ (m ++ ((X1 ++ [x]) ++ (Y2 ++ q))))) := by simp
    rw [e1, ih (X1 ++ [x]) X2 (Y1 ++ [y]) Y2 n _ h1 h2 (by simp; omega) (by omega) (by simp; omega) rfl (by rw [hN]; simp; omega) ha (by rw [hb]; simp; omega)]
    simp
theorem AN (p m q X Y : List Formula) (a b N : Int) (h : X.length = Y.length) (hl : (p ++ (X ++ (m ++ (Y ++ q)))).length ≤ 1000000) (hN : N = (X.length : Int)) (ha : a = (p.length : Int)) (hb : b = ((p.length + X.length + m.length : Nat) : Int)) :
    dY (p ++ (X ++ (m ++ (Y ++ q)))) a b N f = some (p ++ (Y ++ (m ++ (X ++ q)))) := by
  unfold dY
  have hl2 := hl
  simp only [List.length_append] at hl2
  have := EO p m q a b N X.length [] X [] Y bR 0 rfl h.symm rfl (by rw [fC]; omega) (by simpa using hl) rfl (by simpa using hN) ha (by rw [hb]; simp)
  simpa using this
theorem Fh (M : Int) : ∀ (k : Nat) (A B p q : List Formula) (n : Nat) (i j : Int), A.length + B.length ≤ k → 0 < A.length → 0 < B.length → k < n → (p ++ (A ++ (B ++ q))).length ≤ 1000000 → i = (A.length : Int) → j = (B.length : Int) → M = ((p.length + A.length : Nat) : Int) →
    dL M f n (p ++ (A ++ (B ++ q))) i j = some (p ++ (B ++ (A ++ q))) := by
  intro k
  induction k with
  | zero => intro A B p q n i j h h1 h2; omega
  | succ k ih =>
    intro A B p q n i j h h1 h2 hn hl hi hj hM
    obtain ⟨n, rfl⟩ := Nat.exists_eq_succ_of_ne_zero (by omega : n ≠ 0)
    have hl2 := hl
    simp only [List.length_append] at hl2
    rw [dL]
    by_cases he : A.length = B.length
    · have : (i != j) = false := by rw [hi, hj, he]; simp
      simp only [this, Bool.false_eq_true, if_false]
      have w1 : IntKind.i64.wrap (M - i) = (p.length : Int) := fK _ (by omega) (by omega)
      have := AN (f := f) p [] q A B (p.length : Int) M i he (by simpa using hl) hi rfl (by rw [hM]; simp)
      simp only [List.nil_append] at this
      rw [w1, this]; rfl
    · have hne : (i != j) = true := by rw [hi, hj]; simp; omega
      simp only [hne, if_true]
      by_cases hg : i > j
      · simp only [hg, decide_true, if_true]
        obtain ⟨X, Y, rfl, hX⟩ := nv (l := A) (n := B.length) (by omega)
        simp only [List.length_append] at hi h hM hl2
        have w1 : IntKind.i64.wrap (M - i) = (p.length : Int) := fK _ (by omega) (by omega)
        have s := AN (f := f) p Y q X B (p.length : Int) M j (by omega) (by simp; omega) (by omega) rfl (by omega)
        have e0 : p ++ (X ++ Y ++ (B ++ q)) = p ++ (X ++ (Y ++ (B ++ q))) := by simp
        have w2 : IntKind.i64.wrap (i - j) = (Y.length : Int) := fK _ (by omega) (by omega)
        rw [e0, w1, s, Option.bind_some, w2]
        have e1 : p ++ (B ++ (Y ++ (X ++ q))) = (p ++ B) ++ (Y ++ (X ++ q)) := by simp
        rw [e1, ih Y X (p ++ B) q n _ j (by omega) (by omega) (by omega) (by omega) (by simp; omega) rfl (by omega) (by simp; omega)]
        simp
      · simp only [hg, decide_false, Bool.false_eq_true, if_false]
        obtain ⟨Z, V, rfl, hZ⟩ := nv (l := B) (n := B.length - A.length) (by omega)
        simp only [List.length_append] at hj h hl2 hZ h2 he
        have w1 : IntKind.i64.wrap (M - i) = (p.length : Int) := fK _ (by omega) (by omega)
        have w3 : IntKind.i64.wrap (M + j) = ((p.length + A.length + (Z.length + V.length) : Nat) : Int) := fK _ (by omega) (by omega)
        have w4 : IntKind.i64.wrap (((p.length + A.length + (Z.length + V.length) : Nat) : Int) - i) = ((p.length + A.length + Z.length : Nat) : Int) := fK _ (by omega) (by omega)
        have s := AN (f := f) p Z q A V (p.length : Int) ((p.length + A.length + Z.length : Nat) : Int) i (by omega) (by simp; omega) hi rfl rfl
        have e0 : p ++ (A ++ (Z ++ V ++ q)) = p ++ (A ++ (Z ++ (V ++ q))) := by simp
        have w2 : IntKind.i64.wrap (j - i) = (Z.length : Int) := fK _ (by omega) (by omega)
        rw [e0, w1, w3, w4, s, Option.bind_some, w2]
        rw [show p ++ (V ++ (Z ++ (A ++ q))) = p ++ (V ++ (Z ++ ((A ++ q)))) from rfl, ih V Z p (A ++ q) n i _ (by omega) (by omega) (by omega) (by omega) (by simp; omega) (by omega) rfl (by omega)]
        simp
theorem FL (A B p q : List Formula) (a m b : Int) (h1 : 0 < A.length) (h2 : 0 < B.length) (hl : (p ++ (A ++ (B ++ q))).length ≤ 1000000) (ha : a = (p.length : Int)) (hm : m = ((p.length + A.length : Nat) : Int)) (hb : b = ((p.length + A.length + B.length : Nat) : Int)) :
    dU (p ++ (A ++ (B ++ q))) a m b f = some (p ++ (B ++ (A ++ q))) := by
  unfold dU
  have hl2 := hl
  simp only [List.length_append] at hl2
  rw [fK A.length (by omega) (by omega), fK B.length (by omega) (by omega)]
  exact Fh m (A.length + B.length) A B p q bR _ _ (Nat.le_refl _) h1 h2 (by rw [fC]; omega) hl rfl rfl hm
end
end Go.Proofs.YtmlncblocfcmiaaGreat
namespace Go.Proofs.YtmlncblocfcmiaaGreat
open Go.RowKit
section
variable {c : Formula → Formula → Int} {G : Formula → Prop} {f : Formula × Formula → Option Int}
theorem se {x : Int} (n : Nat) (h : x = (n : Int)) (hn : n ≤ 4000000) : IntKind.i64.wrap (Int.fdiv (IntKind.u64.wrap (IntKind.i64.wrap x)) (2 ^ min (Int.toNat 1) (IntKind.bits .u64))) = ((n / 2 : Nat) : Int) := by
  rw [fK n h hn]
  have e1 : IntKind.u64.wrap (n : Int) = (n : Int) := by
    simp only [IntKind.wrap, IntKind.signed, IntKind.bits]
    simp
    omega
  rw [e1, show (2 ^ min (Int.toNat 1) (IntKind.bits .u64) : Int) = 2 from by decide, Int.fdiv_eq_ediv_of_nonneg _ (by decide), eK (by omega) (by omega)]
  omega
abbrev Ask (a0 : List Formula) (f : Formula × Formula → Option Int) (p q : Int) (b : Bool) : Prop := ∃ x y r, dS a0 p = some x ∧ dS a0 q = some y ∧ f (x, y) = some r ∧ decide (r < 0) = b
theorem FT (a0 : List Formula) (a1 : Int) (pr : Nat → Bool) (lo hi : Nat) (hhi : hi ≤ 1000000) (hpr : ∀ h, lo ≤ h → h < hi → Ask a0 f (h : Int) a1 (pr h)) : ∀ (d n i j : Nat), j - i ≤ d → d < n → lo ≤ i → i ≤ j → j ≤ hi → (i = lo ∨ pr (i - 1) = true) → (j = hi ∨ pr j = false) →
    ∃ t n', lo ≤ t ∧ t ≤ hi ∧ (t = lo ∨ pr (t - 1) = true) ∧ (t = hi ∨ pr t = false) ∧ bY a0 a1 f n (i : Int) (j : Int) = bY a0 a1 f (n' + 1) (t : Int) (t : Int) := by
  intro d
  induction d with
  | zero =>
    intro n i j h1 hn h2 h3 h4 h5 h6
    obtain ⟨n, rfl⟩ := Nat.exists_eq_succ_of_ne_zero (by omega : n ≠ 0)
    obtain rfl : i = j := by omega
    exact ⟨i, n, h2, h4, h5, h6, rfl⟩
  | succ d ih =>
    intro n i j h1 hn h2 h3 h4 h5 h6
    obtain ⟨n, rfl⟩ := Nat.exists_eq_succ_of_ne_zero (by omega : n ≠ 0)
    by_cases hij : i = j
    · subst hij; exact ⟨i, n, h2, h4, h5, h6, rfl⟩
    have hh := se (i + j) (x := (i : Int) + (j : Int)) (by omega) (by omega)
    obtain ⟨x, y, r, e1, e2, e3, e4⟩ := hpr ((i + j) / 2) (by omega) (by omega)
    rw [bY]
    have hlt : ((i : Int) < (j : Int)) := by omega
    simp only [hlt, decide_true, if_true, hh, e1, e2, e3, e4, Option.bind_some]
    cases hp : pr ((i + j) / 2)
    · simp only [Bool.false_eq_true, if_false]
      exact ih n i ((i + j) / 2) (by omega) (by omega) h2 (by omega) (by omega) h5 (.inr hp)
    · simp only [if_true]
      rw [fK ((i + j) / 2 + 1) (by omega) (by omega)]
      exact ih n ((i + j) / 2 + 1) j (by omega) (by omega) (by omega) (by omega) h4 (.inr (by simpa using hp)) h6
theorem FI (a0 : List Formula) (a2 : Int) (pr : Nat → Bool) (lo hi : Nat) (hhi : hi ≤ 1000000) (hpr : ∀ h, lo ≤ h → h < hi → Ask a0 f a2 (h : Int) (!pr h)) : ∀ (d n i j : Nat), j - i ≤ d → d < n → lo ≤ i → i ≤ j → j ≤ hi → (i = lo ∨ pr (i - 1) = true) → (j = hi ∨ pr j = false) →
    ∃ t n', lo ≤ t ∧ t ≤ hi ∧ (t = lo ∨ pr (t - 1) = true) ∧ (t = hi ∨ pr t = false) ∧ bZ a0 a2 f n (i : Int) (j : Int) = bZ a0 a2 f (n' + 1) (t : Int) (t : Int) := by
  intro d
  induction d with
  | zero =>
    intro n i j h1 hn h2 h3 h4 h5 h6
    obtain ⟨n, rfl⟩ := Nat.exists_eq_succ_of_ne_zero (by omega : n ≠ 0)
    obtain rfl : i = j := by omega
    exact ⟨i, n, h2, h4, h5, h6, rfl⟩
  | succ d ih =>
    intro n i j h1 hn h2 h3 h4 h5 h6
    obtain ⟨n, rfl⟩ := Nat.exists_eq_succ_of_ne_zero (by omega : n ≠ 0)
    by_cases hij : i = j
    · subst hij; exact ⟨i, n, h2, h4, h5, h6, rfl⟩
    have hh := se (i + j) (x := (i : Int) + (j : Int)) (by omega) (by omega)
    obtain ⟨x, y, r, e1, e2, e3, e4⟩ := hpr ((i + j) / 2) (by omega) (by omega)
    rw [bZ]
    have hlt : ((i : Int) < (j : Int)) := by omega
    simp only [hlt, decide_true, if_true, hh, e1, e2, e3, e4, Option.bind_some, Bool.not_not]
    cases hp : pr ((i + j) / 2)
    · simp only [Bool.false_eq_true, if_false]
      exact ih n i ((i + j) / 2) (by omega) (by omega) h2 (by omega) (by omega) h5 (.inr hp)
    · simp only [if_true]
      rw [fK ((i + j) / 2 + 1) (by omega) (by omega)]
      exact ih n ((i + j) / 2 + 1) j (by omega) (by omega) (by omega) (by omega) h4 (.inr (by simpa using hp)) h6
theorem Fq (x : Formula) : ∀ (P Q R : List Formula) (n : Nat) (k i : Int), P.length < n → (Q ++ x :: (P ++ R)).length ≤ 1000000 → k = (Q.length : Int) → i = ((Q.length + P.length + 1 : Nat) : Int) → dE i n (Q ++ x :: (P ++ R)) k = some (Q ++ (P ++ x :: R))
  | [], Q, R, n, k, i, hn, hl, hk, hi => by
    obtain ⟨n, rfl⟩ := Nat.exists_eq_succ_of_ne_zero (by simp at hn; omega : n ≠ 0)
    simp only [List.length_append, List.length_cons, List.length_nil] at hl hi
    rw [dE, fK Q.length (by omega) (by omega)]
    have : ¬ (k < (Q.length : Int)) := by omega
    simp [this]
  | y :: P, Q, R, n, k, i, hn, hl, hk, hi => by
    obtain ⟨n, rfl⟩ := Nat.exists_eq_succ_of_ne_zero (by simp at hn; omega : n ≠ 0)
    simp only [List.length_append, List.length_cons] at hl hi hn
    have e0 : Q ++ x :: (y :: P ++ R) = Q ++ x :: ([] ++ y :: (P ++ R)) := rfl
    have w1 : IntKind.i64.wrap (k + 1) = ((Q.length + 1 + ([] : List Formula).length : Nat) : Int) := fK _ (by simp; omega) (by simp; omega)
    have i1 : dS (Q ++ x :: ([] ++ y :: (P ++ R))) ((Q.length + 1 + ([] : List Formula).length : Nat) : Int) = some y := by
      have := gp (Q ++ [x]) y (P ++ R) ((Q.length + 1 + ([] : List Formula).length : Nat) : Int) (by simp)
      simpa using this
    have i2 : dS (Q ++ x :: ([] ++ y :: (P ++ R))) k = some x := gp _ _ _ _ hk
    rw [dE, fK (Q.length + P.length + 1) (by omega) (by omega), e0]
    have hlt : k < ((Q.length + P.length + 1 : Nat) : Int) := by omega
    have kn : k.toNat = Q.length := by omega
    simp only [hlt, decide_true, if_true, w1, i1, i2, Option.bind_some, kn]
    have i3 : dS ((Q ++ x :: ([] ++ y :: (P ++ R))).set Q.length y) ((Q.length + 1 + ([] : List Formula).length : Nat) : Int) = some y := by
      rw [uo]
      have := gp (Q ++ [y]) y (P ++ R) ((Q.length + 1 + ([] : List Formula).length : Nat) : Int) (by simp)
      simpa using this
    rw [i3, Option.bind_some, Int.toNat_natCast, Az, vh]
    have := Fq x P (Q ++ [y]) R n ((Q.length + 1 + ([] : List Formula).length : Nat) : Int) i (by omega) (by simp; omega) (by simp) (by rw [hi]; simp; omega)
    simpa using this
theorem FM (x : Formula) : ∀ (k : Nat) (S Q R : List Formula) (n : Nat) (j i : Int), S.length = k → k < n → (Q ++ (S ++ x :: R)).length ≤ 1000000 → j = ((Q.length + S.length : Nat) : Int) → i = (Q.length : Int) → dD i n (Q ++ (S ++ x :: R)) j = some (Q ++ x :: (S ++ R)) := by
  intro k
  induction k with
  | zero =>
    intro S Q R n j i hk hn hl hj hi
    obtain ⟨n, rfl⟩ := Nat.exists_eq_succ_of_ne_zero (by omega : n ≠ 0)
    obtain rfl := List.eq_nil_of_length_eq_zero hk
    rw [dD]
    simp only [List.length_nil, Nat.add_zero] at hj
    have : ¬ (j > i) := by omega
    simp [this]
  | succ k ih =>
    intro S Q R n j i hk hn hl hj hi
    obtain ⟨n, rfl⟩ := Nat.exists_eq_succ_of_ne_zero (by omega : n ≠ 0)
    rcases List.eq_nil_or_concat S with rfl | ⟨S, z, rfl⟩
    · simp at hk
    simp only [List.concat_eq_append, List.length_append, List.length_cons, List.length_nil] at hk hj hl ⊢
    have e0 : Q ++ (S ++ [z] ++ x :: R) = (Q ++ S) ++ z :: ([] ++ x :: R) := by simp
    have w1 : IntKind.i64.wrap (j - 1) = ((Q ++ S).length : Int) := fK _ (by simp; omega) (by simp; omega)
    have hj' : j = (((Q ++ S).length + 1 + ([] : List Formula).length : Nat) : Int) := by rw [hj]; simp; omega
    have i1 : dS ((Q ++ S) ++ z :: ([] ++ x :: R)) j = some x := by
      have := gp (Q ++ S ++ [z]) x R j (by rw [hj']; simp; omega)
      simpa using this
    have i2 : dS ((Q ++ S) ++ z :: ([] ++ x :: R)) ((Q ++ S).length : Int) = some z := gp _ _ _ _ rfl
    rw [dD, e0]
    have hlt : j > i := by omega
    have jn : j.toNat = (Q ++ S).length + 1 + ([] : List Formula).length := by omega
    simp only [hlt, decide_true, if_true, w1, i1, i2, Option.bind_some, jn]
    have i3 : dS (((Q ++ S) ++ z :: ([] ++ x :: R)).set ((Q ++ S).length + 1 + ([] : List Formula).length) z) ((Q ++ S).length : Int) = some z := by
      have : ((Q ++ S) ++ z :: ([] ++ x :: R)).set ((Q ++ S).length + 1 + ([] : List Formula).length) z = (Q ++ S) ++ z :: (z :: R) := by
        have := ze (Q ++ S ++ [z]) R x z ((Q ++ S).length + 1 + ([] : List Formula).length) (by simp; omega)
        simpa using this
      rw [this]; exact gp _ _ _ _ rfl
    rw [i3, Option.bind_some, Int.toNat_natCast, Az, Bn]
    have := ih S Q (z :: R) n ((Q ++ S).length : Int) i (by omega) (by omega) (by simp; omega) (by simp) hi
    simpa using this
end
end Go.Proofs.YtmlncblocfcmiaaGreat
namespace Go.Proofs.YtmlncblocfcmiaaGreat
open Go.RowKit
section
variable {c : Formula → Formula → Int} {G : Formula → Prop} {f : Formula × Formula → Option Int}
theorem Fu (a0 : List Formula) (a1 a3 a2 : Int) (rec : List Formula → Int → Int → Int → ((Formula × Formula) → Option Int) → Option (List Formula)) (mid m p : Nat) (hmid : a1 + a3 = ((2 * mid : Nat) : Int) ∨ a1 + a3 = ((2 * mid + 1 : Nat) : Int)) (hm : a2 = (m : Int)) (hp : p + 1 = mid + m)
    (pr : Nat → Bool) (lo hi : Nat) (hhi : hi ≤ 1000000) (hmd : mid ≤ 1000000) (hmb : mid + m ≤ 2000000) (hle : hi ≤ p + 1) (hpr : ∀ h, lo ≤ h → h < hi → Ask a0 f ((p - h : Nat) : Int) (h : Int) (!pr h)) : ∀ (d n i j : Nat), j - i ≤ d → d < n → lo ≤ i → i ≤ j → j ≤ hi → (i = lo ∨ pr (i - 1) = true) → (j = hi ∨ pr j = false) →
    ∃ t n', lo ≤ t ∧ t ≤ hi ∧ (t = lo ∨ pr (t - 1) = true) ∧ (t = hi ∨ pr t = false) ∧ bL a0 a1 a3 a2 f rec n (i : Int) (j : Int) = bL a0 a1 a3 a2 f rec (n' + 1) (t : Int) (t : Int) := by
  have hmid' : IntKind.i64.wrap (Int.fdiv (IntKind.u64.wrap (IntKind.i64.wrap (a1 + a3))) (2 ^ min (Int.toNat 1) (IntKind.bits .u64))) = (mid : Int) := by
    rcases hmid with h | h
    · rw [se _ h (by omega), show 2 * mid / 2 = mid by omega]
    · rw [se _ h (by omega), show (2 * mid + 1) / 2 = mid by omega]
  intro d
  induction d with
  | zero =>
    intro n i j h1 hn h2 h3 h4 h5 h6
    obtain ⟨n, rfl⟩ := Nat.exists_eq_succ_of_ne_zero (by omega : n ≠ 0)
    obtain rfl : i = j := by omega
    exact ⟨i, n, h2, h4, h5, h6, rfl⟩
  | succ d ih =>
    intro n i j h1 hn h2 h3 h4 h5 h6
    obtain ⟨n, rfl⟩ := Nat.exists_eq_succ_of_ne_zero (by omega : n ≠ 0)
    by_cases hij : i = j
    · subst hij; exact ⟨i, n, h2, h4, h5, h6, rfl⟩
    have hh := se (i + j) (x := (i : Int) + (j : Int)) (by omega) (by omega)
    obtain ⟨x, y, r, e1, e2, e3, e4⟩ := hpr ((i + j) / 2) (by omega) (by omega)
    have w1 : IntKind.i64.wrap ((mid : Int) + a2) = ((mid + m : Nat) : Int) := fK _ (by omega) (by omega)
    have w2 : IntKind.i64.wrap (((mid + m : Nat) : Int) - 1) = (p : Int) := fK _ (by omega) (by omega)
    have w3 : IntKind.i64.wrap ((p : Int) - (((i + j) / 2 : Nat) : Int)) = ((p - (i + j) / 2 : Nat) : Int) := fK _ (by omega) (by omega)
    rw [bL]
    have hlt : ((i : Int) < (j : Int)) := by omega
    simp only [hlt, decide_true, if_true, hh, hmid', w1, w2, w3, e1, e2, e3, e4, Option.bind_some, Bool.not_not]
    cases hpp : pr ((i + j) / 2)
    · simp only [Bool.false_eq_true, if_false]
      exact ih n i ((i + j) / 2) (by omega) (by omega) h2 (by omega) (by omega) h5 (.inr hpp)
    · simp only [if_true]
      rw [fK ((i + j) / 2 + 1) (by omega) (by omega)]
      exact ih n ((i + j) / 2 + 1) j (by omega) (by omega) (by omega) (by omega) h4 (.inr (by simpa using hpp)) h6
theorem Ed (a0 : List Formula) (a1 a3 a2 : Int) (rec : List Formula → Int → Int → Int → ((Formula × Formula) → Option Int) → Option (List Formula)) (mid m t : Nat) (n : Nat) (hmid : a1 + a3 = ((2 * mid : Nat) : Int) ∨ a1 + a3 = ((2 * mid + 1 : Nat) : Int)) (hm : a2 = (m : Int)) (hmd : mid ≤ 1000000) (hmb : mid + m ≤ 2000000) (ht : t ≤ mid + m) :
    bL a0 a1 a3 a2 f rec (n + 1) (t : Int) (t : Int) =
      ((if t < m ∧ m < mid + m - t then dU a0 (t : Int) a2 ((mid + m - t : Nat) : Int) f else some a0).bind fun l => ((if a1 < (t : Int) ∧ t < mid then rec l a1 (t : Int) (mid : Int) f else some l).bind fun l => if mid < mid + m - t ∧ ((mid + m - t : Nat) : Int) < a3 then rec l (mid : Int) ((mid + m - t : Nat) : Int) a3 f else some l)) := by
  have hmid' : IntKind.i64.wrap (Int.fdiv (IntKind.u64.wrap (IntKind.i64.wrap (a1 + a3))) (2 ^ min (Int.toNat 1) (IntKind.bits .u64))) = (mid : Int) := by
    rcases hmid with h | h
    · rw [se _ h (by omega), show 2 * mid / 2 = mid by omega]
    · rw [se _ h (by omega), show (2 * mid + 1) / 2 = mid by omega]
  have w1 : IntKind.i64.wrap ((mid : Int) + a2) = ((mid + m : Nat) : Int) := fK _ (by omega) (by omega)
  have w2 : IntKind.i64.wrap (((mid + m : Nat) : Int) - (t : Int)) = ((mid + m - t : Nat) : Int) := fK _ (by omega) (by omega)
  rw [bL]
  simp only [Int.lt_irrefl, decide_false, Bool.false_eq_true, if_false, hmid', w1, w2, jA]
  subst hm
  have e1 : ((t : Int) < (m : Int)) = (t < m) := by simp
  have e2 : ((m : Int) < ((mid + m - t : Nat) : Int)) = (m < mid + m - t) := by rw [eq_iff_iff]; omega
  have e3 : ((t : Int) < (mid : Int)) = (t < mid) := by simp
  have e4 : ((mid : Int) < ((mid + m - t : Nat) : Int)) = (mid < mid + m - t) := by rw [eq_iff_iff]; omega
  simp only [e1, e2, e3, e4]
  have key : ∀ (p q : Prop) [Decidable p] [Decidable q] (A B : Option (List Formula)), ((if decide p = true then some (decide q) else some false : Option Bool).bind fun x => if x = true then A else B) = if p ∧ q then A else B := by
    intro p q _ _ A B
    by_cases hp : p <;> by_cases hq : q <;> simp [hp, hq]
  simp only [key]
theorem AC (p A q : List Formula) (h : Nat) (h0 : p.length ≤ h) (h1 : h < p.length + A.length) : ∃ x, A[h - p.length]? = some x ∧ dS (p ++ (A ++ q)) (h : Int) = some x := by
  obtain ⟨x, hx⟩ : ∃ x, A[h - p.length]? = some x := ⟨_, List.getElem?_eq_getElem (by omega)⟩
  refine ⟨x, hx, ?_⟩
  rw [un, List.getElem?_append_right h0, List.getElem?_append_left (by omega), hx]
end
end Go.Proofs.YtmlncblocfcmiaaGreat
namespace Go.Proofs.YtmlncblocfcmiaaGreat
open Go.RowKit
section
variable {c : Formula → Formula → Int} {G : Formula → Prop} {f : Formula × Formula → Option Int}
theorem sr {α : Type} {P A' : List α} {z : α} (S : List α) (h : P = A' ++ [z]) : (P ++ S)[P.length - 1]? = some z := by subst h; simp
theorem sK {α : Type} {S B' : List α} {z : α} (P : List α) (h : S = z :: B') : (P ++ S)[P.length]? = some z := by subst h; simp
theorem oB {A : List (Formula × Nat)} {i : Nat} {z : Formula × Nat} (h : A[i]? = some z) : (A.map (·.1))[i]? = some z.1 := by simp [h]
theorem E2 (h : SWO (gK c)) (hf : rR f c G) (x : Formula × Nat) (B : List (Formula × Nat)) (pre post : List Formula) (a m b : Int) (hB : gN (gK c) B) (ht : ∀ y ∈ B, x.2 < y.2) (hG : ∀ y ∈ x :: B, G y.1)
    (hl : (pre ++ x.1 :: (B.map (·.1) ++ post)).length ≤ 400000) (ha : a = (pre.length : Int)) (hm : m = ((pre.length + 1 : Nat) : Int)) (hb : b = ((pre.length + 1 + B.length : Nat) : Int)) :
    ∃ u, bY (pre ++ x.1 :: (B.map (·.1) ++ post)) a f bR m b = some (pre ++ (u.map (·.1) ++ post)) ∧ gN (gK c) u ∧ u.Perm (x :: B) := by
  have hl2 := hl
  simp only [List.length_append, List.length_cons, List.length_map] at hl2
  let pr : Nat → Bool := fun k => match (B.map (·.1))[k - (pre.length + 1)]? with | some y => gK c y x.1 | none => false
  have hask : ∀ k, pre.length + 1 ≤ k → k < pre.length + 1 + B.length → Ask (pre ++ x.1 :: (B.map (·.1) ++ post)) f (k : Int) a (pr k) := by
    intro k h1 h2
    obtain ⟨y, e1, e2⟩ := AC (pre ++ [x.1]) (B.map (·.1)) post k (by simp; omega) (by simp; omega)
    have e3 : dS (pre ++ x.1 :: (B.map (·.1) ++ post)) (k : Int) = some y := by simpa using e2
    have e4 : dS (pre ++ x.1 :: (B.map (·.1) ++ post)) a = some x.1 := gp _ _ _ _ ha
    have hy : G y := by
      obtain ⟨q, hq, rfl⟩ := List.mem_map.1 (List.mem_of_getElem? e1)
      exact hG q (by simp [hq])
    refine ⟨y, x.1, _, e3, e4, hf y x.1 hy (hG x (by simp)), ?_⟩
    simp only [List.length_append, List.length_cons, List.length_nil] at e1
    simp only [pr, e1]
  obtain ⟨t, n', t1, t2, t3, t4, e⟩ := FT (f := f) _ a pr (pre.length + 1) (pre.length + 1 + B.length) (by omega) hask B.length bR (pre.length + 1) (pre.length + 1 + B.length) (by omega) (by rw [fC]; omega) (Nat.le_refl _) (by omega) (Nat.le_refl _) (.inl rfl) (.inl rfl)
  rw [hm, hb, e, bY]
  simp only [Int.lt_irrefl, decide_false, Bool.false_eq_true, if_false, jA]
  obtain ⟨P, S, rfl, hP⟩ := nv (l := B) (n := t - (pre.length + 1)) (by omega)
  simp only [List.length_append] at hl2 t2 t4
  have e5 : pre ++ x.1 :: ((P ++ S).map (·.1) ++ post) = pre ++ x.1 :: (P.map (·.1) ++ (S.map (·.1) ++ post)) := by simp
  rw [e5, Fq x.1 (P.map (·.1)) pre (S.map (·.1) ++ post) bR a (t : Int) (by rw [fC]; simp; omega) (by simp; omega) ha (by simp; omega)]
  refine ⟨P ++ x :: S, by simp, wM h hB ?_ ?_, List.perm_middle⟩
  · intro A' z b' B' hA hB'
    simp only [List.cons.injEq] at hB'
    rw [← hB'.1]
    have hPl : 0 < P.length := by rw [hA]; simp
    have hp : pr (t - 1) = true := by
      rcases t3 with t3 | t3
      · omega
      · exact t3
    have hg := oB (sr S hA)
    rw [show P.length - 1 = t - 1 - (pre.length + 1) by omega] at hg
    simp only [pr, hg] at hp
    exact .inl hp
  · intro A' z b' B' hA hB'
    have hz : z = x := by
      cases A' with
      | nil => simpa using hA.symm
      | cons _ A' => simp at hA
    rw [hz]
    have hSl : 0 < S.length := by rw [hB']; simp
    have hp : pr t = false := by
      rcases t4 with t4 | t4
      · omega
      · exact t4
    have hg := oB (sK P hB')
    rw [hP] at hg
    simp only [pr, hg] at hp
    exact .inr ⟨hp, ht b' (by rw [hB']; simp)⟩
theorem E5 (h : SWO (gK c)) (hf : rR f c G) (y : Formula × Nat) (A : List (Formula × Nat)) (pre post : List Formula) (a m : Int) (hA : gN (gK c) A) (ht : ∀ x ∈ A, x.2 < y.2) (hG : ∀ x ∈ y :: A, G x.1)
    (hl : (pre ++ (A.map (·.1) ++ y.1 :: post)).length ≤ 400000) (ha : a = (pre.length : Int)) (hm : m = ((pre.length + A.length : Nat) : Int)) :
    ∃ u, bZ (pre ++ (A.map (·.1) ++ y.1 :: post)) m f bR a m = some (pre ++ (u.map (·.1) ++ post)) ∧ gN (gK c) u ∧ u.Perm (A ++ [y]) := by
  have hl2 := hl
  simp only [List.length_append, List.length_cons, List.length_map] at hl2
  let pr : Nat → Bool := fun k => match (A.map (·.1))[k - pre.length]? with | some x => !gK c y.1 x | none => false
  have hask : ∀ k, pre.length ≤ k → k < pre.length + A.length → Ask (pre ++ (A.map (·.1) ++ y.1 :: post)) f m (k : Int) (!pr k) := by
    intro k h1 h2
    obtain ⟨x, e1, e2⟩ := AC pre (A.map (·.1)) (y.1 :: post) k h1 (by simp; omega)
    have e4 : dS (pre ++ (A.map (·.1) ++ y.1 :: post)) m = some y.1 := by
      have := gp (pre ++ A.map (·.1)) y.1 post m (by rw [hm]; simp)
      simpa using this
    have hx : G x := by
      obtain ⟨q, hq, rfl⟩ := List.mem_map.1 (List.mem_of_getElem? e1)
      exact hG q (by simp [hq])
    refine ⟨y.1, x, _, e4, e2, hf y.1 x (hG y (by simp)) hx, ?_⟩
    simp only [pr, e1, Bool.not_not]
  obtain ⟨t, n', t1, t2, t3, t4, e⟩ := FI (f := f) _ m pr pre.length (pre.length + A.length) (by omega) hask A.length bR pre.length (pre.length + A.length) (by omega) (by rw [fC]; omega) (Nat.le_refl _) (by omega) (Nat.le_refl _) (.inl rfl) (.inl rfl)
  rw [← hm, ← ha] at e
  rw [e, bZ]
  simp only [Int.lt_irrefl, decide_false, Bool.false_eq_true, if_false, jA]
  obtain ⟨P, S, rfl, hP⟩ := nv (l := A) (n := t - pre.length) (by omega)
  simp only [List.length_append] at hl2 t2 t4 hm
  have e5 : pre ++ ((P ++ S).map (·.1) ++ y.1 :: post) = (pre ++ P.map (·.1)) ++ (S.map (·.1) ++ y.1 :: post) := by simp
  rw [e5, FM y.1 S.length (S.map (·.1)) (pre ++ P.map (·.1)) post bR m (t : Int) (by simp) (by rw [fC]; omega) (by simp; omega) (by rw [hm]; simp; omega) (by simp; omega)]
  refine ⟨P ++ y :: S, by simp, wM h hA ?_ ?_, List.perm_middle.trans (List.perm_append_singleton y (P ++ S)).symm⟩
  · intro A' z b' B' hA' hB'
    simp only [List.cons.injEq] at hB'
    rw [← hB'.1]
    have hPl : 0 < P.length := by rw [hA']; simp
    have hp : pr (t - 1) = true := by
      rcases t3 with t3 | t3
      · omega
      · exact t3
    have hg := oB (sr S hA')
    rw [show P.length - 1 = t - 1 - pre.length by omega] at hg
    simp only [pr, hg, Bool.not_eq_true'] at hp
    exact .inr ⟨hp, ht z (by rw [hA']; simp)⟩
  · intro A' z b' B' hA' hB'
    have hz : z = y := by
      cases A' with
      | nil => simpa using hA'.symm
      | cons _ A' => simp at hA'
    rw [hz]
    have hSl : 0 < S.length := by rw [hB']; simp
    have hp : pr t = false := by
      rcases t4 with t4 | t4
      · omega
      · exact t4
    have hg := oB (sK P hB')
    rw [hP] at hg
    simp only [pr, hg, Bool.not_eq_false'] at hp
    exact .inl hp
theorem CD {α : Type} {A1 A2 B1 B2 C1 C2 : List α} (p1 : C1.Perm (A1 ++ B1)) (p2 : C2.Perm (A2 ++ B2)) : (C1 ++ C2).Perm ((A1 ++ A2) ++ (B1 ++ B2)) := by
  refine (p1.append p2).trans ?_
  simp only [List.append_assoc]
  refine List.Perm.append_left A1 ?_
  exact List.perm_append_comm_assoc B1 A2 B2
def Df (c : Formula → Formula → Int) (A B : List Formula) (ia im p q : Nat) : Bool := match A[q - ia]?, B[p - q - im]? with | some x, some y => !gK c y x | _, _ => false
theorem yv {A B : List Formula} {ia im p q : Nat} {x y : Formula} (h1 : A[q - ia]? = some x) (h2 : B[p - q - im]? = some y) : Df c A B ia im p q = !gK c y x := by simp only [Df, h1, h2]
theorem FA (hf : rR f c G) (A B : List (Formula × Nat)) (pre post : List Formula) (im p : Nat) (him : im = pre.length + A.length) (hG : ∀ x ∈ A ++ B, G x.1) (q : Nat) (q1 : pre.length ≤ q) (q2 : q < im) (q3 : im ≤ p - q) (q4 : p - q < im + B.length) :
    Ask (pre ++ (A.map (·.1) ++ (B.map (·.1) ++ post))) f ((p - q : Nat) : Int) (q : Int) (!Df c (A.map (·.1)) (B.map (·.1)) pre.length im p q) := by
  obtain ⟨x, e1, e2⟩ := AC pre (A.map (·.1)) (B.map (·.1) ++ post) q q1 (by simp; omega)
  obtain ⟨y, e3, e4⟩ := AC (pre ++ A.map (·.1)) (B.map (·.1)) post (p - q) (by simp; omega) (by simp; omega)
  have hx : G x := by
    obtain ⟨z, hz, rfl⟩ := List.mem_map.1 (List.mem_of_getElem? e1)
    exact hG z (by simp [hz])
  have hy : G y := by
    obtain ⟨z, hz, rfl⟩ := List.mem_map.1 (List.mem_of_getElem? e3)
    exact hG z (by simp [hz])
  have e5 : dS (pre ++ (A.map (·.1) ++ (B.map (·.1) ++ post))) ((p - q : Nat) : Int) = some y := by simpa using e4
  refine ⟨y, x, _, e5, e2, hf y x hy hx, ?_⟩
  rw [show p - q - (pre ++ A.map (·.1)).length = p - q - im by simp; omega] at e3
  rw [yv e1 e3, Bool.not_not]
abbrev FR (c : Formula → Formula → Int) (G : Formula → Prop) (f : Formula × Formula → Option Int) (rec : List Formula → Int → Int → Int → ((Formula × Formula) → Option Int) → Option (List Formula)) (k : Nat) : Prop :=
  ∀ (A B : List (Formula × Nat)) (pre post : List Formula) (a m b : Int), A.length + B.length ≤ k → 0 < A.length → 0 < B.length → gN (gK c) A → gN (gK c) B →
    (∀ x ∈ A, ∀ y ∈ B, x.2 < y.2) → (∀ x ∈ A ++ B, G x.1) → (pre ++ (A.map (·.1) ++ (B.map (·.1) ++ post))).length ≤ 400000 → a = (pre.length : Int) → m = ((pre.length + A.length : Nat) : Int) → b = ((pre.length + A.length + B.length : Nat) : Int) →
    ∃ u, rec (pre ++ (A.map (·.1) ++ (B.map (·.1) ++ post))) a m b f = some (pre ++ (u.map (·.1) ++ post)) ∧ gN (gK c) u ∧ u.Perm (A ++ B)
theorem EE (h : SWO (gK c)) {rec : List Formula → Int → Int → Int → ((Formula × Formula) → Option Int) → Option (List Formula)} {k : Nat} (ih : FR c G f rec k) (A1 A2 B1 B2 : List (Formula × Nat)) (pre post : List Formula) (a m b : Int) (mid im t : Nat)
    (him : im = pre.length + (A1.length + A2.length)) (hmd : mid = (pre.length + (im + (B1.length + B2.length))) / 2) (hA1 : A1.length = t - pre.length) (hB1 : B1.length = mid - t) (ht1 : pre.length ≤ t) (ht2 : t ≤ mid) (ht3 : t ≤ im) (hk : A1.length + A2.length + (B1.length + B2.length) ≤ k + 1) (hk2 : 2 ≤ A1.length + A2.length + (B1.length + B2.length))
    (hA : gN (gK c) (A1 ++ A2)) (hB : gN (gK c) (B1 ++ B2)) (ht : ∀ x ∈ A1 ++ A2, ∀ y ∈ B1 ++ B2, x.2 < y.2) (hG : ∀ x ∈ (A1 ++ A2) ++ (B1 ++ B2), G x.1) (hl : pre.length + (A1.length + A2.length + (B1.length + B2.length + post.length)) ≤ 400000)
    (ha : a = (pre.length : Int)) (hm : m = (im : Int)) (hb : b = ((im + (B1.length + B2.length) : Nat) : Int)) (l1 : Lk (gK c) A1 B2) (l2 : Lk (gK c) B1 A2) :
    ∃ u, ((if t < im ∧ im < mid + im - t then dU (pre ++ ((A1 ++ A2).map (·.1) ++ ((B1 ++ B2).map (·.1) ++ post))) (t : Int) m ((mid + im - t : Nat) : Int) f else some (pre ++ ((A1 ++ A2).map (·.1) ++ ((B1 ++ B2).map (·.1) ++ post)))).bind fun l =>
      ((if a < (t : Int) ∧ t < mid then rec l a (t : Int) (mid : Int) f else some l).bind fun l => if mid < mid + im - t ∧ ((mid + im - t : Nat) : Int) < b then rec l (mid : Int) ((mid + im - t : Nat) : Int) b f else some l)) = some (pre ++ (u.map (·.1) ++ post)) ∧ gN (gK c) u ∧ u.Perm ((A1 ++ A2) ++ (B1 ++ B2)) := by
  have r1 : (if t < im ∧ im < mid + im - t then dU (pre ++ ((A1 ++ A2).map (·.1) ++ ((B1 ++ B2).map (·.1) ++ post))) (t : Int) m ((mid + im - t : Nat) : Int) f else some (pre ++ ((A1 ++ A2).map (·.1) ++ ((B1 ++ B2).map (·.1) ++ post)))) =
      some (pre ++ (A1.map (·.1) ++ (B1.map (·.1) ++ (A2.map (·.1) ++ (B2.map (·.1) ++ post))))) := by
    by_cases hc : t < im ∧ im < mid + im - t
    · rw [if_pos hc]
      have := FL (f := f) (A2.map (·.1)) (B1.map (·.1)) (pre ++ A1.map (·.1)) (B2.map (·.1) ++ post) (t : Int) m ((mid + im - t : Nat) : Int) (by simp; omega) (by simp; omega) (by simp; omega) (by simp; omega) (by simp; omega) (by simp; omega)
      simpa using this
    · rw [if_neg hc]
      have : A2 = [] ∨ B1 = [] := by
        by_cases h1 : A2.length = 0
        · exact .inl (List.eq_nil_of_length_eq_zero h1)
        · exact .inr (List.eq_nil_of_length_eq_zero (by omega))
      rcases this with rfl | rfl <;> simp
  rw [r1, Option.bind_some]
  have r2 : ∃ C1, (if a < (t : Int) ∧ t < mid then rec (pre ++ (A1.map (·.1) ++ (B1.map (·.1) ++ (A2.map (·.1) ++ (B2.map (·.1) ++ post))))) a (t : Int) (mid : Int) f else some (pre ++ (A1.map (·.1) ++ (B1.map (·.1) ++ (A2.map (·.1) ++ (B2.map (·.1) ++ post)))))) =
      some (pre ++ (C1.map (·.1) ++ (A2.map (·.1) ++ (B2.map (·.1) ++ post)))) ∧ gN (gK c) C1 ∧ C1.Perm (A1 ++ B1) := by
    by_cases hc : a < (t : Int) ∧ t < mid
    · rw [if_pos hc]
      exact ih A1 B1 pre (A2.map (·.1) ++ (B2.map (·.1) ++ post)) a t mid (by omega) (by omega) (by omega) hA.left hB.left (fun x hx y hy => ht x (by simp [hx]) y (by simp [hy])) (fun x hx => hG x (by simp at hx ⊢; rcases hx with hx | hx <;> simp [hx]))
        (by simp; omega) ha (by omega) (by omega)
    · rw [if_neg hc]
      refine ⟨A1 ++ B1, by simp, yW h hA.left hB.left (fun A' x y B' q1 q2 => ?_), .refl _⟩
      have g1 : 0 < A1.length := by rw [q1]; simp
      have g2 : 0 < B1.length := by rw [q2]; simp
      omega
  obtain ⟨C1, c1e, c1s, c1p⟩ := r2
  have c1l := c1p.length_eq
  simp only [List.length_append] at c1l
  rw [c1e, Option.bind_some]
  have r3 : ∃ C2, (if mid < mid + im - t ∧ ((mid + im - t : Nat) : Int) < b then rec (pre ++ (C1.map (·.1) ++ (A2.map (·.1) ++ (B2.map (·.1) ++ post)))) (mid : Int) ((mid + im - t : Nat) : Int) b f else some (pre ++ (C1.map (·.1) ++ (A2.map (·.1) ++ (B2.map (·.1) ++ post))))) =
      some ((pre ++ C1.map (·.1)) ++ (C2.map (·.1) ++ post)) ∧ gN (gK c) C2 ∧ C2.Perm (A2 ++ B2) := by
    by_cases hc : mid < mid + im - t ∧ ((mid + im - t : Nat) : Int) < b
    · rw [if_pos hc]
      have := ih A2 B2 (pre ++ C1.map (·.1)) post mid ((mid + im - t : Nat) : Int) b (by omega) (by omega) (by omega) hA.right hB.right (fun x hx y hy => ht x (by simp [hx]) y (by simp [hy])) (fun x hx => hG x (by simp at hx ⊢; rcases hx with hx | hx <;> simp [hx]))
        (by simp; omega) (by simp; omega) (by simp; omega) (by simp; omega)
      simpa using this
    · rw [if_neg hc]
      refine ⟨A2 ++ B2, by simp, yW h hA.right hB.right (fun A' x y B' q1 q2 => ?_), .refl _⟩
      have g1 : 0 < A2.length := by rw [q1]; simp
      have g2 : 0 < B2.length := by rw [q2]; simp
      omega
  obtain ⟨C2, c2e, c2s, c2p⟩ := r3
  rw [c2e]
  exact ⟨C1 ++ C2, by simp, DK h hA hB l1 l2 c1p c2p c1s c2s, CD c1p c2p⟩
theorem B5 (F : Nat) (hF : 1000000 < F) (L : List Formula) (rec : List Formula → Int → Int → Int → ((Formula × Formula) → Option Int) → Option (List Formula)) (pl al bl mid im p : Nat) (a b m : Int) (pr : Nat → Bool) (hal : 0 < al) (hbl : 0 < bl) (hsz : pl + (al + bl) ≤ 400000) (hmd : mid = (pl + (pl + al + bl)) / 2) (him : im = pl + al) (hp : p + 1 = mid + im)
    (hab : a + b = ((2 * mid : Nat) : Int) ∨ a + b = ((2 * mid + 1 : Nat) : Int)) (ha : a = (pl : Int)) (hm' : m = (im : Int)) (hb : b = ((pl + al + bl : Nat) : Int)) (hask : ∀ q, pl ≤ q → q < im → im ≤ p - q → p - q < im + bl → Ask L f ((p - q : Nat) : Int) (q : Int) (!pr q)) :
    ∃ t n' lo hi : Nat, (lo = pl ∧ hi = im ∧ im ≤ mid ∨ lo + (pl + al + bl) = mid + im ∧ hi = mid ∧ mid < im) ∧ lo ≤ t ∧ t ≤ hi ∧ (t = lo ∨ pr (t - 1) = true) ∧ (t = hi ∨ pr t = false) ∧
        ((if decide (m > (mid : Int)) then some (IntKind.i64.wrap (((mid + im : Nat) : Int) - b), (mid : Int)) else some (a, m) : Option (Int × Int)).bind fun x => bL L a b m f rec F x.1 x.2) =
          bL L a b m f rec (n' + 1) (t : Int) (t : Int) := by
  by_cases hmm : mid < im
  · obtain ⟨lo, hlo⟩ : ∃ lo : Nat, lo + (pl + al + bl) = mid + im := ⟨mid + im - (pl + al + bl), by omega⟩
    obtain ⟨t, n', t1, t2, t3, t4, e⟩ := Fu (f := f) L a b m rec mid im p hab hm' hp pr lo mid (by omega) (by omega) (by omega) (by omega) (fun q q1 q2 => hask q (by omega) (by omega) (by omega) (by omega))
      (mid - lo) F lo mid (Nat.le_refl _) (by omega) (Nat.le_refl _) (by omega) (Nat.le_refl _) (.inl rfl) (.inl rfl)
    refine ⟨t, n', lo, mid, .inr ⟨hlo, rfl, hmm⟩, t1, t2, t3, t4, ?_⟩
    have hgt : m > (mid : Int) := by omega
    simp only [hgt, decide_true, if_true, Option.bind_some]
    rw [fK lo (by omega) (by omega), e]
  · obtain ⟨t, n', t1, t2, t3, t4, e⟩ := Fu (f := f) L a b m rec mid im p hab hm' hp pr pl im (by omega) (by omega) (by omega) (by omega) (fun q q1 q2 => hask q (by omega) (by omega) (by omega) (by omega))
      (im - pl) F pl im (Nat.le_refl _) (by omega) (Nat.le_refl _) (by omega) (Nat.le_refl _) (.inl rfl) (.inl rfl)
    refine ⟨t, n', pl, im, .inl ⟨rfl, rfl, by omega⟩, t1, t2, t3, t4, ?_⟩
    have hgt : ¬ (m > (mid : Int)) := by omega
    simp only [hgt, decide_false, Bool.false_eq_true, if_false, Option.bind_some]
    rw [← e, ← ha, ← hm']
set_option maxHeartbeats 2000000 in
theorem Fx (h : SWO (gK c)) (hf : rR f c G) : ∀ (k : Nat) (A B : List (Formula × Nat)) (pre post : List Formula) (n : Nat) (a m b : Int), A.length + B.length ≤ k → 0 < A.length → 0 < B.length → k < n → gN (gK c) A → gN (gK c) B →
    (∀ x ∈ A, ∀ y ∈ B, x.2 < y.2) → (∀ x ∈ A ++ B, G x.1) → (pre ++ (A.map (·.1) ++ (B.map (·.1) ++ post))).length ≤ 400000 → a = (pre.length : Int) → m = ((pre.length + A.length : Nat) : Int) → b = ((pre.length + A.length + B.length : Nat) : Int) →
    ∃ u, cP n (pre ++ (A.map (·.1) ++ (B.map (·.1) ++ post))) a m b f = some (pre ++ (u.map (·.1) ++ post)) ∧ gN (gK c) u ∧ u.Perm (A ++ B) := by
  intro k
  induction k with
  | zero => intro A B pre post n a m b h0 h1 h2; omega
  | succ k ih =>
    intro A B pre post n a m b h0 h1 h2 hn hA hB ht hG hl ha hm hb
    obtain ⟨n, rfl⟩ := Nat.exists_eq_succ_of_ne_zero (by omega : n ≠ 0)
    have hl2 := hl
    simp only [List.length_append, List.length_map] at hl2
    rw [cP]
    unfold gm
    by_cases c1 : A.length = 1
    · obtain ⟨x, rfl⟩ := List.length_eq_one_iff.1 c1
      have : (IntKind.i64.wrap (m - a) == 1) = true := by rw [fK 1 (by simp at hm; omega) (by omega)]; rfl
      simp only [this, if_true]
      obtain ⟨u, u1, u2, u3⟩ := E2 h hf x B pre post a m b hB (fun y hy => ht x (by simp) y hy) (fun y hy => hG y (by simpa using hy)) (by simpa using hl) ha (by simpa using hm) (by simpa using hb)
      exact ⟨u, by simpa using u1, u2, by simpa using u3⟩
    have n1 : (IntKind.i64.wrap (m - a) == 1) = false := by rw [fK A.length (by omega) (by omega)]; simp; omega
    simp only [n1, Bool.false_eq_true, if_false]
    by_cases c2 : B.length = 1
    · obtain ⟨y, rfl⟩ := List.length_eq_one_iff.1 c2
      have : (IntKind.i64.wrap (b - m) == 1) = true := by rw [fK 1 (by simp at hb; omega) (by omega)]; rfl
      simp only [this, if_true]
      obtain ⟨u, u1, u2, u3⟩ := E5 h hf y A pre post a m hA (fun x hx => ht x hx y (by simp)) (fun x hx => hG x (by simp at hx ⊢; exact hx.symm)) (by simpa using hl) ha hm
      exact ⟨u, by simpa using u1, u2, u3⟩
    have n2 : (IntKind.i64.wrap (b - m) == 1) = false := by rw [fK B.length (by omega) (by omega)]; simp; omega
    simp only [n2, Bool.false_eq_true, if_false]
    obtain ⟨F, hF, hF2⟩ : ∃ F, F = bR ∧ 1000000 < F := ⟨bR, rfl, by rw [fC]; omega⟩
    rw [← hF]
    obtain ⟨mid, hmd⟩ : ∃ mid : Nat, mid = (pre.length + (pre.length + A.length + B.length)) / 2 := ⟨_, rfl⟩
    obtain ⟨im, him⟩ : ∃ im : Nat, im = pre.length + A.length := ⟨_, rfl⟩
    obtain ⟨p, hp⟩ : ∃ p : Nat, p + 1 = mid + im := ⟨mid + im - 1, by omega⟩
    have hab : a + b = ((2 * mid : Nat) : Int) ∨ a + b = ((2 * mid + 1 : Nat) : Int) := by omega
    have hmid' : IntKind.i64.wrap (Int.fdiv (IntKind.u64.wrap (IntKind.i64.wrap (a + b))) (2 ^ min (Int.toNat 1) (IntKind.bits .u64))) = (mid : Int) := by
      rcases hab with h | h
      · rw [se _ h (by omega), show 2 * mid / 2 = mid by omega]
      · rw [se _ h (by omega), show (2 * mid + 1) / 2 = mid by omega]
    have hm' : m = (im : Int) := by omega
    have w1 : IntKind.i64.wrap ((mid : Int) + m) = ((mid + im : Nat) : Int) := fK _ (by omega) (by omega)
    obtain ⟨pr, hpr0⟩ : ∃ pr : Nat → Bool, pr = Df c (A.map (·.1)) (B.map (·.1)) pre.length im p := ⟨_, rfl⟩
    have hask : ∀ q, pre.length ≤ q → q < im → im ≤ p - q → p - q < im + B.length → Ask (pre ++ (A.map (·.1) ++ (B.map (·.1) ++ post))) f ((p - q : Nat) : Int) (q : Int) (!pr q) := fun q q1 q2 q3 q4 => by rw [hpr0]; exact FA hf A B pre post im p him hG q q1 q2 q3 q4
    obtain ⟨t, n', lo, hi, hlh, t1, t2, t3, t4, e⟩ := B5 (f := f) F hF2 (pre ++ (A.map (·.1) ++ (B.map (·.1) ++ post))) (cP n) pre.length A.length B.length mid im p a b m pr (by omega) (by omega) (by omega) hmd him hp hab ha hm' hb hask
    simp only [hmid', w1]
    rw [e, Ed (f := f) _ a b m _ mid im t n' hab hm' (by omega) (by omega) (by omega)]
    obtain ⟨A1, A2, rfl, hA1⟩ := nv (l := A) (n := t - pre.length) (by omega)
    obtain ⟨B1, B2, rfl, hB1⟩ := nv (l := B) (n := mid - t) (by omega)
    simp only [List.length_append] at h0 h1 h2 hl2 t1 t2 t3 t4 hlh hm hb him hmd
    have hpr : ∀ q x y, ((A1 ++ A2).map (·.1))[q - pre.length]? = some x → ((B1 ++ B2).map (·.1))[p - q - im]? = some y → pr q = !gK c y x := fun q x y e1 e2 => by rw [hpr0]; exact yv e1 e2
    have l1 : Lk (gK c) A1 B2 := by
      intro A' z b' B' q1 q2
      have g1 : 0 < A1.length := by rw [q1]; simp
      have g2 : 0 < B2.length := by rw [q2]; simp
      have hq : pr (t - 1) = true := by
        rcases t3 with t3 | t3
        · omega
        · exact t3
      have e1 := oB (sr A2 q1)
      have e2 := oB (sK B1 q2)
      rw [show A1.length - 1 = t - 1 - pre.length by omega] at e1
      rw [show B1.length = p - (t - 1) - im by omega] at e2
      rw [hpr _ _ _ e1 e2, Bool.not_eq_true'] at hq
      exact .inr ⟨hq, ht z (by rw [q1]; simp) b' (by rw [q2]; simp)⟩
    have l2 : Lk (gK c) B1 A2 := by
      intro A' z b' B' q1 q2
      have g1 : 0 < B1.length := by rw [q1]; simp
      have g2 : 0 < A2.length := by rw [q2]; simp
      have hq : pr t = false := by
        rcases t4 with t4 | t4
        · omega
        · exact t4
      have e1 := oB (sr B2 q1)
      have e2 := oB (sK A1 q2)
      rw [show B1.length - 1 = p - t - im by omega] at e1
      rw [hA1] at e2
      rw [hpr _ _ _ e2 e1, Bool.not_eq_false'] at hq
      exact .inl hq
    exact EE h (fun A B pre post a m b q1 q2 q3 => ih A B pre post n a m b q1 q2 q3 (by omega)) A1 A2 B1 B2 pre post a m b mid im t him (by rw [hmd]; congr 1; omega) hA1 hB1 (by omega) (by omega) (by omega) (by omega) (by omega) hA hB ht hG (by omega) ha hm' (by rw [hb]; congr 1; omega) l1 l2
end
end Go.Proofs.YtmlncblocfcmiaaGreat
namespace Go.Proofs.YtmlncblocfcmiaaGreat
open Go.RowKit
section
variable {c : Formula → Formula → Int} {G : Formula → Prop} {f : Formula × Formula → Option Int}
def nS (c : Formula → Formula → Int) : Nat → List (List (Formula × Nat)) → Prop
  | _, [] => True
  | o, A :: bs => gN (gK c) A ∧ (∀ x ∈ A, o ≤ x.2 ∧ x.2 < o + A.length) ∧ nS c (o + A.length) bs
def WB (s : Nat) : List (List (Formula × Nat)) → Prop
  | [] => True
  | A :: bs => A.length ≤ s ∧ (bs ≠ [] → A.length = s) ∧ WB s bs
theorem nS.append : ∀ {ds bs : List (List (Formula × Nat))} {o : Nat}, nS c o (ds ++ bs) ↔ nS c o ds ∧ nS c (o + ds.flatten.length) bs
  | [], bs, o => by simp [nS]
  | A :: ds, bs, o => by
    simp only [List.cons_append, nS, nS.append (ds := ds), List.flatten_cons, List.length_append, and_assoc, Nat.add_assoc]
def fm (bs : List (List (Formula × Nat))) : List Formula := bs.flatten.map (·.1)
theorem xB (a b : List (List (Formula × Nat))) : fm (a ++ b) = fm a ++ fm b := by simp [fm]
theorem zG (A : List (Formula × Nat)) (b : List (List (Formula × Nat))) : fm (A :: b) = A.map (·.1) ++ fm b := by simp [fm]
theorem jR (a : List (List (Formula × Nat))) : (fm a).length = a.flatten.length := by unfold fm; rw [List.length_map]
theorem Bt (ds : List (List (Formula × Nat))) (C : List (Formula × Nat)) : (ds ++ [C]).flatten.length = ds.flatten.length + C.length := by rw [List.flatten_append, List.length_append]; simp only [List.flatten_cons, List.flatten_nil, List.append_nil]
theorem EF (C : List (Formula × Nat)) (bs : List (List (Formula × Nat))) : fm ([C] ++ bs) = C.map (·.1) ++ fm bs := by simp [fm]
theorem ux {R : List Formula} {o : Nat} {x : Formula × Nat} (h : x ∈ R.zipIdx o) : x.1 ∈ R := List.fst_mem_of_mem_zipIdx h
theorem WB.two {s : Nat} {A : List (Formula × Nat)} {bs : List (List (Formula × Nat))} (hs : 0 < s) (h : WB s (A :: bs)) (hl : s < (A :: bs).flatten.length) : A.length = s ∧ ∃ B bs', bs = B :: bs' ∧ (B.length = s ∨ bs' = []) ∧ B.length ≤ s ∧ WB s bs' := by
  cases bs with
  | nil => simp at hl; have := h.1; omega
  | cons B bs' =>
    refine ⟨h.2.1 (by simp), B, bs', rfl, ?_, h.2.2.1, h.2.2.2.2⟩
    by_cases hb : bs' = []
    · exact .inr hb
    · exact .inl (h.2.2.2.1 hb)
theorem xY (h : SWO (gK c)) (hf : rR f c G) {ds bs : List (List (Formula × Nat))} {A B : List (Formula × Nat)} (hO : nS c 0 (ds ++ A :: B :: bs)) (hG : ∀ x ∈ (ds ++ A :: B :: bs).flatten, G x.1) (hl : (fm (ds ++ A :: B :: bs)).length ≤ 400000) (hA : 0 < A.length) (hB : 0 < B.length) (a m b : Int)
    (ha : a = (ds.flatten.length : Int)) (hm : m = ((ds.flatten.length + A.length : Nat) : Int)) (hb : b = ((ds.flatten.length + A.length + B.length : Nat) : Int)) :
    ∃ C, cP bR (fm (ds ++ A :: B :: bs)) a m b f = some (fm ((ds ++ [C]) ++ bs)) ∧ nS c 0 ((ds ++ [C]) ++ bs) ∧ C.Perm (A ++ B) := by
  obtain ⟨h1, h2⟩ := nS.append.1 hO
  obtain ⟨sA, tA, sB, tB, hr⟩ := h2
  have e : fm (ds ++ A :: B :: bs) = fm ds ++ (A.map (·.1) ++ (B.map (·.1) ++ fm bs)) := by rw [xB, zG, zG]
  rw [e] at hl ⊢
  have hl2 := hl
  simp only [List.length_append, List.length_map, jR] at hl2
  obtain ⟨C, q1, q2, q3⟩ := Fx h hf (A.length + B.length) A B (fm ds) (fm bs) bR a m b (Nat.le_refl _) hA hB (by rw [fC]; omega) sA sB (fun x hx y hy => by have := (tA x hx).2; have := (tB y hy).1; omega)
    (fun x hx => hG x (by
      rw [List.flatten_append, List.flatten_cons, List.flatten_cons, List.mem_append, List.mem_append, List.mem_append]
      rcases List.mem_append.1 hx with hx | hx
      · exact .inr (.inl hx)
      · exact .inr (.inr (.inl hx)))) hl (by rw [ha, jR]) (by rw [hm, jR]) (by rw [hb, jR])
  have hCl := q3.length_eq
  simp only [List.length_append] at hCl
  refine ⟨C, by rw [q1, List.append_assoc, xB, EF], ?_, q3⟩
  · rw [List.append_assoc, nS.append]
    refine ⟨h1, q2, fun x hx => ?_, ?_⟩
    · rcases List.mem_append.1 (q3.mem_iff.1 hx) with hx | hx
      · have := tA x hx; omega
      · have := tB x hx; omega
    · rw [hCl, ← Nat.add_assoc]; exact hr
theorem yd {ds bs : List (List (Formula × Nat))} {A B C : List (Formula × Nat)} (h : C.Perm (A ++ B)) : ((ds ++ [C]) ++ bs).flatten.Perm (ds ++ A :: B :: bs).flatten := by
  simp only [List.flatten_append, List.flatten_cons, List.flatten_nil, List.append_nil, List.append_assoc]
  refine List.Perm.append_left _ ?_
  rw [← List.append_assoc]
  exact h.append_right _
theorem DU (h : SWO (gK c)) (hf : rR f c G) (s : Nat) (hs : 0 < s) (hs2 : s ≤ 1000000) (N : Nat) (hN : N ≤ 400000) : ∀ (k : Nat) (bs ds : List (List (Formula × Nat))) (n : Nat) (a b : Int), bs.length ≤ k → k < n → nS c 0 (ds ++ bs) → (∀ x ∈ (ds ++ bs).flatten, G x.1) → (ds ++ bs).flatten.length = N → WB s bs → (∀ A ∈ ds, A.length = 2 * s) →
    a = (ds.flatten.length : Int) → b = ((ds.flatten.length + 2 * s : Nat) : Int) →
    ∃ es r, dM (N : Int) (s : Int) f n (fm (ds ++ bs)) a b = some (fm (es ++ r), (es.flatten.length : Int)) ∧ nS c 0 (es ++ r) ∧ (es ++ r).flatten.Perm (ds ++ bs).flatten ∧ WB s r ∧ r.flatten.length < 2 * s ∧ (∀ A ∈ es, A.length = 2 * s) := by
  intro k
  induction k with
  | zero =>
    intro bs ds n a b hk hn hO hG hl hW hD ha hb
    obtain ⟨n, rfl⟩ := Nat.exists_eq_succ_of_ne_zero (by omega : n ≠ 0)
    obtain rfl := List.eq_nil_of_length_eq_zero (Nat.le_zero.1 hk)
    simp only [List.append_nil] at hl
    rw [dM]
    have : ¬ (b ≤ (N : Int)) := by omega
    simp only [this, decide_false, Bool.false_eq_true, if_false]
    exact ⟨ds, [], by rw [ha], hO, .refl _, trivial, by simp only [List.flatten_nil, List.length_nil]; omega, hD⟩
  | succ k ih =>
    intro bs ds n a b hk hn hO hG hl hW hD ha hb
    obtain ⟨n, rfl⟩ := Nat.exists_eq_succ_of_ne_zero (by omega : n ≠ 0)
    rw [dM]
    by_cases hle : b ≤ (N : Int)
    · simp only [hle, decide_true, if_true]
      have hl2 := hl
      rw [List.flatten_append, List.length_append] at hl2
      cases bs with
      | nil => simp only [List.flatten_nil, List.length_nil] at hl2; omega
      | cons A bs =>
        obtain ⟨hA, B, bs', rfl, hB, hB2, hW'⟩ := WB.two hs hW (by omega)
        have hB3 : B.length = s := by
          rcases hB with hB | rfl
          · exact hB
          · simp only [List.flatten_cons, List.flatten_nil, List.append_nil, List.length_append] at hl2; omega
        have w1 : IntKind.i64.wrap (a + (s : Int)) = ((ds.flatten.length + A.length : Nat) : Int) := fK _ (by omega) (by omega)
        obtain ⟨C, q1, q2, q3⟩ := xY h hf hO hG (by rw [jR]; omega) (by omega) (by omega) a _ b ha w1 (by omega)
        rw [q1, Option.bind_some]
        have hCl := q3.length_eq
        simp only [List.length_append] at hCl
        have w2 : IntKind.i64.wrap (2 * (s : Int)) = ((2 * s : Nat) : Int) := fK _ (by omega) (by omega)
        have hd : (ds ++ [C]).flatten.length = ds.flatten.length + 2 * s := by rw [Bt]; omega
        have w3 : IntKind.i64.wrap (b + ((2 * s : Nat) : Int)) = (((ds ++ [C]).flatten.length + 2 * s : Nat) : Int) := fK _ (by omega) (by omega)
        have hp := yd (ds := ds) (bs := bs') q3
        rw [w2, w3]
        obtain ⟨es, r, e1, e2, e3, e4, e5, e6⟩ := ih bs' (ds ++ [C]) n b _ (by simp at hk; omega) (by omega) q2 (fun x hx => hG x (hp.mem_iff.1 hx)) (by rw [hp.length_eq, hl]) hW' (fun X hX => by
          rcases List.mem_append.1 hX with hX | hX
          · exact hD X hX
          · simp at hX; rw [hX]; omega) (by rw [hd]; omega) rfl
        exact ⟨es, r, e1, e2, e3.trans hp, e4, e5, e6⟩
    · simp only [hle, decide_false, Bool.false_eq_true, if_false]
      refine ⟨ds, bs, by rw [ha], hO, .refl _, hW, ?_, hD⟩
      rw [List.flatten_append, List.length_append] at hl
      omega
theorem WB.of_len {t : Nat} : ∀ {es : List (List (Formula × Nat))} {C : List (Formula × Nat)}, (∀ A ∈ es, A.length = t) → C.length ≤ t → WB t (es ++ [C])
  | [], C, _, hC => ⟨hC, fun h => absurd rfl h, trivial⟩
  | E :: es, C, h, hC => ⟨by rw [h E (by simp)]; omega, fun _ => h E (by simp), WB.of_len (fun A hA => h A (by simp [hA])) hC⟩
theorem BU {s : Nat} {r : List (List (Formula × Nat))} {o : Nat} (hW : WB s r) (hl : r.flatten.length ≤ s) (hO : nS c o r) : gN (gK c) r.flatten ∧ ∀ x ∈ r.flatten, o ≤ x.2 ∧ x.2 < o + r.flatten.length := by
  cases r with
  | nil => exact ⟨.nil, fun x hx => by cases hx⟩
  | cons A r =>
    have : r.flatten = [] := by
      by_cases hb : r = []
      · rw [hb]; rfl
      · have := hW.2.1 hb
        rw [List.flatten_cons, List.length_append] at hl
        exact List.eq_nil_of_length_eq_zero (by omega)
    rw [List.flatten_cons, this, List.append_nil]
    exact ⟨hO.1, hO.2.1⟩
theorem B4 (h : SWO (gK c)) (hf : rR f c G) (N : Nat) (hN : N ≤ 400000) : ∀ (k s : Nat) (bs : List (List (Formula × Nat))) (n : Nat), N - s ≤ k → k < n → 0 < s → s ≤ 1000000 → nS c 0 bs → (∀ x ∈ bs.flatten, G x.1) → bs.flatten.length = N → WB s bs →
    ∃ u, cY (N : Int) f n (fm bs) (s : Int) = some (u.map (·.1)) ∧ gN (gK c) u ∧ u.Perm bs.flatten := by
  intro k
  induction k with
  | zero =>
    intro s bs n hk hn hs hs2 hO hG hl hW
    obtain ⟨n, rfl⟩ := Nat.exists_eq_succ_of_ne_zero (by omega : n ≠ 0)
    rw [cY]
    have : ¬ ((s : Int) < (N : Int)) := by omega
    simp only [this, decide_false, Bool.false_eq_true, if_false]
    refine ⟨bs.flatten, rfl, ?_, .refl _⟩
    cases bs with
    | nil => exact .nil
    | cons A bs =>
      have : bs.flatten = [] := by
        by_cases hb : bs = []
        · rw [hb]; rfl
        · have := hW.2.1 hb
          rw [List.flatten_cons, List.length_append] at hl
          exact List.eq_nil_of_length_eq_zero (by omega)
      rw [List.flatten_cons, this, List.append_nil]
      exact hO.1
  | succ k ih =>
    intro s bs n hk hn hs hs2 hO hG hl hW
    by_cases hlt : s < N
    · obtain ⟨n, rfl⟩ := Nat.exists_eq_succ_of_ne_zero (by omega : n ≠ 0)
      rw [cY]
      have : ((s : Int) < (N : Int)) := by omega
      simp only [this, decide_true, if_true]
      have w1 : IntKind.i64.wrap (2 * (s : Int)) = ((2 * s : Nat) : Int) := fK _ (by omega) (by omega)
      have w0 : IntKind.i64.wrap ((s : Int) * 2) = ((2 * s : Nat) : Int) := fK _ (by omega) (by omega)
      have hbl : bs.length ≤ 2000000 := by
        have : ∀ {bs : List (List (Formula × Nat))}, WB s bs → bs.length ≤ bs.flatten.length + 1 := by
          intro bs
          induction bs with
          | nil => intro _; simp
          | cons A bs ih2 =>
            intro hW
            by_cases hb : bs = []
            · subst hb; simp
            · have := hW.2.1 hb
              have := ih2 hW.2.2
              simp only [List.length_cons, List.flatten_cons, List.length_append]
              omega
        have := this hW
        omega
      obtain ⟨es, r, e1, e2, e3, e4, e5, e6⟩ := DU h hf s hs hs2 N hN bs.length bs [] bR 0 ((2 * s : Nat) : Int) (Nat.le_refl _) (by rw [fC]; omega) (by simpa using hO) (by simpa using hG) (by simpa using hl) hW (by simp) rfl (by simp)
      simp only [List.nil_append] at e1 e3
      rw [w1, e1, Option.bind_some, w0]
      have hl3 := e3.length_eq
      rw [hl, List.flatten_append, List.length_append] at hl3
      have w2 : IntKind.i64.wrap ((es.flatten.length : Int) + (s : Int)) = ((es.flatten.length + s : Nat) : Int) := fK _ (by omega) (by omega)
      simp only [w2]
      by_cases hm : es.flatten.length + s < N
      · have : (((es.flatten.length + s : Nat) : Int) < (N : Int)) := by omega
        simp only [this, decide_true, if_true, jA]
        cases r with
        | nil => simp only [List.flatten_nil, List.length_nil] at hl3; omega
        | cons A r =>
          obtain ⟨hA, B, r', rfl, hB, hB2, hW'⟩ := WB.two hs e4 (by omega)
          have hr' : r' = [] := by
            rcases hB with hB | hB
            · by_cases hr : r' = []
              · exact hr
              · simp only [List.flatten_cons, List.length_append] at e5; omega
            · exact hB
          subst hr'
          simp only [List.flatten_cons, List.flatten_nil, List.append_nil, List.length_append] at hl3 e5
          obtain ⟨C, q1, q2, q3⟩ := xY h hf e2 (fun x hx => hG x (e3.mem_iff.1 hx)) (by rw [jR, e3.length_eq]; omega) (by omega) (by omega) (es.flatten.length : Int) ((es.flatten.length + s : Nat) : Int) (N : Int) rfl (by omega) (by omega)
          rw [q1, Option.bind_some]
          have hCl := q3.length_eq
          simp only [List.length_append] at hCl
          have hp := (yd (ds := es) (bs := []) q3).trans e3
          simp only [List.append_nil] at q2 hp ⊢
          obtain ⟨u, u1, u2, u3⟩ := ih (2 * s) (es ++ [C]) n (by omega) (by omega) (by omega) (by omega) q2 (fun x hx => hG x (hp.mem_iff.1 hx)) (by rw [hp.length_eq, hl]) (WB.of_len e6 (by omega))
          exact ⟨u, u1, u2, u3.trans hp⟩
      · have : ¬ (((es.flatten.length + s : Nat) : Int) < (N : Int)) := by omega
        simp only [this, decide_false, Bool.false_eq_true, if_false, Option.bind_some]
        obtain ⟨hO1, hO2⟩ := nS.append.1 e2
        obtain ⟨b1, b2⟩ := BU e4 (by omega) hO2
        have hfm : fm (es ++ r) = fm (es ++ [r.flatten]) := by simp [fm]
        have hfl : (es ++ [r.flatten]).flatten = (es ++ r).flatten := by simp
        rw [hfm]
        obtain ⟨u, u1, u2, u3⟩ := ih (2 * s) (es ++ [r.flatten]) n (by omega) (by omega) (by omega) (by omega) (nS.append.2 ⟨hO1, b1, b2, trivial⟩) (fun x hx => hG x (e3.mem_iff.1 (by rw [← hfl]; exact hx))) (by rw [hfl, e3.length_eq, hl]) (WB.of_len e6 (by omega))
        exact ⟨u, u1, u2, by rw [hfl] at u3; exact u3.trans e3⟩
    · obtain ⟨n, rfl⟩ := Nat.exists_eq_succ_of_ne_zero (by omega : n ≠ 0)
      rw [cY]
      have : ¬ ((s : Int) < (N : Int)) := by omega
      simp only [this, decide_false, Bool.false_eq_true, if_false]
      refine ⟨bs.flatten, rfl, ?_, .refl _⟩
      cases bs with
      | nil => exact .nil
      | cons A bs =>
        have : bs.flatten = [] := by
          by_cases hb : bs = []
          · rw [hb]; rfl
          · have := hW.2.1 hb
            rw [List.flatten_cons, List.length_append] at hl
            exact List.eq_nil_of_length_eq_zero (by omega)
        rw [List.flatten_cons, this, List.append_nil]
        exact hO.1
theorem wN : ∀ (l : List Formula) (o : Nat), (l.zipIdx o).Pairwise (fun x y => x.2 < y.2)
  | [], o => by simp
  | x :: l, o => by
    rw [List.zipIdx_cons, List.pairwise_cons]
    refine ⟨fun y hy => ?_, wN l (o + 1)⟩
    obtain ⟨a, b⟩ := y
    have := List.le_snd_of_mem_zipIdx hy
    simp only at this ⊢; omega
theorem As (l : List Formula) (o : Nat) : ∀ x ∈ l.zipIdx o, o ≤ x.2 ∧ x.2 < o + l.length := by
  rintro ⟨a, b⟩ hx
  have h1 := List.le_snd_of_mem_zipIdx hx
  have h2 := List.snd_lt_add_of_mem_zipIdx hx
  simp only at h1 h2 ⊢; omega
theorem BG (h : SWO (gK c)) (hf : rR f c G) (N : Nat) (hN : N ≤ 300000) (R : List Formula) (ds : List (List (Formula × Nat))) (n : Nat) (a b : Int) (hn : 0 < n) (hO : nS c 0 ds) (hD : ∀ A ∈ ds, A.length = 20) (hG : ∀ x ∈ ds.flatten, G x.1) (hR : ∀ x ∈ R, G x) (hl : ds.flatten.length + R.length = N) (hlt : R.length < 20)
    (ha : a = (ds.flatten.length : Int)) (hb : b = ((ds.flatten.length + 20 : Nat) : Int)) :
    ∃ u, cX (N : Int) f n (fm ds ++ R) a b = some (u.map (·.1)) ∧ gN (gK c) u ∧ u.Perm (ds.flatten ++ R.zipIdx ds.flatten.length) := by
  obtain ⟨n, rfl⟩ := Nat.exists_eq_succ_of_ne_zero (by omega : n ≠ 0)
  rw [cX]
  have hle : ¬ (b ≤ (N : Int)) := by omega
  simp only [hle, decide_false, Bool.false_eq_true, if_false, jA]
  obtain ⟨u, u1, u2, u3⟩ := Ab h hf (fm ds) [] (R.zipIdx ds.flatten.length) a (N : Int) (wN _ _) (fun x hx => hR x.1 (ux hx)) (by simp only [List.length_append, jR, List.length_map, List.length_zipIdx, List.length_nil]; omega) (by rw [jR]; exact ha) (by rw [jR, List.length_zipIdx]; omega)
  rw [List.zipIdx_map_fst, List.append_nil, List.append_nil] at u1
  have hul := u3.length_eq
  rw [List.length_zipIdx] at hul
  have e : fm ds ++ u.map (·.1) = fm (ds ++ [u]) := by simp [fm]
  have hp : (ds ++ [u]).flatten.Perm (ds.flatten ++ R.zipIdx ds.flatten.length) := by
    rw [List.flatten_append]
    refine List.Perm.append_left _ ?_
    simpa using u3
  rw [u1, Option.bind_some, e]
  obtain ⟨v, v1, v2, v3⟩ := B4 h hf N (by omega) N 20 (ds ++ [u]) bR (by omega) (by rw [fC]; omega) (by omega) (by omega) (nS.append.2 ⟨hO, u2, fun x hx => by have := As R ds.flatten.length x (u3.mem_iff.1 hx); omega, trivial⟩) (fun x hx => by
    rw [List.flatten_append, List.mem_append] at hx
    rcases hx with hx | hx
    · exact hG x hx
    · simp only [List.flatten_cons, List.flatten_nil, List.append_nil] at hx
      exact hR x.1 (ux (u3.mem_iff.1 hx))) (by rw [hp.length_eq, List.length_append, List.length_zipIdx]; omega) (WB.of_len hD (by omega))
  exact ⟨v, v1, v2, v3.trans hp⟩
theorem Cf (h : SWO (gK c)) (hf : rR f c G) (N : Nat) (hN : N ≤ 300000) : ∀ (k : Nat) (R : List Formula) (ds : List (List (Formula × Nat))) (n : Nat) (a b : Int), R.length ≤ k → k < n → nS c 0 ds → (∀ A ∈ ds, A.length = 20) → (∀ x ∈ ds.flatten, G x.1) → (∀ x ∈ R, G x) → ds.flatten.length + R.length = N →
    a = (ds.flatten.length : Int) → b = ((ds.flatten.length + 20 : Nat) : Int) →
    ∃ u, cX (N : Int) f n (fm ds ++ R) a b = some (u.map (·.1)) ∧ gN (gK c) u ∧ u.Perm (ds.flatten ++ R.zipIdx ds.flatten.length) := by
  intro k
  induction k with
  | zero =>
    intro R ds n a b hk hn hO hD hG hR hl ha hb
    obtain rfl := List.eq_nil_of_length_eq_zero (Nat.le_zero.1 hk)
    exact BG h hf N hN [] ds n a b hn hO hD hG hR hl (by simp) ha hb
  | succ k ih =>
    intro R ds n a b hk hn hO hD hG hR hl ha hb
    by_cases hlt : R.length < 20
    · exact BG h hf N hN R ds n a b (by omega) hO hD hG hR hl hlt ha hb
    obtain ⟨n, rfl⟩ := Nat.exists_eq_succ_of_ne_zero (by omega : n ≠ 0)
    obtain ⟨R1, R2, rfl, hR1⟩ := nv (l := R) (n := 20) (by omega)
    rw [List.length_append] at hl hk
    rw [cX]
    have hle : b ≤ (N : Int) := by omega
    simp only [hle, decide_true, if_true]
    obtain ⟨u, u1, u2, u3⟩ := Ab h hf (fm ds) R2 (R1.zipIdx ds.flatten.length) a b (wN _ _) (fun x hx => hR x.1 (by simp [ux hx])) (by simp only [List.length_append, jR, List.length_map, List.length_zipIdx, List.length_nil]; omega) (by rw [jR]; exact ha) (by rw [jR, List.length_zipIdx]; omega)
    rw [List.zipIdx_map_fst] at u1
    rw [u1, Option.bind_some]
    have hul := u3.length_eq
    rw [List.length_zipIdx, hR1] at hul
    have hfl : (ds ++ [u]).flatten.length = ds.flatten.length + 20 := by rw [Bt, hul]
    have w1 : IntKind.i64.wrap (b + 20) = (((ds ++ [u]).flatten.length + 20 : Nat) : Int) := fK _ (by omega) (by omega)
    have e : fm ds ++ (u.map (·.1) ++ R2) = fm (ds ++ [u]) ++ R2 := by simp [fm]
    rw [e, w1]
    obtain ⟨v, v1, v2, v3⟩ := ih R2 (ds ++ [u]) n b _ (by omega) (by omega) (nS.append.2 ⟨hO, u2, fun x hx => by have := As R1 ds.flatten.length x (u3.mem_iff.1 hx); omega, trivial⟩) (fun A hA => by
      rcases List.mem_append.1 hA with hA | hA
      · exact hD A hA
      · simp at hA; rw [hA]; exact hul) (fun x hx => by
      rw [List.flatten_append, List.mem_append] at hx
      rcases hx with hx | hx
      · exact hG x hx
      · simp only [List.flatten_cons, List.flatten_nil, List.append_nil] at hx
        exact hR x.1 (by simp [ux (u3.mem_iff.1 hx)])) (fun x hx => hR x (by simp [hx])) (by omega) (by omega) rfl
    refine ⟨v, v1, v2, v3.trans ?_⟩
    rw [hfl, List.flatten_append, List.zipIdx_append, hR1, List.append_assoc]
    refine List.Perm.append_left _ ?_
    simp only [List.flatten_cons, List.flatten_nil, List.append_nil]
    exact u3.append_right _
theorem Bc (h : SWO (gK c)) (hf : rR f c G) (l : List Formula) (hG : ∀ x ∈ l, G x) (hl : l.length ≤ 300000) : gk l f = some (yA (gK c) l) := by
  unfold gk iq
  obtain ⟨u, u1, u2, u3⟩ := Cf h hf l.length hl l.length l [] bR 0 20 (Nat.le_refl _) (by rw [fC]; omega) trivial (by simp) (by simp) hG (by simp) rfl rfl
  simp only [fm, List.flatten_nil, List.map_nil, List.nil_append, List.length_nil] at u1 u3
  rw [u1, Option.bind_some, DO h u2 u3]
end
end Go.Proofs.YtmlncblocfcmiaaGreat
namespace Go.Proofs.YtmlncblocfcmiaaGreat
open Go.RowKit
theorem CN {P : Formula → Prop} (h : ∀ f, (∀ k ∈ f.Kids, P k) → P f) : ∀ f, P f := by
  intro f
  refine Formula.rec (motive_1 := P) (motive_2 := fun ks => ∀ k ∈ ks, P k) ?_ ?_ ?_ f
  · intro o k r ks ih; exact h _ ih
  · intro k hk; cases hk
  · intro k ks h1 h2 x hx
    rcases List.mem_cons.1 hx with rfl | hx
    · exact h1
    · exact h2 x hx
mutual
def bI : Formula → Nat
  | ⟨_, _, _, ks⟩ => 1 + nodesL ks
def nodesL : List Formula → Nat
  | [] => 0
  | k :: ks => bI k + nodesL ks
end
mutual
def kD : Formula → Nat
  | ⟨_, _, _, ks⟩ => deepL ks + 1
def deepL : List Formula → Nat
  | [] => 0
  | k :: ks => max (kD k) (deepL ks)
end
theorem jS (f : Formula) : bI f = 1 + nodesL f.Kids := by cases f; rw [bI]
theorem jr (f : Formula) : kD f = deepL f.Kids + 1 := by cases f; rw [kD]
theorem pJ : ∀ {ks : List Formula} {k : Formula}, k ∈ ks → bI k ≤ nodesL ks
  | x :: ks, k, h => by
    rw [nodesL]
    rcases List.mem_cons.1 h with rfl | h
    · omega
    · have := pJ h; omega
theorem ox : ∀ {ks : List Formula} {k : Formula}, k ∈ ks → kD k ≤ deepL ks
  | x :: ks, k, h => by
    rw [deepL]
    rcases List.mem_cons.1 h with rfl | h
    · omega
    · have := ox h; omega
theorem rA : ∀ f : Formula, kD f ≤ bI f := by
  refine CN fun f ih => ?_
  rw [jr, jS]
  have : ∀ ks : List Formula, (∀ k ∈ ks, kD k ≤ bI k) → deepL ks ≤ nodesL ks := by
    intro ks
    induction ks with
    | nil => intro _; rw [deepL]; omega
    | cons k ks ih2 =>
      intro h
      have := ih2 (fun x hx => h x (by simp [hx]))
      have := h k (by simp)
      rw [deepL, nodesL]; omega
  have := this f.Kids ih
  omega
theorem nw : ∀ ks : List Formula, ks.length ≤ nodesL ks
  | [] => by rw [nodesL]; simp
  | k :: ks => by have := nw ks; have := jS k; rw [nodesL, List.length_cons]; omega
theorem BN (most : Nat) (hm : most ≤ 4096) (rec : Formula → Int → Option (Int × Int)) : ∀ (ks : List Formula), (∀ k ∈ ks, ∀ q : Nat, q ≤ 4096 → ∃ n d : Nat, rec k (q : Int) = some ((n : Int), (d : Int)) ∧ 1 ≤ n ∧ n ≤ bI k ∧ d ≤ bI k ∧ (bI k ≤ q → n = bI k ∧ d = kD k) ∧ (q < bI k → q < n)) → ∀ x y : Nat, x + nodesL ks ≤ 100000000 →
    ∃ n d : Nat, gu (most : Int) rec ks (x : Int) (y : Int) = some ((n : Int), (d : Int)) ∧ x ≤ n ∧ n ≤ x + nodesL ks ∧ d ≤ max y (nodesL ks) ∧ (x + nodesL ks ≤ most → n = x + nodesL ks ∧ d = max y (deepL ks)) ∧ (most < x + nodesL ks → most < n)
  | [], _, x, y, _ => by
    rw [gu, nodesL, deepL]
    exact ⟨x, y, rfl, by omega, by omega, by omega, fun _ => ⟨by omega, by omega⟩, fun h => by omega⟩
  | k :: ks, hr, x, y, hb => by
    rw [nodesL] at hb ⊢
    rw [gu, deepL]
    by_cases hx : (x : Int) > (most : Int)
    · simp only [hx, decide_true, if_true]
      exact ⟨x, y, rfl, by omega, by omega, by omega, fun _ => by omega, fun h => by omega⟩
    · simp only [hx, decide_false, Bool.false_eq_true, if_false]
      have w1 : IntKind.i64.wrap ((most : Int) - (x : Int)) = ((most - x : Nat) : Int) := by rw [eK (by omega) (by omega)]; omega
      obtain ⟨m, d, e, h1, h2, h3, h4, h5⟩ := hr k (by simp) (most - x) (by omega)
      rw [w1, e, Option.bind_some]
      have w2 : IntKind.i64.wrap ((x : Int) + (m : Int)) = ((x + m : Nat) : Int) := by rw [eK (by omega) (by omega)]; omega
      have w3 : (if (d : Int) > (y : Int) then (d : Int) else (y : Int)) = ((max y d : Nat) : Int) := by split <;> omega
      simp only [w2, w3]
      obtain ⟨n, d', e', g1, g2, g3, g4, g5⟩ := BN most hm rec ks (fun z hz => hr z (by simp [hz])) (x + m) (max y d) (by omega)
      refine ⟨n, d', e', by omega, by omega, by omega, fun h => ?_, fun h => ?_⟩
      · obtain ⟨rfl, rfl⟩ := h4 (by omega)
        obtain ⟨rfl, rfl⟩ := g4 (by omega)
        exact ⟨by omega, by omega⟩
      · by_cases hk : most - x < bI k
        · have := h5 hk; omega
        · obtain ⟨rfl, _⟩ := h4 (by omega)
          exact g5 (by omega)
theorem Ci : ∀ (n : Nat) (f : Formula), kD f ≤ n → bI f ≤ 50000000 → ∀ q : Nat, q ≤ 4096 → ∃ m d : Nat, gM n f (q : Int) = some ((m : Int), (d : Int)) ∧ 1 ≤ m ∧ m ≤ bI f ∧ d ≤ bI f ∧ (bI f ≤ q → m = bI f ∧ d = kD f) ∧ (q < bI f → q < m) := by
  intro n
  induction n with
  | zero => intro f h; rw [jr] at h; omega
  | succ n ih =>
    intro f hd hn q hq
    rw [jr] at hd
    have hnf := jS f
    rw [gM]
    unfold kQ
    obtain ⟨m, d, e, h1, h2, h3, h4, h5⟩ := BN q hq (gM n) f.Kids (fun k hk q hq => ih k (by have := ox hk; omega) (by have := pJ hk; omega) q hq) 1 0 (by omega)
    have e' : gu (q : Int) (gM n) f.Kids 1 0 = some ((m : Int), (d : Int)) := e
    rw [e', Option.bind_some]
    have w1 : IntKind.i64.wrap ((d : Int) + 1) = ((d + 1 : Nat) : Int) := by rw [eK (by omega) (by omega)]; omega
    simp only [w1]
    refine ⟨m, d + 1, rfl, h1, by omega, by omega, fun h => ?_, fun h => h5 (by omega)⟩
    obtain ⟨rfl, rfl⟩ := h4 (by omega)
    rw [jr]
    exact ⟨by omega, by omega⟩
theorem Dy (f : Formula) (hn : bI f ≤ 50000000) : mw f = some (if bI f ≤ 4096 then ((bI f : Int), (kD f : Int)) else (0, 0)) := by
  unfold mw
  have := rA f
  obtain ⟨m, d, e, h1, h2, h3, h4, h5⟩ := Ci bR f (by rw [fC]; omega) hn 4096 (Nat.le_refl _)
  have e' : gM bR f 4096 = some ((m : Int), (d : Int)) := e
  rw [e', Option.bind_some]
  by_cases h : bI f ≤ 4096
  · obtain ⟨rfl, rfl⟩ := h4 h
    have : ¬ ((bI f : Int) > 4096) := by omega
    simp [this, h]
  · have := h5 (by omega)
    have : ((m : Int) > 4096) := by omega
    simp [this, h]
def nu : Role := ⟨zS, zS⟩
def uy (f : Formula) : Bool := if f.Op = 1 then fL f.Role && decide (f.Kids.length = 0) && decide (f.K = 0) else if f.Op = 2 ∨ f.Op = 3 then bF f.Role nu && decide (f.K = 0) else decide (f.Op = 4) && bF f.Role nu && decide (0 ≤ f.K) && decide (f.K ≤ (f.Kids.length : Int)) && decide (1 ≤ f.Kids.length)
theorem D7 (f : Formula) : mz f = some (uy f) := by
  unfold mz uy
  simp only [oW, Option.bind_some, jA]
  by_cases h1 : f.Op = 1
  · simp only [h1, beq_self_eq_true, if_true]
    cases hr : fL f.Role
    · simp
    · by_cases hl : f.Kids.length = 0
      · have : f.Kids = [] := List.eq_nil_of_length_eq_zero hl
        by_cases hk : f.K = 0 <;> simp [this, hk]
      · have : ((f.Kids.length : Int) == 0) = false := by simp; intro h; exact hl (by simp [h])
        simp only [if_true, Option.bind_some, this, Bool.false_eq_true, if_false, hl, decide_false, Bool.and_false, Bool.false_and]
  · have e1 : (f.Op == 1) = false := by simpa using h1
    simp only [e1, Bool.false_eq_true, if_false, h1]
    by_cases h2 : f.Op = 2 ∨ f.Op = 3
    · have e2 : (if f.Op == 2 then some (f.Op == 2) else some (f.Op == 3)) = some true := by
        rcases h2 with h | h <;> simp [h]
      simp only [e2, Option.bind_some, if_true, h2]
      cases hb : bF f.Role ⟨zS, zS⟩ <;> by_cases hk : f.K = 0 <;> simp [nu, hb, hk]
    · have e2 : (if f.Op == 2 then some (f.Op == 2) else some (f.Op == 3)) = some false := by
        have a : f.Op ≠ 2 := fun h => h2 (.inl h)
        have b : f.Op ≠ 3 := fun h => h2 (.inr h)
        simp [a, b]
      simp only [e2, Option.bind_some, Bool.false_eq_true, if_false, h2]
      by_cases h4 : f.Op = 4
      · simp only [h4, beq_self_eq_true, if_true, Option.bind_some, decide_true, Bool.true_and]
        cases hb : bF f.Role ⟨zS, zS⟩
        · simp [nu, hb]
        · by_cases c1 : 0 ≤ f.K <;> by_cases c2 : f.K ≤ (f.Kids.length : Int) <;> by_cases c3 : 1 ≤ f.Kids.length <;> simp [nu, hb, c1, c2, c3] <;> omega
      · have e4 : (f.Op == 4) = false := by simpa using h4
        simp [e4, h4]
mutual
def nG : Formula → Bool
  | ⟨o, n, r, ks⟩ => uy ⟨o, n, r, ks⟩ && decide (ks.length ≤ 8) && wellL ks
def wellL : List Formula → Bool
  | [] => true
  | k :: ks => nG k && wellL ks
end
theorem yp (f : Formula) : nG f = (uy f && decide (f.Kids.length ≤ 8) && wellL f.Kids) := by cases f; rw [nG]
theorem xu : ∀ ks : List Formula, wellL ks = ks.all nG
  | [] => rfl
  | k :: ks => by rw [wellL, xu ks]; rfl
theorem yT (f : Formula → Option Bool) : ∀ (l : List Formula) (i : Nat), eB f l i = pi f l i
  | [], i => by rw [eB]; rfl
  | x :: l, i => by
    rw [eB, pi]
    cases f x with
    | none => rfl
    | some b =>
      simp only [Option.bind_some]
      rw [yT f l (i + 1)]
theorem uJ (f : Formula → Option Bool) (p : Formula → Bool) (l : List Formula) (h : ∀ x ∈ l, f x = some (p x)) : fB l f = some (l.any p) := by
  unfold fB jf
  rw [yT]
  rcases pg f p l 0 h with ⟨e, h1⟩ | ⟨A, x, B, rfl, h1, h2, e⟩
  · rw [e, Option.bind_some]
    have : l.any p = false := by rw [List.any_eq_false]; intro x hx; rw [h1 x hx]; simp
    rw [this]; rfl
  · rw [e, Option.bind_some]
    have : (A ++ x :: B).any p = true := by simp [h2]
    rw [this]
    congr 1
theorem Ca : ∀ (n : Nat) (f : Formula), kD f ≤ n → jF n f = some (nG f) := by
  intro n
  induction n with
  | zero => intro f h; rw [jr] at h; omega
  | succ n ih =>
    intro f h
    rw [jr] at h
    rw [jF]
    unfold kM
    rw [D7, Option.bind_some, yp, uJ _ (fun k => !nG k) f.Kids (fun k hk => by unfold kx; rw [ih k (by have := ox hk; omega)]; rfl)]
    rw [xu]
    have e : (!(f.Kids.any fun k => !nG k)) = f.Kids.all nG := by rw [List.all_eq_not_any_not]
    cases uy f
    · rfl
    · by_cases hl : f.Kids.length ≤ 8
      · have : ((f.Kids.length : Int) ≤ 8) := by omega
        simp [hl, this, e]
      · have : ¬ ((f.Kids.length : Int) ≤ 8) := by omega
        simp [hl, this]
def jc (f : Formula) : Bool := decide (bI f ≤ 64) && decide (kD f ≤ 6) && nG f
theorem sN (f : Formula) (hn : bI f ≤ 50000000) : iT f = some (jc f) := by
  unfold iT jc
  have hd := rA f
  rw [Dy f hn, Option.bind_some, Ca bR f (by rw [fC]; omega)]
  have h1 := jS f
  by_cases h : bI f ≤ 4096
  · simp only [h, if_true]
    have a : ((bI f : Int) ≥ 1) := by omega
    simp only [a, decide_true, if_true, Option.bind_some, jA]
    by_cases c1 : bI f ≤ 64 <;> by_cases c2 : kD f ≤ 6
    · have d1 : ((bI f : Int) ≤ 64) := by omega
      have d2 : ((kD f : Int) ≤ 6) := by omega
      simp [c1, c2, d1, d2]
    · have d1 : ((bI f : Int) ≤ 64) := by omega
      have d2 : ¬ ((kD f : Int) ≤ 6) := by omega
      simp [c1, c2, d1, d2]
    · have d1 : ¬ ((bI f : Int) ≤ 64) := by omega
      simp [c1, d1]
    · have d1 : ¬ ((bI f : Int) ≤ 64) := by omega
      simp [c1, d1]
  · simp only [h, if_false]
    have : ¬ bI f ≤ 64 := by omega
    simp [this]
theorem Formula.ext' {a b : Formula} (h1 : a.Op = b.Op) (h2 : a.K = b.K) (h3 : a.Role = b.Role) (h4 : a.Kids = b.Kids) : a = b := by
  cases a; cases b; simp only at h1 h2 h3 h4; subst h1 h2 h3 h4; rfl
theorem BO (g : Formula × Formula → Option Bool) : ∀ (l m : List Formula), l.length = m.length → (∀ x ∈ l, ∀ y, ∃ b, g (x, y) = some b ∧ (b = true ↔ x = y)) → ∀ (A : List Formula),
    ∃ b, bH (A ++ m) g l A.length = some b ∧ (b = true ↔ l = m)
  | [], m, hl, _, A => by
    obtain rfl := List.eq_nil_of_length_eq_zero hl.symm
    exact ⟨true, rfl, by simp⟩
  | x :: l, [], hl, _, A => by simp at hl
  | x :: l, y :: m, hl, hg, A => by
    rw [bH]
    obtain ⟨b, e, h⟩ := hg x (by simp) y
    have i1 : dS (A ++ y :: m) (A.length : Int) = some y := gp _ _ _ _ rfl
    rw [i1, Option.bind_some, e, Option.bind_some]
    cases b with
    | false =>
      refine ⟨false, rfl, ?_⟩
      have : x ≠ y := fun hxy => by have := h.2 hxy; simp at this
      simp [this]
    | true =>
      have hxy := h.1 rfl
      obtain ⟨b, e2, h2⟩ := BO g l m (by simpa using hl) (fun z hz => hg z (by simp [hz])) (A ++ [y])
      simp only [Bool.not_true, Bool.false_eq_true, if_false]
      have e3 : A ++ y :: m = (A ++ [y]) ++ m := by simp
      have e4 : A.length + 1 = (A ++ [y]).length := by simp
      rw [e3, e4, e2]
      exact ⟨b, rfl, by rw [h2]; simp [hxy]⟩
theorem DP : ∀ (n : Nat) (f : Formula), kD f ≤ n → ∀ g, ∃ b, gJ n f g = some b ∧ (b = true ↔ f = g) := by
  intro n
  induction n with
  | zero => intro f h; rw [jr] at h; omega
  | succ n ih =>
    intro f h g
    rw [jr] at h
    rw [gJ]
    unfold lB
    by_cases h1 : f.Op = g.Op
    · by_cases h2 : f.K = g.K
      · by_cases h3 : f.Role = g.Role
        · have e3 : bF f.Role g.Role = true := bA.2 h3
          simp only [h1, h2, e3, beq_self_eq_true, if_true, Option.bind_some]
          unfold dF
          by_cases hl : f.Kids.length = g.Kids.length
          · have : ((f.Kids.length : Int) != (g.Kids.length : Int)) = false := by simp [hl]
            simp only [this, Bool.false_eq_true, if_false]
            obtain ⟨b, e, hb⟩ := BO (fun x => gJ n x.1 x.2) f.Kids g.Kids hl (fun x hx y => ih x (by have := ox hx; omega) y) []
            simp only [List.nil_append, List.length_nil] at e
            rw [e]
            refine ⟨b, by simp, hb.trans ⟨fun hk => Formula.ext' h1 h2 h3 hk, fun hk => by rw [hk]⟩⟩
          · have : ((f.Kids.length : Int) != (g.Kids.length : Int)) = true := by simp; omega
            simp only [this, if_true]
            exact ⟨false, rfl, by simp; intro hk; rw [hk] at hl; exact hl rfl⟩
        · have e3 : bF f.Role g.Role = false := by rw [← Bool.not_eq_true, bA]; exact h3
          simp only [h1, h2, e3, beq_self_eq_true, if_true, Option.bind_some, Bool.false_eq_true, if_false]
          exact ⟨false, rfl, by simp; intro hk; rw [hk] at h3; exact h3 rfl⟩
      · have e2 : (f.K == g.K) = false := by simpa using h2
        simp only [h1, e2, beq_self_eq_true, if_true, Option.bind_some, Bool.false_eq_true, if_false]
        exact ⟨false, rfl, by simp; intro hk; rw [hk] at h2; exact h2 rfl⟩
    · have e1 : (f.Op == g.Op) = false := by simpa using h1
      simp only [e1, Option.bind_some, Bool.false_eq_true, if_false]
      exact ⟨false, rfl, by simp; intro hk; rw [hk] at h1; exact h1 rfl⟩
end Go.Proofs.YtmlncblocfcmiaaGreat
namespace Go.Proofs.YtmlncblocfcmiaaGreat
open Go.RowKit
mutual
def qz : Formula → List Int
  | ⟨o, k, r, ks⟩ => o :: (if o = 1 then kF r else (if o = 4 then [k] else []) ++ ((ks.length : Int) :: bytesFL ks))
def bytesFL : List Formula → List Int
  | [] => []
  | k :: ks => qz k ++ bytesFL ks
end
theorem BZ (f : Formula) : qz f = f.Op :: (if f.Op = 1 then kF f.Role else (if f.Op = 4 then [f.K] else []) ++ ((f.Kids.length : Int) :: bytesFL f.Kids)) := by cases f; rw [qz]
theorem uL {f : Formula} (h : nG f = true) : f.Kids.length ≤ 8 ∧ wellL f.Kids = true ∧ ((f.Op = 1 ∧ fL f.Role = true ∧ f.Kids = [] ∧ f.K = 0) ∨ ((f.Op = 2 ∨ f.Op = 3) ∧ f.Role = nu ∧ f.K = 0) ∨ (f.Op = 4 ∧ f.Role = nu ∧ 0 ≤ f.K ∧ f.K ≤ (f.Kids.length : Int) ∧ 1 ≤ f.Kids.length)) := by
  rw [yp] at h
  simp only [Bool.and_eq_true, decide_eq_true_eq] at h
  obtain ⟨⟨h1, h2⟩, h3⟩ := h
  refine ⟨h2, h3, ?_⟩
  unfold uy at h1
  split at h1
  · rename_i c
    simp only [Bool.and_eq_true, decide_eq_true_eq] at h1
    exact .inl ⟨c, h1.1.1, List.eq_nil_of_length_eq_zero h1.1.2, h1.2⟩
  · split at h1
    · rename_i c
      simp only [Bool.and_eq_true, decide_eq_true_eq, bA] at h1
      exact .inr (.inl ⟨c, h1.1, h1.2⟩)
    · simp only [Bool.and_eq_true, decide_eq_true_eq, bA] at h1
      exact .inr (.inr ⟨h1.1.1.1.1, h1.1.1.1.2, h1.1.1.2, h1.1.2, h1.2⟩)
theorem EV : ∀ (n : Nat) (f : Formula), kD f ≤ n → nG f = true → ∀ l : List Int, l.length + 40 * bI f ≤ 8000 → iR n l f = some (l ++ qz f) ∧ (qz f).length ≤ 40 * bI f := by
  intro n
  induction n with
  | zero => intro f h; rw [jr] at h; omega
  | succ n ih =>
    intro f hd hw l hl
    rw [jr] at hd
    have hnf := jS f
    obtain ⟨h1, h2, h3⟩ := uL hw
    rw [iR]
    unfold kR
    have hop : 0 ≤ f.Op ∧ f.Op < 128 := by rcases h3 with h | h | h <;> omega
    rw [oy hop.1 hop.2 (by omega), Option.bind_some, BZ]
    have key : ∀ (ks : List Formula), (∀ k ∈ ks, k ∈ f.Kids) → wellL ks = true → ∀ l : List Int, l.length + 40 * nodesL ks ≤ 8000 → gO (iR n) ks l = some (l ++ bytesFL ks) ∧ (bytesFL ks).length ≤ 40 * nodesL ks := by
      intro ks
      induction ks with
      | nil => intro _ _ l _; rw [gO, bytesFL]; simp
      | cons k ks ih2 =>
        intro hk hwk l hl
        rw [wellL, Bool.and_eq_true] at hwk
        rw [nodesL] at hl
        obtain ⟨e1, e2⟩ := ih k (by have := ox (hk k (by simp)); omega) hwk.1 l (by omega)
        obtain ⟨e3, e4⟩ := ih2 (fun z hz => hk z (by simp [hz])) hwk.2 (l ++ qz k) (by simp; omega)
        rw [gO, e1, Option.bind_some, e3, bytesFL, nodesL]
        exact ⟨by simp, by simp; omega⟩
    have hlen : 0 ≤ (f.Kids.length : Int) ∧ (f.Kids.length : Int) < 128 := by omega
    by_cases c1 : f.Op = 1
    · have hr : fL f.Role = true := by rcases h3 with h | h | h; exact h.2.1; omega; omega
      have := mH hr
      simp only [c1, beq_self_eq_true, if_true]
      rw [yD hr (by simp; omega), Option.bind_some]
      exact ⟨by simp, by simp; omega⟩
    · have e1 : (f.Op == 1) = false := by simpa using c1
      simp only [e1, Bool.false_eq_true, if_false, c1]
      by_cases c4 : f.Op = 4
      · have hk : 0 ≤ f.K ∧ f.K < 128 := by rcases h3 with h | h | h <;> omega
        simp only [c4, beq_self_eq_true, if_true]
        rw [oy hk.1 hk.2 (by simp; omega)]
        simp only [Option.bind_some]
        rw [oy hlen.1 hlen.2 (by simp; omega)]
        simp only [Option.bind_some]
        obtain ⟨e3, e4⟩ := key f.Kids (fun k hk => hk) h2 (l ++ [4] ++ [f.K] ++ [(f.Kids.length : Int)]) (by simp; omega)
        rw [e3]
        exact ⟨by simp, by simp; omega⟩
      · have e4 : (f.Op == 4) = false := by simpa using c4
        simp only [e4, Bool.false_eq_true, if_false, c4, Option.bind_some]
        rw [oy hlen.1 hlen.2 (by simp; omega)]
        simp only [Option.bind_some]
        obtain ⟨e3, e5⟩ := key f.Kids (fun k hk => hk) h2 (l ++ [f.Op] ++ [(f.Kids.length : Int)]) (by simp; omega)
        rw [e3]
        exact ⟨by simp, by simp; omega⟩
def uQ (f : Formula) : List Int := if jc f then qz f else []
abbrev Gd (f : Formula) : Prop := bI f ≤ 50000000
theorem uX {f : Formula} (h : jc f = true) : bI f ≤ 64 ∧ kD f ≤ 6 ∧ nG f = true := by
  unfold jc at h
  simp only [Bool.and_eq_true, decide_eq_true_eq] at h
  exact ⟨h.1.1, h.1.2, h.2⟩
theorem Eo (f : Formula) (hn : Gd f) (l : List Int) (hl : l.length ≤ 5000) : lS l f = some (jc f, l ++ uQ f) ∧ (uQ f).length ≤ 2560 := by
  unfold lS uQ
  rw [sN f hn, Option.bind_some]
  cases h : jc f
  · simp
  · obtain ⟨h1, h2, h3⟩ := uX h
    obtain ⟨e1, e2⟩ := EV bR f (by rw [fC]; omega) h3 l (by omega)
    simp only [Bool.not_true, Bool.false_eq_true, if_false, e1, Option.bind_some, if_true]
    exact ⟨trivial, by omega⟩
theorem vW (f : Formula) (hn : Gd f) : jM f = some (uQ f) := by
  unfold jM
  obtain ⟨e1, e2⟩ := Eo f hn [] (by simp)
  rw [e1, Option.bind_some, jA]
  unfold ki
  simp only [List.nil_append]
  rw [EB (by omega)]
  rfl
def zV (f g : Formula) : Int := oA (uQ f) (uQ g)
theorem Ax (f g : Formula) (hf : Gd f) (hg : Gd g) : jN f g = some (zV f g) := by
  unfold jN lN
  rw [vW f hf, vW g hg]
  rfl
theorem rz (f g : Formula) : gK zV f g = Op.bytesLess (oY (uQ f)) (oY (uQ g)) := by
  rw [Bool.eq_iff_iff]
  have h : gK zV f g = true ↔ zV f g < 0 := by unfold gK; exact decide_eq_true_iff
  exact h.trans (uz _ _)
theorem FF : SWO (gK zV) where
  irr x := by rw [rz, qI]
  tr x y z h1 h2 := by rw [rz] at *; exact sI _ _ _ h1 h2
  ntr x y z h := by
    rw [rz] at h
    rw [rz, rz]
    rcases vA (oY (uQ x)) (oY (uQ y)) with h1 | h1 | h1
    · exact .inl h1
    · rw [h1] at h; exact .inr h
    · exact .inr (sI _ _ _ h1 h)
def qX (l : List Formula) : List Formula := yA (gK zV) l
theorem ym (l : List Formula) (hG : ∀ x ∈ l, Gd x) (hl : l.length ≤ 300000) : kY l = some (qX l) := by
  unfold kY kq
  rw [gX (by simp; omega) (by simp; omega)]
  simp only [Option.bind_some, List.nil_append, jA]
  exact Bc FF (fun x y hx hy => Ax x y hx hy) l hG hl
theorem Bu {α : Type} (lt : α → α → Bool) (l : List α) (k : α) : (vx lt l k).Perm (l ++ [k]) := by
  unfold vx
  refine List.perm_middle.trans ((List.Perm.cons _ ?_).trans (List.perm_append_singleton k l).symm)
  have := List.filter_append_perm (fun x => !lt k x) l
  simpa using this
theorem BW {α : Type} (lt : α → α → Bool) (l : List α) : (yA lt l).Perm l := by
  suffices H : ∀ (l a : List α), (l.foldl (vx lt) a).Perm (a ++ l) by have := H l []; rwa [List.nil_append] at this
  intro l
  induction l with
  | nil => intro a; simp
  | cons k l ih =>
    intro a
    rw [List.foldl_cons]
    refine (ih _).trans ?_
    have := (Bu lt a k).append_right l
    simpa using this
theorem ub (l : List Formula) : (qX l).Perm l := BW _ l
noncomputable def pT (a b : Formula) : Bool := @decide (a = b) (Classical.propDecidable _)
theorem Dw {a b : Formula} : pT a b = true ↔ a = b := by unfold pT; simp
theorem Ds (a b : Formula) (h : Gd a) : gJ bR a b = some (pT a b) := by
  have := rA a
  obtain ⟨x, e, hx⟩ := DP bR a (by rw [fC]; omega) b
  rw [e]; congr 1
  rw [Bool.eq_iff_iff, hx, Dw]
def Fm : Formula := ⟨0, 0, ⟨zS, zS⟩, []⟩
theorem CZ (f1 : Formula × Formula → Option Bool) (i : Int) : ∀ (n : Nat) (l : List Formula) (k j : Int), (∀ x ∈ l, ∀ y ∈ l, f1 (x, y) = some (pT x y)) → dQ i f1 n l k j = qC pT i n l k j
  | 0, l, k, j, _ => by rw [dQ, qC]
  | n + 1, l, k, j, h => by
    rw [dQ, qC]
    split
    · cases e1 : dS (l.drop (Int.toNat i)) j with
      | none => rfl
      | some x =>
        cases e2 : dS (l.drop (Int.toNat i)) (IntKind.i64.wrap (j - 1)) with
        | none => rfl
        | some y =>
          have hx : x ∈ l := List.mem_of_mem_drop (List.mem_of_getElem? (bJ e1))
          have hy : y ∈ l := List.mem_of_mem_drop (List.mem_of_getElem? (bJ e2))
          simp only [Option.bind_some, h x hx y hy]
          cases pT x y
          · simp only [Bool.not_false, if_true]
            cases e3 : dS l k with
            | none => rfl
            | some z =>
              simp only [Option.bind_some]
              refine CZ f1 i n _ _ _ (fun a ha b hb => ?_)
              have m : ∀ a ∈ l.set (Int.toNat k) x, a ∈ l := fun a ha => by
                rcases List.mem_or_eq_of_mem_set ha with ha | rfl
                · exact ha
                · exact hx
              exact h a (m a ha) b (m b hb)
          · simp only [Bool.not_true, Bool.false_eq_true, if_false, Option.bind_some]
            exact CZ f1 i n _ _ _ h
    · rfl
theorem ET (f1 : Formula × Formula → Option Bool) (l : List Formula) (h : ∀ x ∈ l, ∀ y ∈ l, f1 (x, y) = some (pT x y)) : ∀ (n : Nat) (i : Int), dR l f1 n i = rl pT Fm l n i
  | 0, i => by rw [dR, rl]
  | n + 1, i => by
    rw [dR, rl]
    split
    · cases e1 : dS l i with
      | none => rfl
      | some x =>
        cases e2 : dS l (IntKind.i64.wrap (i - 1)) with
        | none => rfl
        | some y =>
          have hx : x ∈ l := List.mem_of_getElem? (bJ e1)
          have hy : y ∈ l := List.mem_of_getElem? (bJ e2)
          simp only [Option.bind_some, h x hx y hy]
          rw [CZ f1 i bR l i 1 h, ET f1 l h n]
          rfl
    · rfl
theorem AV (l : List Formula) (h : ∀ x ∈ l, Gd x) (hl : l.length ≤ 300000) : gL l (fun x => gJ bR x.1 x.2) = some (dd pT l) := by
  rw [← zg pT Fm l (by omega)]
  unfold gL yO
  rw [ET _ l (fun x hx y _ => Ds x y (h x hx))]
end Go.Proofs.YtmlncblocfcmiaaGreat
namespace Go.Proofs.YtmlncblocfcmiaaGreat
open Go.RowKit
def ij (op : Int) (f : Formula) : Bool := decide (f.Op = op) && f.Kids.isEmpty
theorem vp (f : Formula) (op : Int) : kc f op = some (ij op f) := by
  unfold kc ij
  rw [jA]
  by_cases h : f.Op = op
  · simp only [h, beq_self_eq_true, if_true, decide_true, Bool.true_and]
    congr 1
    cases hk : f.Kids with
    | nil => rfl
    | cons a l => simp; omega
  · have e : (f.Op == op) = false := by simpa using h
    simp [e, h]
def kO (op : Int) : List Formula → List Formula
  | [] => []
  | k :: ks => (if k.Op = op then k.Kids else [k]) ++ kO op ks
theorem rY (op : Int) : ∀ ks : List Formula, nodesL (kO op ks) ≤ nodesL ks
  | [] => Nat.le_refl _
  | k :: ks => by
    have ih := rY op ks
    have e : ∀ a b : List Formula, nodesL (a ++ b) = nodesL a + nodesL b := by
      intro a b
      induction a with
      | nil => rw [List.nil_append, nodesL]; omega
      | cons x a iha => rw [List.cons_append, nodesL, nodesL, iha]; omega
    have := jS k
    rw [kO, e, nodesL]
    split
    · omega
    · rw [nodesL, nodesL]; omega
theorem wJ (op : Int) : ∀ (ks acc : List Formula), acc.length + nodesL ks ≤ 100000000 → gQ op ks acc = some (acc ++ kO op ks)
  | [], acc, _ => by rw [gQ, kO, List.append_nil]
  | k :: ks, acc, h => by
    rw [nodesL] at h
    have h1 := jS k
    have h2 := nw k.Kids
    rw [gQ, kO]
    by_cases c : k.Op = op
    · simp only [c, beq_self_eq_true, if_true]
      rw [gX (by omega) (by omega), Option.bind_some, wJ op ks _ (by simp; omega), List.append_assoc]
    · have e : (k.Op == op) = false := by simpa using c
      simp only [e, Bool.false_eq_true, if_false, c]
      rw [gX (by simp; omega) (by simp; omega), Option.bind_some, wJ op ks _ (by simp; omega), List.append_assoc]
noncomputable def lG (op : Int) (ks : List Formula) : Formula :=
  if (kO op ks).any (ij (5 - op)) then ⟨5 - op, 0, nu, []⟩ else
    match dd pT (qX (kO op ks)) with
    | [x] => x
    | r => ⟨op, 0, nu, r⟩
theorem Ee {α : Type} (eq : α → α → Bool) (l : List α) : (dd eq l).length ≤ l.length := by
  cases l with
  | nil => exact Nat.le_refl _
  | cons x l =>
    have : ∀ (l : List α) (x : α), (iP eq x l).length ≤ l.length := by
      intro l
      induction l with
      | nil => intro x; exact Nat.le_refl _
      | cons y l ih => intro x; rw [iP]; have := ih y; have := ih x; split <;> simp <;> omega
    have := this l x
    rw [dd, List.length_cons, List.length_cons]; omega
theorem ue (s : bK) (op : Int) (hop : op = 2 ∨ op = 3) (ks : List Formula) (h : nodesL ks ≤ 64) : fO s op ks = some (lG op ks, s) := by
  have h1 := rY op ks
  have h2 := nw (kO op ks)
  have hG : ∀ x ∈ kO op ks, Gd x := fun x hx => by have := pJ hx; unfold Gd; omega
  have hw : IntKind.i64.wrap (5 - op) = 5 - op := eK (by omega) (by omega)
  unfold fO oc lG
  rw [wJ op ks [] (by simp; omega), Option.bind_some, List.nil_append, hw, uJ _ (ij (5 - op)) _ (fun x _ => by unfold ii; rw [vp, jA]), Option.bind_some]
  cases hA : (kO op ks).any (ij (5 - op))
  · simp only [Bool.false_eq_true, if_false]
    have hp := ub (kO op ks)
    have hl := hp.length_eq
    rw [ym _ hG (by omega), Option.bind_some, AV _ (fun x hx => hG x (hp.mem_iff.1 hx)) (by omega), Option.bind_some]
    have hd := Ee pT (qX (kO op ks))
    have hn : ¬ (((dd pT (qX (kO op ks))).length : Int) > 64) := by omega
    simp only [hn, decide_false, Bool.false_eq_true, if_false, Option.bind_some]
    generalize dd pT (qX (kO op ks)) = r
    match r with
    | [] => rfl
    | [x] => rfl
    | x :: y :: r =>
      have : (((x :: y :: r).length : Int) == 1) = false := by simp; omega
      simp only [this, Bool.false_eq_true, if_false]
      rfl
  · rfl
noncomputable def ou (k : Int) (ks : List Formula) : Formula :=
  let n := k - ((ks.filter (ij 2)).length : Int)
  let l := ks.filter fun x => !ij 2 x && !ij 3 x
  if n ≤ 0 then ⟨2, 0, nu, []⟩ else if n > (l.length : Int) then ⟨3, 0, nu, []⟩ else if n = (l.length : Int) then lG 2 l else if n = 1 then lG 3 l else ⟨4, n, nu, qX l⟩
theorem qn (p : Formula → Bool) : ∀ ks : List Formula, nodesL (ks.filter p) ≤ nodesL ks
  | [] => Nat.le_refl _
  | k :: ks => by
    have := qn p ks
    rw [List.filter_cons]
    split
    · rw [nodesL, nodesL]; omega
    · rw [nodesL]; omega
theorem pX (s : bK) : ∀ (ks acc : List Formula) (k : Int), -1000 ≤ k - (ks.length : Int) → k ≤ 1000 → acc.length + ks.length ≤ 1000 → nodesL (acc ++ ks.filter fun x => !ij 2 x && !ij 3 x) ≤ 64 →
    dG s ks k acc = some (let n := k - ((ks.filter (ij 2)).length : Int); let l := acc ++ ks.filter fun x => !ij 2 x && !ij 3 x; if n ≤ 0 then ⟨2, 0, nu, []⟩ else if n > (l.length : Int) then ⟨3, 0, nu, []⟩ else if n = (l.length : Int) then lG 2 l else if n = 1 then lG 3 l else ⟨4, n, nu, qX l⟩, s)
  | [], acc, k, h1, h2, h3, h4 => by
    simp only [List.filter_nil, List.append_nil, List.length_nil] at h4 ⊢
    rw [dG]
    simp only [Int.ofNat_zero, Int.sub_zero, nk, nI, Option.bind_some, Int.natCast_zero]
    have hl := nw acc
    by_cases c1 : k ≤ 0
    · simp only [c1, decide_true, if_true]; rfl
    · simp only [c1, decide_false, Bool.false_eq_true, if_false]
      by_cases c2 : k > (acc.length : Int)
      · simp only [c2, decide_true, if_true]; rfl
      · simp only [c2, decide_false, Bool.false_eq_true, if_false]
        by_cases c3 : k = (acc.length : Int)
        · simp only [← c3, beq_self_eq_true, if_true]
          rw [ue s 2 (.inl rfl) acc h4, Option.bind_some]
        · have e3 : (k == (acc.length : Int)) = false := by simpa using c3
          simp only [e3, Bool.false_eq_true, if_false, c3]
          by_cases c4 : k = 1
          · simp only [c4, beq_self_eq_true, if_true]
            rw [ue s 3 (.inr rfl) acc h4, Option.bind_some]
          · have e4 : (k == 1) = false := by simpa using c4
            simp only [e4, Bool.false_eq_true, if_false, c4]
            rw [ym acc (fun x hx => by have := pJ hx; unfold Gd; omega) (by omega)]
            rfl
  | x :: ks, acc, k, h1, h2, h3, h4 => by
    simp only [List.length_cons] at h1 h3
    rw [dG, vp, Option.bind_some, vp, Option.bind_some]
    rw [List.filter_cons, List.filter_cons] at *
    cases c2 : ij 2 x
    · cases c3 : ij 3 x
      · simp only [c2, c3, Bool.not_false, Bool.and_self, Bool.false_eq_true, if_false, if_true] at h4 ⊢
        rw [gX (by simp; omega) (by simp; omega), Option.bind_some, pX s ks _ k (by omega) h2 (by simp; omega) (by rw [List.append_assoc]; exact h4)]
        simp only [List.append_assoc, List.cons_append, List.nil_append]
      · simp only [c2, c3, Bool.not_false, Bool.not_true, Bool.and_false, Bool.false_eq_true, if_false] at h4 ⊢
        rw [pX s ks _ k (by omega) h2 (by omega) h4]
    · simp only [c2, Bool.not_true, Bool.false_and, Bool.false_eq_true, if_false, if_true] at h4 ⊢
      rw [eK (by omega) (by omega), pX s ks _ (k - 1) (by omega) (by omega) (by omega) h4]
      simp only [List.length_cons]
      have e : k - 1 - ((ks.filter (ij 2)).length : Int) = k - (((ks.filter (ij 2)).length + 1 : Nat) : Int) := by omega
      rw [e]
theorem AM (s : bK) (k : Int) (hk : 0 ≤ k ∧ k ≤ 1000) (ks : List Formula) (h : nodesL ks ≤ 64) : ip s k ks = some (ou k ks, s) := by
  have := nw ks
  have := qn (fun x => !ij 2 x && !ij 3 x) ks
  unfold ip ou
  rw [pX s ks [] k (by omega) (by omega) (by simp; omega) (by simpa using by omega)]
  rfl
mutual
noncomputable def lj : Formula → Formula
  | ⟨o, k, r, ks⟩ => if o = 1 then ⟨o, k, r, ks⟩ else if o = 4 then ou k (shapeL ks) else lG o (shapeL ks)
noncomputable def shapeL : List Formula → List Formula
  | [] => []
  | k :: ks => lj k :: shapeL ks
end
theorem qL (f : Formula) : lj f = if f.Op = 1 then f else if f.Op = 4 then ou f.K (shapeL f.Kids) else lG f.Op (shapeL f.Kids) := by cases f; rw [lj]
theorem uN {a b : List Formula} (h : a.Perm b) : nodesL a = nodesL b := by
  induction h with
  | nil => rfl
  | cons x _ ih => rw [nodesL, nodesL, ih]
  | swap x y l => rw [nodesL, nodesL, nodesL, nodesL]; omega
  | trans _ _ h1 h2 => rw [h1, h2]
theorem so (eq : Formula → Formula → Bool) : ∀ (l : List Formula) (x : Formula), nodesL (iP eq x l) ≤ nodesL l
  | [], x => Nat.le_refl _
  | y :: l, x => by
    have h1 := so eq l y
    have h2 := so eq l x
    rw [iP]
    split
    · rw [nodesL]; omega
    · rw [nodesL, nodesL]; omega
theorem CU (eq : Formula → Formula → Bool) (l : List Formula) : nodesL (dd eq l) ≤ nodesL l := by
  cases l with
  | nil => exact Nat.le_refl _
  | cons x l => have := so eq l x; rw [dd, nodesL, nodesL]; omega
theorem qv (op : Int) (ks : List Formula) : bI (lG op ks) ≤ 1 + nodesL ks := by
  unfold lG
  split
  · rw [bI, nodesL]; omega
  · have h1 := CU pT (qX (kO op ks))
    have h2 := uN (ub (kO op ks))
    have h3 := rY op ks
    generalize dd pT (qX (kO op ks)) = r at *
    split
    · rename_i x
      rw [nodesL, nodesL] at h1; omega
    · rw [bI]; omega
theorem xP (k : Int) (ks : List Formula) : bI (ou k ks) ≤ 1 + nodesL ks := by
  have h := qn (fun x => !ij 2 x && !ij 3 x) ks
  unfold ou
  simp only
  generalize ks.filter (fun x => !ij 2 x && !ij 3 x) = l at *
  generalize k - ((ks.filter (ij 2)).length : Int) = n
  split
  · rw [bI, nodesL]; omega
  · split
    · rw [bI, nodesL]; omega
    · split
      · have := qv 2 l; omega
      · split
        · have := qv 3 l; omega
        · have := uN (ub l); rw [bI]; omega
theorem rc : ∀ f : Formula, bI (lj f) ≤ bI f := by
  refine CN fun f ih => ?_
  have h : ∀ ks : List Formula, (∀ k ∈ ks, bI (lj k) ≤ bI k) → nodesL (shapeL ks) ≤ nodesL ks := by
    intro ks
    induction ks with
    | nil => intro _; rw [shapeL]; exact Nat.le_refl _
    | cons k ks ih2 =>
      intro h
      have := ih2 (fun x hx => h x (by simp [hx]))
      have := h k (by simp)
      rw [shapeL, nodesL, nodesL]; omega
  have h := h f.Kids ih
  rw [qL, jS f]
  split
  · rw [jS]; omega
  · split
    · have := xP f.K (shapeL f.Kids); omega
    · have := qv f.Op (shapeL f.Kids); omega
theorem yG (ks : List Formula) : nodesL (shapeL ks) ≤ nodesL ks := by
  induction ks with
  | nil => rw [shapeL]; exact Nat.le_refl _
  | cons k ks ih => have := rc k; rw [shapeL, nodesL, nodesL]; omega
theorem CH : ∀ (n : Nat) (f : Formula), kD f ≤ n → bI f ≤ 64 → nG f = true → ∀ s : bK, fA n s f = some (lj f, s) := by
  intro n
  induction n with
  | zero => intro f h; rw [jr] at h; omega
  | succ n ih =>
    intro f hd hn hw s
    rw [jr] at hd
    have hnf := jS f
    obtain ⟨h1, h2, h3⟩ := uL hw
    rw [fA]
    unfold iJ
    rw [qL]
    by_cases c1 : f.Op = 1
    · simp only [c1, beq_self_eq_true, if_true]
    · have e1 : (f.Op == 1) = false := by simpa using c1
      simp only [e1, Bool.false_eq_true, if_false, c1]
      have key : ∀ (ks acc : List Formula), (∀ k ∈ ks, k ∈ f.Kids) → wellL ks = true → nodesL (acc ++ shapeL ks) ≤ 64 → nodesL ks ≤ 64 → eJ (fA n) f ks acc s = some (if f.Op = 4 then ou f.K (acc ++ shapeL ks) else lG f.Op (acc ++ shapeL ks), s) := by
        intro ks
        induction ks with
        | nil =>
          intro acc _ _ hl _
          rw [shapeL, List.append_nil] at *
          rw [eJ]
          by_cases c4 : f.Op = 4
          · simp only [c4, beq_self_eq_true, if_true]
            rw [AM s f.K (by rcases h3 with h | h | h <;> omega) acc hl, Option.bind_some]
          · have e4 : (f.Op == 4) = false := by simpa using c4
            simp only [e4, Bool.false_eq_true, if_false, c4]
            rw [ue s f.Op (by rcases h3 with h | h | h <;> omega) acc hl, Option.bind_some]
        | cons k ks ih2 =>
          intro acc hk hwk hl hl2
          rw [wellL, Bool.and_eq_true] at hwk
          rw [nodesL] at hl2
          rw [shapeL] at hl
          have hacc := nw (acc ++ lj k :: shapeL ks)
          simp only [List.length_append, List.length_cons] at hacc
          rw [eJ, ih k (by have := ox (hk k (by simp)); omega) (by omega) hwk.1 s, Option.bind_some, gX (by simp; omega) (by simp; omega), Option.bind_some,
            ih2 (acc ++ [lj k]) (fun z hz => hk z (by simp [hz])) hwk.2 (by rw [List.append_assoc]; exact hl) (by omega), shapeL]
          simp only [List.append_assoc, List.cons_append, List.nil_append]
      have := yG f.Kids
      have := key f.Kids [] (fun k hk => hk) h2 (by simpa using by omega) (by omega)
      simpa using this
def wc : Formula := ⟨0, 0, nu, []⟩
noncomputable def qt (f : Formula) : Formula × Int := if jc f then (if jc (lj f) then (lj f, 0) else (wc, 12)) else (wc, 11)
theorem Ae (f : Formula) (h : Gd f) : ni f = some (qt f) := by
  unfold ni qt
  rw [sN f h, Option.bind_some]
  cases hr : jc f
  · rfl
  · obtain ⟨h1, h2, h3⟩ := uX hr
    have hn := rc f
    simp only [Bool.not_true, Bool.false_eq_true, if_false, if_true]
    rw [CH bR f (by rw [fC]; omega) h1 h3, Option.bind_some, sN (lj f) (by omega)]
    have e : (((⟨0⟩ : bK).e) != 0) = false := rfl
    simp only [e, Bool.false_eq_true, if_false, Option.bind_some]
    cases jc (lj f) <;> rfl
theorem qR {f : Formula} : bI (qt f).1 ≤ 64 := by
  unfold qt
  cases h : jc f
  · exact by simp only [Bool.false_eq_true, if_false, wc]; rw [bI, nodesL]; omega
  · obtain ⟨h1, h2, h3⟩ := uX h
    have := rc f
    simp only [if_true]
    split
    · show bI (lj f) ≤ 64; omega
    · rw [wc, bI, nodesL]; omega
theorem DQ (f g : Formula) (hf : bI f ≤ 10000000) (hg : bI g ≤ 10000000) : mY f g = some (qt ⟨2, 0, nu, [f, g]⟩) := by
  unfold mY
  have := Ae ⟨2, 0, nu, [f, g]⟩ (by show bI _ ≤ _; rw [bI, nodesL, nodesL, nodesL]; omega)
  rw [show (⟨2, 0, (⟨zS, zS⟩ : Role), [f, g]⟩ : Formula) = ⟨2, 0, nu, [f, g]⟩ from rfl, this]
  rfl
end Go.Proofs.YtmlncblocfcmiaaGreat
namespace Go.Proofs.YtmlncblocfcmiaaGreat
open Go.RowKit
mutual
def rC (v : Role → Bool) : Formula → Bool
  | ⟨o, k, r, ks⟩ => if o = 1 then v r else if o = 2 then decide (evN v ks = ks.length) else if o = 3 then decide (0 < evN v ks) else decide (k ≤ (evN v ks : Int))
def evN (v : Role → Bool) : List Formula → Nat
  | [] => 0
  | k :: ks => (if rC v k then 1 else 0) + evN v ks
end
theorem rS (v : Role → Bool) (f : Formula) : rC v f = if f.Op = 1 then v f.Role else if f.Op = 2 then decide (evN v f.Kids = f.Kids.length) else if f.Op = 3 then decide (0 < evN v f.Kids) else decide (f.K ≤ (evN v f.Kids : Int)) := by cases f; rw [rC]
theorem BB (v : Role → Bool) : ∀ ks : List Formula, evN v ks ≤ ks.length
  | [] => by rw [evN]; exact Nat.le_refl _
  | k :: ks => by have := BB v ks; rw [evN, List.length_cons]; split <;> omega
theorem D5 {v w : Role → Bool} (h : ∀ r, v r = true → w r = true) : ∀ f : Formula, rC v f = true → rC w f = true := by
  refine CN fun f ih => ?_
  have key : evN v f.Kids ≤ evN w f.Kids := by
    have : ∀ ks : List Formula, (∀ k ∈ ks, rC v k = true → rC w k = true) → evN v ks ≤ evN w ks := by
      intro ks
      induction ks with
      | nil => intro _; rw [evN, evN]; exact Nat.le_refl _
      | cons k ks ih2 =>
        intro hk
        have h1 := ih2 (fun x hx => hk x (by simp [hx]))
        have h2 := hk k (by simp)
        rw [evN, evN]
        cases hv : rC v k
        · simp; omega
        · rw [h2 hv]; simp; omega
    exact this _ ih
  have hle := BB w f.Kids
  rw [rS, rS]
  split
  · exact h _
  · split
    · simp only [decide_eq_true_eq]; omega
    · split
      · simp only [decide_eq_true_eq]; omega
      · simp only [decide_eq_true_eq]; omega
theorem tp (v : Role → Bool) (f1 : Role → Option Bool) (rec : Formula → (Role → Option Bool) → Option Bool) (f : Formula) : ∀ (ks : List Formula) (x : Nat), (∀ k ∈ ks, rec k f1 = some (rC v k)) → x + ks.length ≤ 100000000 →
    gv rec f1 f ks (x : Int) = some (if f.Op = 2 then decide (x + evN v ks = f.Kids.length) else if f.Op = 3 then decide (0 < x + evN v ks) else decide (f.K ≤ ((x + evN v ks : Nat) : Int)))
  | [], x, _, _ => by
    rw [gv, evN, Nat.add_zero]
    by_cases c2 : f.Op = 2
    · simp only [c2, beq_self_eq_true, if_true]
      congr 1
      rw [Bool.eq_iff_iff, beq_iff_eq, decide_eq_true_eq]; omega
    · have e2 : (f.Op == 2) = false := by simpa using c2
      simp only [e2, Bool.false_eq_true, if_false, c2]
      by_cases c3 : f.Op = 3
      · simp only [c3, beq_self_eq_true, if_true]
        congr 1
        rw [Bool.eq_iff_iff, decide_eq_true_eq, decide_eq_true_eq]; omega
      · have e3 : (f.Op == 3) = false := by simpa using c3
        simp only [e3, Bool.false_eq_true, if_false, c3]
  | k :: ks, x, h, hl => by
    rw [List.length_cons] at hl
    rw [gv, h k (by simp), Option.bind_some, evN]
    cases rC v k
    · simp only [Bool.false_eq_true, if_false]
      rw [tp v f1 rec f ks x (fun z hz => h z (by simp [hz])) (by omega), Nat.zero_add]
    · simp only [if_true]
      have e : IntKind.i64.wrap ((x : Int) + 1) = ((x + 1 : Nat) : Int) := by rw [eK (by omega) (by omega)]; omega
      rw [e, tp v f1 rec f ks (x + 1) (fun z hz => h z (by simp [hz])) (by omega)]
      have e2 : x + 1 + evN v ks = x + (1 + evN v ks) := by omega
      rw [e2]
theorem BE (v : Role → Bool) (f1 : Role → Option Bool) (hv : ∀ r, f1 r = some (v r)) : ∀ (n : Nat) (f : Formula), kD f ≤ n → Gd f → iQ n f f1 = some (rC v f) := by
  intro n
  induction n with
  | zero => intro f h; rw [jr] at h; omega
  | succ n ih =>
    intro f hd hn
    rw [jr] at hd
    have hnf := jS f
    have hl := nw f.Kids
    unfold Gd at hn
    rw [iQ]
    unfold kN
    rw [rS]
    by_cases c1 : f.Op = 1
    · simp only [c1, beq_self_eq_true, if_true, hv, Option.bind_some]
    · have e1 : (f.Op == 1) = false := by simpa using c1
      simp only [e1, Bool.false_eq_true, if_false, c1]
      have := tp v f1 (iQ n) f f.Kids 0 (fun k hk => ih k (by have := ox hk; omega) (by have := pJ hk; unfold Gd; omega)) (by omega)
      simpa using this
def pq (v : Role → Bool) (f : Formula) : Bool := jc f && rC v f
theorem D6 (v : Role → Bool) (f1 : Role → Option Bool) (hv : ∀ r, f1 r = some (v r)) (f : Formula) (h : Gd f) : mn f f1 = some (pq v f) := by
  unfold mn pq
  rw [sN f h, Option.bind_some]
  have := rA f
  cases jc f
  · rfl
  · unfold Gd at h
    simp only [if_true, BE v f1 hv bR f (by rw [fC]; omega) h, Option.bind_some, Bool.true_and]
end Go.Proofs.YtmlncblocfcmiaaGreat
namespace Go.Proofs.YtmlncblocfcmiaaGreat
open Go.RowKit
structure PB (p : bT) : Prop where
  creds : p.Creds.length ≤ 2000000
  acks : p.Acks.length ≤ 2000000
  rel : ∀ x ∈ p.Creds, bI x.Release ≤ 10000000
  arel : ∀ a ∈ p.Acks, bI a.Release ≤ 10000000
  clo : ∀ a ∈ p.Acks, a.Closure.length ≤ 2000000
theorem sJ (f : aV → Option Bool) : ∀ (l : List aV) (i : Nat), eA f l i = pi f l i
  | [], i => by rw [eA]; rfl
  | x :: l, i => by
    rw [eA, pi]
    cases f x with
    | none => rfl
    | some b =>
      simp only [Option.bind_some]
      rw [sJ f l (i + 1)]
theorem yo (f : eS → Option Bool) : ∀ (l : List eS) (i : Nat), eM f l i = pi f l i
  | [], i => by rw [eM]; rfl
  | x :: l, i => by
    rw [eM, pi]
    cases f x with
    | none => rfl
    | some b =>
      simp only [Option.bind_some]
      rw [yo f l (i + 1)]
def sk (p : bT) (c : Cred) : Option aV := p.Creds.find? fun x => bG x.Signed.Cred c
theorem DI (p : bT) (c : Cred) : ∃ z, nB p c = some (match sk p c with | some x => (x, true) | none => (z, false)) := by
  unfold nB eC sk
  rw [sJ]
  rcases pg (fun x => lU x c) (fun x => bG x.Signed.Cred c) p.Creds 0 (fun x _ => rfl) with ⟨e, h1⟩ | ⟨A, x, B, hp, h1, h2, e⟩
  · rw [e, Option.bind_some, List.find?_eq_none.2 (fun x hx => by rw [h1 x hx]; simp)]
    exact ⟨_, rfl⟩
  · rw [e, Option.bind_some, hp, List.find?_append, List.find?_eq_none.2 (fun x hx => by rw [h1 x hx]; simp), List.find?_cons, h2]
    have : ¬ (((0 + A.length : Nat) : Int) < 0) := by omega
    simp only [this, decide_false, Bool.false_eq_true, if_false]
    rw [gp A x B _ (by omega)]
    exact ⟨x, rfl⟩
def EU : eS := ⟨⟨zS, zS⟩, ⟨0, 0, ⟨zS, zS⟩, []⟩, []⟩
theorem yS (f : eS → Option Bool) : ∀ (n : Nat) (l : List eS) (i j : Int), eX f n l i j = sD f EU n l i j
  | 0, _, _, _ => rfl
  | n + 1, l, i, j => by
    rw [eX, sD]
    simp only [yS f n]
    rfl
def tM (p : bT) (c : Cred) : List eS := p.Acks.filter fun a => gE bG a.Closure c
theorem Cg (p : bT) (hp : PB p) (c : Cred) : nc p c = some (tM p c) := by
  have := hp.acks
  unfold nc lK tM
  rw [gX (by simp; omega) (by simp; omega)]
  simp only [Option.bind_some, List.nil_append, jA]
  have : iL p.Acks (fun x => jq x c) = wY (fun x => jq x c) EU p.Acks := by
    unfold iL wY kl
    simp only [yo, yS]
  rw [this, sn _ (fun a => !gE bG a.Closure c) EU _ (by omega) (fun a _ => by unfold jq jj; rw [jA, uW]; rfl)]
  simp only [Bool.not_not]
noncomputable def mj : Formula × Int → List Formula → Formula × Int
  | t, [] => t
  | t, g :: l => if t.2 = 0 then mj (qt ⟨2, 0, nu, [t.1, g]⟩) l else t
theorem Aj : ∀ (l : List Formula) (e o k : Int) (r : Role) (ks : List Formula), (∀ g ∈ l, bI g ≤ 10000000) → bI ⟨o, k, r, ks⟩ ≤ 64 →
    jx l e o k r ks = some ((mj (⟨o, k, r, ks⟩, e) l).2, (mj (⟨o, k, r, ks⟩, e) l).1.Op, (mj (⟨o, k, r, ks⟩, e) l).1.K, (mj (⟨o, k, r, ks⟩, e) l).1.Role, (mj (⟨o, k, r, ks⟩, e) l).1.Kids)
  | [], e, o, k, r, ks, _, _ => by rw [jx, mj]
  | g :: l, e, o, k, r, ks, h, hf => by
    rw [jx, mj]
    by_cases c : e = 0
    · have e1 : (e != 0) = false := by simp [c]
      simp only [e1, Bool.false_eq_true, if_false, c, if_true]
      rw [DQ _ g (by omega) (h g (by simp)), Option.bind_some]
      have hn := qR (f := ⟨2, 0, nu, [⟨o, k, r, ks⟩, g]⟩)
      generalize qt ⟨2, 0, nu, [⟨o, k, r, ks⟩, g]⟩ = q at *
      obtain ⟨⟨o', k', r', ks'⟩, e'⟩ := q
      exact Aj l e' o' k' r' ks' (fun z hz => h z (by simp [hz])) hn
    · have e1 : (e != 0) = true := by simp [c]
      simp only [e1, if_true, c, if_false]
noncomputable def sR (g : Formula) (l : List Formula) : Formula × Int := if (mj (qt g) l).2 = 0 then mj (qt g) l else (wc, (mj (qt g) l).2)
theorem DN (g : Formula) (l : List Formula) (hg : bI g ≤ 10000000) (hl : ∀ x ∈ l, bI x ≤ 10000000) : md (g :: l) = some (sR g l) := by
  unfold md sR
  have e0 : dS (g :: l) 0 = some g := gp [] g l 0 rfl
  have e1 : lE (decide (0 ≤ 1) && decide ((1 : Int) ≤ ((g :: l).length : Int))) = some () := by
    rw [List.length_cons]
    have : (1 : Int) ≤ ((l.length + 1 : Nat) : Int) := by omega
    simp [lE]; omega
  have hn := qR (f := g)
  rw [e0, Option.bind_some, Ae g (by unfold Gd; omega), Option.bind_some, e1, Option.bind_some]
  generalize qt g = q at *
  obtain ⟨⟨o, k, r, ks⟩, e⟩ := q
  have hd : (g :: l).drop (Int.toNat 1) = l := rfl
  rw [hd, Aj l e o k r ks hl hn, Option.bind_some]
  generalize mj (⟨o, k, r, ks⟩, e) l = t
  obtain ⟨⟨o', k', r', ks'⟩, e'⟩ := t
  by_cases c : e' = 0
  · subst c; rfl
  · have e1 : (e' != 0) = true := by simp [c]
    simp only [e1, if_true, c, if_false]; rfl
noncomputable def mE (p : bT) (c : Cred) : Formula × Int := match sk p c with | none => (wc, 42) | some x => sR x.Release ((tM p c).map (·.Release))
theorem BA : ∀ (l : List eS) (acc : List Formula), acc.length + l.length ≤ 3000000 → jO l acc = md (acc ++ l.map (·.Release))
  | [], acc, _ => by
    rw [jO, List.map_nil, List.append_nil]
    cases md acc <;> rfl
  | a :: l, acc, h => by
    rw [List.length_cons] at h
    rw [jO, gX (by simp; omega) (by simp; omega), Option.bind_some, BA l _ (by simp; omega)]
    simp
theorem Cv {p : bT} {c : Cred} {x : aV} (h : sk p c = some x) : x ∈ p.Creds ∧ x.Signed.Cred = c := by
  unfold sk at h
  have h1 := List.mem_of_find?_eq_some h
  have h2 := List.find?_some h
  exact ⟨h1, cL.1 h2⟩
theorem Ek (p : bT) (hp : PB p) (c : Cred) : oO p c = some (mE p c) := by
  unfold oO mE
  obtain ⟨z, e⟩ := DI p c
  rw [e, Option.bind_some]
  cases h : sk p c with
  | none => rfl
  | some x =>
    simp only [Bool.not_true, Bool.false_eq_true, if_false]
    have hx := Cv h
    have hl : (tM p c).length ≤ p.Acks.length := List.length_filter_le _ _
    have := hp.acks
    rw [Cg p hp c, Option.bind_some, BA _ _ (by simp; omega)]
    exact DN x.Release _ (hp.rel x hx.1) (fun g hg => by
      obtain ⟨a, ha, rfl⟩ := List.mem_map.1 hg
      exact hp.arel a (List.mem_filter.1 ha).1)
theorem Bj (p : bT) (c : Cred) : bI (mE p c).1 ≤ 64 := by
  have hz : bI wc ≤ 64 := by rw [wc, bI, nodesL]; omega
  have hf : ∀ (l : List Formula) (t : Formula × Int), bI t.1 ≤ 64 → bI (mj t l).1 ≤ 64 := by
    intro l
    induction l with
    | nil => intro t h; exact h
    | cons g l ih =>
      intro t h
      rw [mj]
      split
      · exact ih _ qR
      · exact h
  unfold mE
  split
  · exact hz
  · unfold sR
    split
    · exact hf _ _ qR
    · exact hz
noncomputable def xV (p : bT) (v : Role → Bool) (x : aV) : Bool := decide ((mE p x.Signed.Cred).2 = 0) && pq v (mE p x.Signed.Cred).1
theorem uC (p : bT) (hp : PB p) (v : Role → Bool) (m) (hv : ∀ r, jH r m.1 m.2.1 m.2.2.1 m.2.2.2.1 m.2.2.2.2.1 m.2.2.2.2.2.1 m.2.2.2.2.2.2 = some (v r)) : ∀ (l : List aV) (acc : List Cred), acc.length + l.length ≤ 1000000000 →
    ig p m l acc = lW (acc ++ (l.filter (xV p v)).map (·.Signed.Cred))
  | [], acc, _ => by
    rw [ig, List.filter_nil, List.map_nil, List.append_nil, jA]
  | x :: l, acc, h => by
    rw [List.length_cons] at h
    have hn := Bj p x.Signed.Cred
    rw [ig, Ek p hp, Option.bind_some, D6 v _ hv _ (by unfold Gd; omega), List.filter_cons]
    unfold xV
    by_cases c : (mE p x.Signed.Cred).2 = 0
    · simp only [c, beq_self_eq_true, if_true, decide_true, Bool.true_and, Option.bind_some]
      cases ht : pq v (mE p x.Signed.Cred).1
      · simp only [Bool.false_eq_true, if_false]
        exact uC p hp v m hv l acc (by omega)
      · simp only [if_true]
        rw [gX (by simp; omega) (by simp; omega), Option.bind_some, uC p hp v m hv l _ (by simp; omega)]
        simp only [List.map_cons, List.append_assoc, List.cons_append, List.nil_append]
        rfl
    · have e : ((mE p x.Signed.Cred).2 == 0) = false := by simpa using c
      simp only [e, Bool.false_eq_true, if_false, c, decide_false, Bool.false_and, Option.bind_some]
      exact uC p hp v m hv l acc (by omega)
end Go.Proofs.YtmlncblocfcmiaaGreat
namespace Go.Proofs.YtmlncblocfcmiaaGreat
open Go.RowKit
theorem Du : ∀ (n : Nat) (l : List Formula), deepL l < n → ∃ r, iH n l = some r := by
  intro n
  induction n with
  | zero => intro l h; omega
  | succ n ih =>
    intro l h
    rw [iH]
    unfold lM
    generalize (0 : Int) = x
    induction l generalizing x with
    | nil => exact ⟨x, by rw [js]⟩
    | cons k l ih2 =>
      rw [deepL] at h
      have := jr k
      obtain ⟨r, e⟩ := ih k.Kids (by omega)
      rw [js, e, Option.bind_some]
      exact ih2 (by omega) _
theorem sE (f : Formula) (h : Gd f) : ∃ r, iH bR [f] = some r := by
  unfold Gd at h
  have := rA f
  exact Du bR [f] (by rw [deepL, deepL, fC]; omega)
structure PG (p : bT) : Prop extends PB p where
  csz : ∀ x ∈ p.Creds, pW x.Signed.Cred ≤ 1000000000
  asz : ∀ a ∈ p.Acks, ∀ c ∈ a.Closure, pW c ≤ 1000000000
theorem vM : ∀ (l : List eS) (x : Int), (∀ a ∈ l, bI a.Release ≤ 10000000 ∧ a.Closure.length ≤ 2000000 ∧ ∀ c ∈ a.Closure, pW c ≤ 1000000000) → ∃ r, iD l x = some r
  | [], x, _ => ⟨x, by rw [iD]⟩
  | a :: l, x, h => by
    obtain ⟨h1, h2, h3⟩ := h a (by simp)
    obtain ⟨r1, e1⟩ := sE a.Release (by unfold Gd; omega)
    obtain ⟨r2, e2⟩ := yw a.Closure (by omega) h3
    rw [iD, e1, Option.bind_some, e2, Option.bind_some]
    exact vM l _ (fun z hz => h z (by simp [hz]))
theorem zH (p : bT) (hp : PG p) : ∃ r, mS p = some r := by
  have key : ∀ (l : List aV) (x : Int), (∀ z ∈ l, z ∈ p.Creds) → ∃ r, iC p l x = some r := by
    intro l
    induction l with
    | nil =>
      intro x _
      obtain ⟨r, e⟩ := vM p.Acks x (fun a ha => ⟨hp.arel a ha, hp.clo a ha, hp.asz a ha⟩)
      exact ⟨r, by rw [iC, e]; rfl⟩
    | cons z l ih =>
      intro x h
      have hz := h z (by simp)
      obtain ⟨r1, e1⟩ := Ao [] [z.Signed] (fun s hs => by
        obtain rfl := List.mem_singleton.1 hs
        exact hp.csz z hz)
      obtain ⟨r2, e2⟩ := sE z.Release (by have := hp.rel z hz; unfold Gd; omega)
      rw [iC, e1]
      simp only [Option.bind_some]
      rw [e2, Option.bind_some]
      exact ih _ (fun y hy => h y (by simp [hy]))
  exact key p.Creds _ (fun z hz => hz)
end Go.Proofs.YtmlncblocfcmiaaGreat
namespace Go.Proofs.YtmlncblocfcmiaaGreat
open Go.RowKit
theorem El {f : Formula} (h : f.Op = 1) : lj f = f := by rw [qL, if_pos h]
end Go.Proofs.YtmlncblocfcmiaaGreat
namespace Go.Proofs.YtmlncblocfcmiaaGreat
open Go.RowKit
noncomputable def vD (l : List Cred) (peer : ByteArray) (r : Role) : Bool := @decide (kG (l.filter eE) ⟨r, peer⟩) (Classical.propDecidable _)
theorem wt (l : List Cred) (peer : ByteArray) (r : Role) : vD l peer r = true ↔ kG (l.filter eE) ⟨r, peer⟩ := by unfold vD; simp
theorem D2 {l m : List Cred} (h : ∀ c ∈ l, c ∈ m) (peer : ByteArray) (r : Role) (hv : vD l peer r = true) : vD m peer r = true := by
  rw [wt] at *
  exact hv.mono (fun c hc => by rw [List.mem_filter] at *; exact ⟨h c hc.1, hc.2⟩)
theorem Ff (l : List Cred) (hl : l.length ≤ 1000000) (peer : ByteArray) : ∃ m, nz l peer = some m ∧ ∀ r, jH r m.1 m.2.1 m.2.2.1 m.2.2.2.1 m.2.2.2.2.1 m.2.2.2.2.2.1 m.2.2.2.2.2.2 = some (vD l peer r) := by
  obtain ⟨C, T, us, ws, n, e, m, hC, _⟩ := E7 l hl
  unfold nz
  rw [e, Option.bind_some]
  refine ⟨_, rfl, fun r => ?_⟩
  unfold jH
  rw [jA]
  obtain ⟨b, e2, hb⟩ := Ef m C us ws [] n r peer
  rw [e2]
  congr 1
  rw [Bool.eq_iff_iff, hb, wt]
  exact kG.congr (fun c => by rw [hC, List.mem_filter]) _
noncomputable def sV (p : bT) (v : Role → Bool) (c : Cred) : Bool := decide ((mE p c).2 = 0) && pq v (mE p c).1
theorem Ct {p : bT} {v w : Role → Bool} (h : ∀ r, v r = true → w r = true) (c : Cred) (hx : sV p v c = true) : sV p w c = true := by
  unfold sV pq at *
  simp only [Bool.and_eq_true, decide_eq_true_eq] at *
  exact ⟨hx.1, hx.2.1, D5 h _ hx.2.2⟩
def iy (s : List Cred) : Prop := s.Pairwise (fun a b => An a b = true) ∧ ∀ c ∈ s, eE c = true
theorem iy.nodup {s : List Cred} (h : iy s) : s.Nodup := zz AH h.2 h.1
theorem iy.le {s t : List Cred} (h : iy s) (hs : ∀ c ∈ s, c ∈ t) : s.length ≤ t.length := iz h.nodup hs
theorem iy.ext {s t : List Cred} (h : iy s) (k : iy t) (hs : ∀ c, c ∈ s ↔ c ∈ t) : s = t :=
  pY.unique AH (l := t) ⟨h.1, fun x => ⟨fun hx => ⟨(hs x).1 hx, h.2 x hx⟩, fun hx => (hs x).2 hx.1⟩⟩ ⟨k.1, fun x => ⟨fun hx => ⟨hx, k.2 x hx⟩, fun hx => hx.1⟩⟩
theorem iy.eq {s t : List Cred} (h : iy s) (k : iy t) (hs : ∀ c ∈ s, c ∈ t) (hl : t.length ≤ s.length) : s = t := by
  refine h.ext k fun c => ⟨hs c, fun hc => ?_⟩
  refine Classical.byContradiction fun hn => ?_
  have := iz (l := c :: s) (m := t) (List.nodup_cons.2 ⟨hn, h.nodup⟩) (fun x hx => by
    rcases List.mem_cons.1 hx with rfl | hx
    · exact hc
    · exact hs x hx)
  simp at this; omega
theorem iy.nil : iy [] := ⟨by simp, by simp⟩
theorem iy.filter {s : List Cred} (h : iy s) (p : Cred → Bool) : iy (s.filter p) := ⟨h.1.filter _, fun c hc => h.2 c (List.mem_filter.1 hc).1⟩
def ob (p : bT) (c : Cred) : Prop := ∃ x ∈ p.Creds, x.Signed.Cred = c
def gw (p : bT) (l : List Cred) (peer : ByteArray) (c : Cred) : Prop := ob p c ∧ eE c = true ∧ sV p (vD l peer) c = true
theorem ng {p : bT} {l m : List Cred} (h : ∀ c ∈ l, c ∈ m) {peer : ByteArray} {c : Cred} (hc : gw p l peer c) : gw p m peer c := ⟨hc.1, hc.2.1, Ct (D2 h peer) c hc.2.2⟩
theorem mu {p : bT} {s : List Cred} (h : iy s) (hs : ∀ c ∈ s, ob p c) : s.length ≤ p.Creds.length := by
  have := h.le (t := p.Creds.map (·.Signed.Cred)) (fun c hc => by obtain ⟨x, hx, e⟩ := hs c hc; exact List.mem_map.2 ⟨x, hx, e⟩)
  simpa using this
theorem uw (p : bT) (hp : PB p) (l : List Cred) (hl : l.length ≤ 1000000) (peer : ByteArray) : ∃ s, jd p l peer = some s ∧ iy s ∧ (∀ c, c ∈ s ↔ gw p l peer c) ∧ s.length ≤ p.Creds.length := by
  obtain ⟨m, e, hv⟩ := Ff l hl peer
  have := hp.creds
  unfold jd
  rw [e, Option.bind_some, uC p hp _ m hv p.Creds [] (by simp; omega), List.nil_append]
  have h1 : (p.Creds.filter (xV p (vD l peer))).length ≤ p.Creds.length := List.length_filter_le _ _
  obtain ⟨s, e2, h2⟩ := Em ((p.Creds.filter (xV p (vD l peer))).map (·.Signed.Cred)) (by simp; omega)
  have hs : iy s := ⟨h2.1, fun c hc => ((h2.2 c).1 hc).2⟩
  have hm : ∀ c, c ∈ s ↔ gw p l peer c := fun c => by
    rw [h2.2, List.mem_map]
    constructor
    · rintro ⟨⟨x, hx, rfl⟩, hr⟩
      obtain ⟨h3, h4⟩ := List.mem_filter.1 hx
      exact ⟨⟨x, h3, rfl⟩, hr, h4⟩
    · rintro ⟨⟨x, hx, rfl⟩, hr, h4⟩
      exact ⟨⟨x, List.mem_filter.2 ⟨hx, h4⟩, rfl⟩, hr⟩
  exact ⟨s, e2, hs, hm, mu hs (fun c hc => ((hm c).1 hc).1)⟩
structure xi (a b : bT) (x y : List Cred) : Prop where
  sx : iy x
  sy : iy y
  fx : ∀ c, c ∈ x ↔ gw a y b.Name c
  fy : ∀ c, c ∈ y ↔ gw b x a.Name c
  least : ∀ X Y : List Cred, (∀ c, gw a Y b.Name c → c ∈ X) → (∀ c, gw b X a.Name c → c ∈ Y) → (∀ c ∈ x, c ∈ X) ∧ (∀ c ∈ y, c ∈ Y)
theorem xi.lx {a b : bT} {x y : List Cred} (h : xi a b x y) : x.length ≤ a.Creds.length := mu h.sx (fun c hc => ((h.fx c).1 hc).1)
theorem xi.ly {a b : bT} {x y : List Cred} (h : xi a b x y) : y.length ≤ b.Creds.length := mu h.sy (fun c hc => ((h.fy c).1 hc).1)
theorem xD (a b : bT) (ha : PB a) (hb : PB b) (la : a.Creds.length ≤ 600000) (lb : b.Creds.length ≤ 600000) : ∀ (n : Nat) (x y : List Cred) (i : Int), iy x → iy y → (∀ c ∈ x, gw a y b.Name c) → (∀ c ∈ y, gw b x a.Name c) →
    (∀ X Y : List Cred, (∀ c, gw a Y b.Name c → c ∈ X) → (∀ c, gw b X a.Name c → c ∈ Y) → (∀ c ∈ x, c ∈ X) ∧ (∀ c ∈ y, c ∈ Y)) → a.Creds.length + b.Creds.length < n + x.length + y.length →
    ∃ x' y' j, kh a b n x y i = some (x', y', j) ∧ xi a b x' y'
  | 0, x, y, i, sx, sy, hx, hy, hm, hn => by
    have h1 := mu sx (fun c hc => (hx c hc).1)
    have h2 := mu sy (fun c hc => (hy c hc).1)
    omega
  | n + 1, x, y, i, sx, sy, hx, hy, hm, hn => by
    have h1 := mu sx (fun c hc => (hx c hc).1)
    have h2 := mu sy (fun c hc => (hy c hc).1)
    obtain ⟨p, e1, sp, mp, lp⟩ := uw a ha y (by omega) b.Name
    obtain ⟨q, e2, sq, mq, lq⟩ := uw b hb x (by omega) a.Name
    have xp : ∀ c ∈ x, c ∈ p := fun c hc => (mp c).2 (hx c hc)
    have yq : ∀ c ∈ y, c ∈ q := fun c hc => (mq c).2 (hy c hc)
    have l1 := sx.le xp
    have l2 := sy.le yq
    rw [kh, e1, Option.bind_some, e2, Option.bind_some]
    by_cases c1 : p.length = x.length ∧ q.length = y.length
    · have e : ((if (((p.length : Int)) == ((x.length : Int))) then some ((((q.length : Int)) == ((y.length : Int)))) else some false) : Option Bool) = some true := by
        rw [c1.1, c1.2]; simp
      rw [e]
      simp only [Option.bind_some, if_true]
      obtain rfl := sx.eq sp xp (by omega)
      obtain rfl := sy.eq sq yq (by omega)
      exact ⟨_, _, _, rfl, sx, sy, mp, mq, hm⟩
    · have e : ((if (((p.length : Int)) == ((x.length : Int))) then some ((((q.length : Int)) == ((y.length : Int)))) else some false) : Option Bool) = some false := by
        by_cases c2 : p.length = x.length
        · have c3 : ¬ q.length = y.length := fun h => c1 ⟨c2, h⟩
          simp [c2]; omega
        · have : ¬ ((p.length : Int) = (x.length : Int)) := by omega
          simp [this]
      rw [e]
      simp only [Option.bind_some, Bool.false_eq_true, if_false]
      refine xD a b ha hb la lb n p q _ sp sq (fun c hc => ng yq ((mp c).1 hc)) (fun c hc => ng xp ((mq c).1 hc)) (fun X Y hX hY => ?_) (by omega)
      obtain ⟨g1, g2⟩ := hm X Y hX hY
      exact ⟨fun c hc => hX c (ng g2 ((mp c).1 hc)), fun c hc => hY c (ng g1 ((mq c).1 hc))⟩
theorem xn (a b : bT) (ha : PB a) (hb : PB b) (la : a.Creds.length ≤ 600000) (lb : b.Creds.length ≤ 600000) : ∃ x y j, ma a b = some (x, y, j) ∧ xi a b x y :=
  xD a b ha hb la lb bR [] [] 0 iy.nil iy.nil (by simp) (by simp) (fun _ _ _ _ => by simp) (by rw [fC]; simp; omega)
theorem za (a b : List Cred) (ha : a.length ≤ 1000000) : mD a b = some (a.filter (gE bG b)) := by
  unfold mD
  rw [zh (by omega)]
  simp only [Option.bind_some, jA]
  rw [vq, sn _ (fun c => !gE bG b c) zC a (by omega) (fun c _ => by unfold lO jj; rw [jA, uW]; rfl)]
  simp only [Bool.not_not]
theorem xj (a b : List Cred) (ha : a.length ≤ 1000000) : lI a b = some (a.filter fun c => !gE bG b c) := by
  unfold lI
  rw [zh (by omega)]
  simp only [Option.bind_some, jA]
  rw [vq, sn _ (fun c => gE bG b c) zC a (by omega) (fun c _ => by unfold lA jj; rw [jA, jA, uW])]
theorem zF (p : bT) (hp : p.Creds.length ≤ 600000) : ∃ s, nh p = some s ∧ iy s ∧ ∀ c, c ∈ s ↔ ob p c ∧ eE c = true := by
  have h1 : ∀ (l : List aV) (acc : List Cred), acc.length + l.length ≤ 1000000000 → jw l acc = lW (acc ++ l.map (·.Signed.Cred)) := by
    intro l
    induction l with
    | nil => intro acc _; rw [jw, List.map_nil, List.append_nil, jA]
    | cons x l ih =>
      intro acc h
      rw [List.length_cons] at h
      rw [jw, gX (by simp; omega) (by simp; omega), Option.bind_some, ih _ (by simp; omega)]
      simp
  unfold nh
  rw [h1 _ _ (by simp; omega), List.nil_append]
  obtain ⟨s, e, h⟩ := Em (p.Creds.map (·.Signed.Cred)) (by simp; omega)
  refine ⟨s, e, ⟨h.1, fun c hc => ((h.2 c).1 hc).2⟩, fun c => ?_⟩
  rw [h.2, List.mem_map]
  exact Iff.rfl
structure sh (p : eW) (a b : List Cred) : Prop where
  sa : iy a
  sb : iy b
  fa : ∀ c ∈ a, gw p.Owner b p.Client.Name c
  fb : ∀ c ∈ b, gw p.Client a p.Owner.Name c
  most : ∀ X Y : List Cred, iy X → iy Y → (∀ c ∈ X, gw p.Owner Y p.Client.Name c) → (∀ c ∈ Y, gw p.Client X p.Owner.Name c) → (∀ c ∈ X, c ∈ a) ∧ (∀ c ∈ Y, c ∈ b)
theorem vV {α : Type} (p : α → Bool) (l : List α) (h : (l.filter p).length = l.length) : ∀ x ∈ l, p x = true := by
  have := List.filter_sublist (l := l) (p := p)
  have e := this.eq_of_length h
  intro x hx
  rw [← e] at hx
  exact (List.mem_filter.1 hx).2
theorem yC (p : eW) (ha : PB p.Owner) (hb : PB p.Client) (la : p.Owner.Creds.length ≤ 600000) (lb : p.Client.Creds.length ≤ 600000) : ∀ (n : Nat) (x y : List Cred), iy x → iy y → x.length ≤ 600000 → y.length ≤ 600000 →
    (∀ X Y : List Cred, iy X → iy Y → (∀ c ∈ X, gw p.Owner Y p.Client.Name c) → (∀ c ∈ Y, gw p.Client X p.Owner.Name c) → (∀ c ∈ X, c ∈ x) ∧ (∀ c ∈ Y, c ∈ y)) → x.length + y.length < n →
    ∃ a b, jp p n x y = some (a, b) ∧ sh p a b
  | 0, x, y, sx, sy, lx, ly, hm, hn => by omega
  | n + 1, x, y, sx, sy, lx, ly, hm, hn => by
    obtain ⟨f, e1, sf, mf, lf⟩ := uw p.Owner ha y (by omega) p.Client.Name
    obtain ⟨g, e2, sg, mg, lg⟩ := uw p.Client hb x (by omega) p.Owner.Name
    have l1 := List.length_filter_le (gE bG f) x
    have l2 := List.length_filter_le (gE bG g) y
    rw [jp, e1, Option.bind_some, za x f (by omega), Option.bind_some, e2, Option.bind_some, za y g (by omega), Option.bind_some]
    by_cases c1 : (x.filter (gE bG f)).length = x.length ∧ (y.filter (gE bG g)).length = y.length
    · have e : ((if ((((x.filter (gE bG f)).length : Int)) == ((x.length : Int))) then some (((((y.filter (gE bG g)).length : Int)) == ((y.length : Int)))) else some false) : Option Bool) = some true := by
        rw [c1.1, c1.2]; simp
      rw [e]
      simp only [Option.bind_some, if_true]
      have h1 := vV _ _ c1.1
      have h2 := vV _ _ c1.2
      exact ⟨x, y, rfl, sx, sy, fun c hc => (mf c).1 ((iB cL f c).1 (h1 c hc)), fun c hc => (mg c).1 ((iB cL g c).1 (h2 c hc)), hm⟩
    · have e : ((if ((((x.filter (gE bG f)).length : Int)) == ((x.length : Int))) then some (((((y.filter (gE bG g)).length : Int)) == ((y.length : Int)))) else some false) : Option Bool) = some false := by
        by_cases c2 : (x.filter (gE bG f)).length = x.length
        · have c3 : ¬ (y.filter (gE bG g)).length = y.length := fun h => c1 ⟨c2, h⟩
          rw [c2]
          simp only [beq_self_eq_true, if_true]
          congr 1
          rw [beq_eq_false_iff_ne]; omega
        · have : (((x.filter (gE bG f)).length : Int) == (x.length : Int)) = false := by rw [beq_eq_false_iff_ne]; omega
          simp only [this, Bool.false_eq_true, if_false]
      rw [e]
      simp only [Option.bind_some, Bool.false_eq_true, if_false]
      refine yC p ha hb la lb n _ _ (sx.filter _) (sy.filter _) (by omega) (by omega) (fun X Y sX sY hX hY => ?_) (by omega)
      obtain ⟨g1, g2⟩ := hm X Y sX sY hX hY
      refine ⟨fun c hc => List.mem_filter.2 ⟨g1 c hc, ?_⟩, fun c hc => List.mem_filter.2 ⟨g2 c hc, ?_⟩⟩
      · rw [iB cL, mf]; exact ng g2 (hX c hc)
      · rw [iB cL, mg]; exact ng g1 (hY c hc)
theorem Cs (p : eW) (ha : PB p.Owner) (hb : PB p.Client) (la : p.Owner.Creds.length ≤ 600000) (lb : p.Client.Creds.length ≤ 600000) : ∃ a b, ji p = some (a, b) ∧ sh p a b := by
  obtain ⟨x, e1, sx, mx⟩ := zF p.Owner la
  obtain ⟨y, e2, sy, my⟩ := zF p.Client lb
  have l1 := mu sx (fun c hc => ((mx c).1 hc).1)
  have l2 := mu sy (fun c hc => ((my c).1 hc).1)
  unfold ji
  rw [e1, Option.bind_some, e2, Option.bind_some]
  exact yC p ha hb la lb bR x y sx sy (by omega) (by omega) (fun X Y sX sY hX hY => ⟨fun c hc => (mx c).2 ⟨(hX c hc).1, sX.2 c hc⟩, fun c hc => (my c).2 ⟨(hY c hc).1, sY.2 c hc⟩⟩) (by rw [fC]; omega)
theorem sh.la {p : eW} {a b : List Cred} (h : sh p a b) : a.length ≤ p.Owner.Creds.length := mu h.sa (fun c hc => (h.fa c hc).1)
theorem sh.lb {p : eW} {a b : List Cred} (h : sh p a b) : b.length ≤ p.Client.Creds.length := mu h.sb (fun c hc => (h.fb c hc).1)
theorem sh.fix {p : eW} {a b x y : List Cred} (h : sh p a b) (f : xi p.Owner p.Client x y) : (∀ c ∈ x, c ∈ a) ∧ (∀ c ∈ y, c ∈ b) := h.most x y f.sx f.sy (fun c hc => (f.fx c).1 hc) (fun c hc => (f.fy c).1 hc)
theorem vl (p : eW) (ha : PB p.Owner) (hb : PB p.Client) (la : p.Owner.Creds.length ≤ 600000) (lb : p.Client.Creds.length ≤ 600000) : ∃ a b x y j, ji p = some (a, b) ∧ sh p a b ∧ ma p.Owner p.Client = some (x, y, j) ∧ xi p.Owner p.Client x y ∧ jQ p = some (a.filter fun c => !gE bG x c, b.filter fun c => !gE bG y c) := by
  obtain ⟨a, b, e1, hM⟩ := Cs p ha hb la lb
  obtain ⟨x, y, j, e2, hF⟩ := xn p.Owner p.Client ha hb la lb
  have h1 := hM.la
  have h2 := hM.lb
  refine ⟨a, b, x, y, j, e1, hM, e2, hF, ?_⟩
  unfold jQ
  rw [e1, Option.bind_some, e2, Option.bind_some]
  simp only
  rw [xj a x (by omega), Option.bind_some, xj b y (by omega), Option.bind_some]
end Go.Proofs.YtmlncblocfcmiaaGreat
namespace Go.Proofs.YtmlncblocfcmiaaGreat
open Go.RowKit
def jD : Formula := ⟨2, 0, nu, []⟩
def fG (c : Cred) : List aV → List aV
  | [] => []
  | x :: l => if bG x.Signed.Cred c then ⟨x.Signed, jD⟩ :: l else x :: fG c l
theorem xo (c : Cred) : ∀ (A : List aV) (x : aV) (B : List aV), (∀ y ∈ A, bG y.Signed.Cred c = false) → bG x.Signed.Cred c = true → fG c (A ++ x :: B) = A ++ ⟨x.Signed, jD⟩ :: B
  | [], x, B, _, h => by rw [List.nil_append, fG, h]; rfl
  | y :: A, x, B, hA, h => by
    rw [List.cons_append, fG, hA y (by simp), xo c A x B (fun z hz => hA z (by simp [hz])) h]; rfl
theorem nV (c : Cred) : ∀ l : List aV, (fG c l).map (·.Signed.Cred) = l.map (·.Signed.Cred)
  | [] => rfl
  | x :: l => by
    rw [fG]
    split
    · rfl
    · rw [List.map_cons, nV c l]; rfl
theorem xE (c : Cred) (l : List aV) : (fG c l).length = l.length := by
  have := congrArg List.length (nV c l)
  simpa using this
theorem xq (c : Cred) (l : List aV) (h : ∃ x ∈ l, x.Signed.Cred = c) : ∃ (i : Nat) (x : aV), eC l (fun y => gS y c) = some (i : Int) ∧ dS l (i : Int) = some x ∧ l.set i ⟨x.Signed, jD⟩ = fG c l := by
  unfold eC
  rw [sJ]
  rcases pg (fun y => gS y c) (fun y => bG y.Signed.Cred c) l 0 (fun x _ => rfl) with ⟨e, h1⟩ | ⟨A, x, B, hp, h1, h2, e⟩
  · obtain ⟨x, hx, rfl⟩ := h
    have := h1 x hx
    rw [cL.2 rfl] at this; cases this
  · rw [Nat.zero_add] at e
    refine ⟨A.length, x, e, by rw [hp]; exact gp A x B _ rfl, ?_⟩
    rw [hp, xo c A x B h1 h2, List.set_append_right _ _ (Nat.le_refl _)]
    simp
theorem EH (P : eW) (c : Cred) (hl : P.Owner.Creds.length ≤ 600000) (h : ob P.Owner c) : fJ P 0 c = some (⟨⟨P.Owner.Name, fG c P.Owner.Creds, P.Owner.Acks⟩, P.Client, P.Formula, P.Plan, P.Rooms, P.Timeout, P.Tries, P.Budget, P.Keys⟩, true) := by
  obtain ⟨i, x, e1, e2, e3⟩ := xq c P.Owner.Creds h
  unfold fJ
  have n1 : ¬ ((0 : Int) < 0) := by omega
  have n2 : ¬ ((0 : Int) ≥ 2) := by omega
  simp only [n1, n2, decide_false, Bool.false_eq_true, if_false, Option.bind_some, beq_self_eq_true, if_true]
  rw [e1, Option.bind_some]
  have n3 : ¬ ((i : Int) < 0) := by omega
  simp only [n3, decide_false, Bool.false_eq_true, if_false]
  unfold gZ
  rw [gX (by simp; omega) (by simp; omega)]
  simp only [Option.bind_some, List.nil_append]
  rw [e2, Option.bind_some, Int.toNat_natCast]
  rw [show (⟨x.Signed, (⟨2, 0, (⟨zS, zS⟩ : Role), []⟩ : Formula)⟩ : aV) = ⟨x.Signed, jD⟩ from rfl, e3]
  have eta : (⟨P.Formula.Op, P.Formula.K, P.Formula.Role, P.Formula.Kids⟩ : Formula) = P.Formula := by cases P.Formula; rfl
  rw [eta]
theorem Br (P : eW) (c : Cred) (hl : P.Client.Creds.length ≤ 600000) (h : ob P.Client c) : fJ P 1 c = some (⟨P.Owner, ⟨P.Client.Name, fG c P.Client.Creds, P.Client.Acks⟩, P.Formula, P.Plan, P.Rooms, P.Timeout, P.Tries, P.Budget, P.Keys⟩, true) := by
  obtain ⟨i, x, e1, e2, e3⟩ := xq c P.Client.Creds h
  unfold fJ
  have n1 : ¬ ((1 : Int) < 0) := by omega
  have n2 : ¬ ((1 : Int) ≥ 2) := by omega
  have n4 : ((1 : Int) == 0) = false := rfl
  simp only [n1, n2, n4, decide_false, Bool.false_eq_true, if_false, Option.bind_some, beq_self_eq_true, if_true]
  rw [e1, Option.bind_some]
  have n3 : ¬ ((i : Int) < 0) := by omega
  simp only [n3, decide_false, Bool.false_eq_true, if_false]
  unfold gZ
  rw [gX (by simp; omega) (by simp; omega)]
  simp only [Option.bind_some, List.nil_append]
  rw [e2, Option.bind_some, Int.toNat_natCast]
  rw [show (⟨x.Signed, (⟨2, 0, (⟨zS, zS⟩ : Role), []⟩ : Formula)⟩ : aV) = ⟨x.Signed, jD⟩ from rfl, e3]
  have eta : (⟨P.Formula.Op, P.Formula.K, P.Formula.Role, P.Formula.Kids⟩ : Formula) = P.Formula := by cases P.Formula; rfl
  rw [eta]
theorem CG (P : eW) (c : Cred) (h : ¬ ob P.Owner c) : fJ P 0 c = some (P, false) := by
  unfold fJ eC
  have n1 : ¬ ((0 : Int) < 0) := by omega
  have n2 : ¬ ((0 : Int) ≥ 2) := by omega
  simp only [n1, n2, decide_false, Bool.false_eq_true, if_false, Option.bind_some, beq_self_eq_true, if_true]
  rw [sJ]
  rcases pg (fun y => gS y c) (fun y => bG y.Signed.Cred c) P.Owner.Creds 0 (fun x _ => rfl) with ⟨e, h1⟩ | ⟨A, x, B, hp, h1, h2, e⟩
  · rw [e]; rfl
  · exact absurd ⟨x, by rw [hp]; simp, cL.1 h2⟩ h
def ol (l : List aV) (d : Cred) : Option Formula := (l.find? fun x => bG x.Signed.Cred d).map (·.Release)
theorem vS (c d : Cred) : ∀ l : List aV, ol (fG c l) d = if bG d c then (ol l d).map fun _ => jD else ol l d
  | [] => by rw [fG]; simp [ol]
  | x :: l => by
    have ih := vS c d l
    rw [fG]
    unfold ol at *
    by_cases h1 : bG x.Signed.Cred c = true
    · have hc := cL.1 h1
      rw [if_pos h1, List.find?_cons, List.find?_cons]
      simp only
      cases h2 : bG d c
      · have h3 : bG x.Signed.Cred d = false := by
          rw [← Bool.not_eq_true, cL, hc]
          intro h
          rw [cL.2 h.symm] at h2; cases h2
        rw [h3]; simp
      · have h3 : bG x.Signed.Cred d = true := by rw [hc, cL.1 h2]; exact cL.2 rfl
        rw [h3]; simp
    · rw [if_neg h1, List.find?_cons, List.find?_cons]
      cases h2 : bG x.Signed.Cred d
      · exact ih
      · have h4 : bG d c = false := by
          rw [← Bool.not_eq_true, cL]
          intro h
          rw [h] at h2; exact h1 h2
        rw [h4]; simp
theorem uf (d : Cred) : ∀ (cs : List Cred) (l : List aV), ol (cs.foldl (fun l c => fG c l) l) d = if gE bG cs d then (ol l d).map fun _ => jD else ol l d
  | [], l => by simp [gE]
  | c :: cs, l => by
    have e : gE bG (c :: cs) d = (bG d c || gE bG cs d) := rfl
    rw [List.foldl_cons, uf d cs, vS, e]
    cases bG d c <;> cases gE bG cs d <;> cases ol l d <;> rfl
theorem oG : ∀ (cs : List Cred) (l : List aV), (cs.foldl (fun l c => fG c l) l).map (·.Signed.Cred) = l.map (·.Signed.Cred)
  | [], l => rfl
  | c :: cs, l => by rw [List.foldl_cons, oG cs, nV]
theorem lP (n : ByteArray) (l : List aV) (k : List eS) (c : Cred) : ob ⟨n, l, k⟩ c ↔ c ∈ l.map (·.Signed.Cred) := by
  unfold ob; rw [List.mem_map]
theorem BV {l : List aV} {c : Cred} (h : c ∈ l.map (·.Signed.Cred)) : ∃ r, ol l c = some r := by
  unfold ol
  obtain ⟨x, hx, rfl⟩ := List.mem_map.1 h
  cases hf : l.find? (fun y => bG y.Signed.Cred x.Signed.Cred) with
  | none =>
    have := List.find?_eq_none.1 hf x hx
    rw [cL.2 rfl] at this; exact absurd rfl this
  | some y => exact ⟨y.Release, rfl⟩
theorem oE (n : ByteArray) (l : List aV) (c : Cred) : mE ⟨n, l, []⟩ c = match ol l c with | none => (wc, 42) | some r => sR r [] := by
  unfold mE sk ol tM
  simp only
  cases l.find? (fun x => bG x.Signed.Cred c) <;> rfl
theorem zP : sR jD [] = (jD, 0) := by
  have h1 : jc jD = true := by decide +kernel
  have h2 : lj jD = jD := by
    rw [qL]
    have e1 : ¬ (jD.Op = 1) := by decide
    have e4 : ¬ (jD.Op = 4) := by decide
    simp only [e1, e4, if_false]
    rw [show jD.Kids = [] from rfl, shapeL]
    unfold lG
    rw [kO]
    rfl
  have h3 : qt jD = (jD, 0) := by unfold qt; rw [h1, h2, h1]; rfl
  unfold sR
  rw [h3, mj]; rfl
theorem xz {n : ByteArray} {l : List aV} {cs : List Cred} {c : Cred} (v : Role → Bool) (hc : c ∈ l.map (·.Signed.Cred)) (h : c ∈ cs) : sV ⟨n, cs.foldl (fun l c => fG c l) l, []⟩ v c = true := by
  obtain ⟨r, hr⟩ := BV hc
  unfold sV
  rw [oE, uf, if_pos ((iB cL cs c).2 h), hr]
  simp only [Option.map_some, zP]
  unfold pq
  rw [show jc jD = true by decide +kernel, rS]
  rfl
theorem CC {n : ByteArray} {l : List aV} {cs : List Cred} {c : Cred} (v : Role → Bool) (h : c ∉ cs) : sV ⟨n, cs.foldl (fun l c => fG c l) l, []⟩ v c = sV ⟨n, l, []⟩ v c := by
  unfold sV
  rw [oE, oE, uf, if_neg (fun hh => h ((iB cL cs c).1 hh))]
theorem xl {n : ByteArray} {l : List aV} {cs : List Cred} {m : List Cred} {peer : ByteArray} {c : Cred} (h : gw ⟨n, l, []⟩ m peer c) : gw ⟨n, cs.foldl (fun l c => fG c l) l, []⟩ m peer c := by
  obtain ⟨h1, h2, h3⟩ := h
  rw [lP] at h1
  refine ⟨by rw [lP, oG]; exact h1, h2, ?_⟩
  by_cases hc : c ∈ cs
  · exact xz _ h1 hc
  · rw [CC _ hc]; exact h3
theorem xA {n : ByteArray} {l : List aV} {cs : List Cred} {m : List Cred} {peer : ByteArray} {c : Cred} (h1 : ob ⟨n, l, []⟩ c) (h2 : eE c = true) (h : c ∈ cs) : gw ⟨n, cs.foldl (fun l c => fG c l) l, []⟩ m peer c := by
  rw [lP] at h1
  exact ⟨by rw [lP, oG]; exact h1, h2, xz _ h1 h⟩
theorem AX : bI jD ≤ 10000000 := by unfold jD; rw [bI, nodesL]; omega
theorem xr (c : Cred) : ∀ l : List aV, ∀ x ∈ fG c l, x.Release = jD ∨ x ∈ l
  | [], x, hx => by rw [fG] at hx; cases hx
  | y :: l, x, hx => by
    rw [fG] at hx
    split at hx
    · rcases List.mem_cons.1 hx with rfl | hx
      · exact .inl rfl
      · exact .inr (by simp [hx])
    · rcases List.mem_cons.1 hx with rfl | hx
      · exact .inr (by simp)
      · rcases xr c l x hx with h | h
        · exact .inl h
        · exact .inr (by simp [h])
theorem ya : ∀ (cs : List Cred) (l : List aV), ∀ x ∈ cs.foldl (fun l c => fG c l) l, x.Release = jD ∨ x ∈ l
  | [], l, x, hx => .inr hx
  | c :: cs, l, x, hx => by
    rw [List.foldl_cons] at hx
    rcases ya cs _ x hx with h | h
    · exact .inl h
    · exact xr c l x h
theorem PB.loose {n : ByteArray} {l : List aV} {k : List eS} (h : PB ⟨n, l, k⟩) (cs : List Cred) : PB ⟨n, cs.foldl (fun l c => fG c l) l, k⟩ where
  creds := by
    have := congrArg List.length (oG cs l)
    simp only [List.length_map] at this
    have := h.creds
    simp only at *; omega
  acks := h.acks
  rel := fun x hx => by
    rcases ya cs l x hx with e | e
    · rw [e]; exact AX
    · exact h.rel x e
  arel := h.arel
  clo := h.clo
theorem yR (cs : List Cred) (l : List aV) : (cs.foldl (fun l c => fG c l) l).length = l.length := by
  have := congrArg List.length (oG cs l)
  simpa using this
theorem yj (r : List Cred) (n1 : ByteArray) (k1 : List eS) (n2 : ByteArray) (l2 : List aV) (k2 : List eS) (o k : Int) (ro : Role) (fk : List Formula) (pl : Int) (rm : iU) (tm tr bu : Int) (ks : List Key) : ∀ (cs : List Cred) (l1 : List aV), (∀ c ∈ cs, c ∈ r) → (∀ c ∈ cs, c ∈ l1.map (·.Signed.Cred)) → l1.length ≤ 600000 →
    fV r cs n1 l1 k1 n2 l2 k2 o k ro fk pl rm tm tr bu ks = some (.inr (n1, cs.foldl (fun l c => fG c l) l1, k1, n2, l2, k2, o, k, ro, fk, pl, rm, tm, tr, bu, ks))
  | [], l1, _, _, _ => by rw [fV]; rfl
  | c :: cs, l1, h1, h2, h3 => by
    rw [fV, rH, (iB cL r c).2 (h1 c (by simp)), Option.bind_some]
    simp only [Bool.not_true, Bool.false_eq_true, if_false]
    rw [EH _ c (by exact h3) (by exact (lP n1 l1 k1 c).2 (h2 c (by simp))), Option.bind_some]
    exact yj r n1 k1 n2 l2 k2 o k ro fk pl rm tm tr bu ks cs (fG c l1) (fun z hz => h1 z (by simp [hz])) (fun z hz => by rw [nV]; exact h2 z (by simp [hz])) (by rw [xE]; exact h3)
theorem yV (r : List Cred) (n1 : ByteArray) (l1 : List aV) (k1 : List eS) (n2 : ByteArray) (k2 : List eS) (o k : Int) (ro : Role) (fk : List Formula) (pl : Int) (rm : iU) (tm tr bu : Int) (ks : List Key) : ∀ (cs : List Cred) (l2 : List aV), (∀ c ∈ cs, c ∈ r) → (∀ c ∈ cs, c ∈ l2.map (·.Signed.Cred)) → l2.length ≤ 600000 →
    fZ r cs n1 l1 k1 n2 l2 k2 o k ro fk pl rm tm tr bu ks = some (.inr (n1, l1, k1, n2, cs.foldl (fun l c => fG c l) l2, k2, o, k, ro, fk, pl, rm, tm, tr, bu, ks))
  | [], l2, _, _, _ => by rw [fZ]; rfl
  | c :: cs, l2, h1, h2, h3 => by
    rw [fZ, rH, (iB cL r c).2 (h1 c (by simp)), Option.bind_some]
    simp only [Bool.not_true, Bool.false_eq_true, if_false]
    rw [Br _ c (by exact h3) (by exact (lP n2 l2 k2 c).2 (h2 c (by simp))), Option.bind_some]
    exact yV r n1 l1 k1 n2 k2 o k ro fk pl rm tm tr bu ks cs (fG c l2) (fun z hz => h1 z (by simp [hz])) (fun z hz => by rw [nV]; exact h2 z (by simp [hz])) (by rw [xE]; exact h3)
theorem yf (r : List Cred × List Cred) : ∀ l : List Cred, (∀ c ∈ l, c ∈ r.2) → fX r l = some (.inr ())
  | [], _ => by rw [fX]
  | c :: l, h => by
    rw [fX, rH, (iB cL r.2 c).2 (h c (by simp)), Option.bind_some]
    simp only [Bool.not_true, Bool.false_eq_true, if_false]
    exact yf r l (fun z hz => h z (by simp [hz]))
structure PP (p : eW) : Prop where
  o : PG p.Owner
  c : PG p.Client
  lo : p.Owner.Creds.length ≤ 600000
  lc : p.Client.Creds.length ≤ 600000
  f : bI p.Formula ≤ 10000000
theorem D9 (p : eW) (hp : PP p) : ∃ r, mZ p = some r := by
  obtain ⟨r1, e1⟩ := zH p.Owner hp.o
  obtain ⟨r2, e2⟩ := zH p.Client hp.c
  obtain ⟨r3, e3⟩ := sE p.Formula (by have := hp.f; unfold Gd; omega)
  obtain ⟨r4, e4⟩ := Ao p.Keys [] (by simp)
  unfold mZ
  rw [e1, Option.bind_some, e2, Option.bind_some]
  simp only [Option.bind_some]
  rw [e3, Option.bind_some, e4, Option.bind_some]
  exact ⟨_, rfl⟩
theorem vX (hf : lJ = some true) (p : eW) (hp : PP p) : kz p = some true := by
  obtain ⟨g, eg⟩ := D9 p hp
  unfold kz
  rw [hf, eg]
  simp only [Option.bind_some, Bool.not_true, Bool.false_eq_true, if_false]
  by_cases cg : g > 6000
  · simp only [cg, decide_true, if_true]
  · simp only [cg, decide_false, Bool.false_eq_true, if_false]
    have ha := hp.o.toPB
    have hb := hp.c.toPB
    have la := hp.lo
    have lb := hp.lc
    obtain ⟨a, b, x, y, j, e1, hM, e2, hF, e3⟩ := vl p ha hb la lb
    have i1 := hM.la
    have i2 := hM.lb
    obtain ⟨xa, yb⟩ := hM.fix hF
    rw [e1, Option.bind_some, e2, Option.bind_some]
    have key : ∀ l : List Cred, (∀ c ∈ l, c ∈ a) → fW (a, b) (x, y, j) p l = some true := by
      intro l
      induction l with
      | cons c l ih =>
        intro h
        rw [fW, rH, (iB cL a c).2 (h c (by simp)), Option.bind_some]
        simp only [Bool.not_true, Bool.false_eq_true, if_false]
        exact ih (fun z hz => h z (by simp [hz]))
      | nil =>
        intro _
        obtain ⟨f1, g1, s1, m1, _⟩ := uw p.Owner ha b (by omega) p.Client.Name
        obtain ⟨f2, g2, s2, m2, _⟩ := uw p.Client hb a (by omega) p.Owner.Name
        rw [fW]
        simp only
        rw [yf (a, b) y yb, Option.bind_some]
        simp only
        rw [g1, Option.bind_some, g2, Option.bind_some, e3, Option.bind_some]
        simp only
        have ho : ∀ c ∈ a.filter (fun c => !gE bG x c), c ∈ p.Owner.Creds.map (·.Signed.Cred) := fun c hc => (lP p.Owner.Name p.Owner.Creds p.Owner.Acks c).1 (hM.fa c (List.mem_filter.1 hc).1).1
        have hc' : ∀ c ∈ b.filter (fun c => !gE bG y c), c ∈ p.Client.Creds.map (·.Signed.Cred) := fun c hc => (lP p.Client.Name p.Client.Creds p.Client.Acks c).1 (hM.fb c (List.mem_filter.1 hc).1).1
        rw [yj _ _ _ _ _ _ _ _ _ _ _ _ _ _ _ _ _ _ (fun c hc => (m1 c).2 (hM.fa c (List.mem_filter.1 hc).1)) ho la, Option.bind_some]
        simp only
        rw [yV _ _ _ _ _ _ _ _ _ _ _ _ _ _ _ _ _ _ (fun c hc => (m2 c).2 (hM.fb c (List.mem_filter.1 hc).1)) hc' lb, Option.bind_some]
        simp only
        have hw : IntKind.i64.wrap (((p.Owner.Acks.length : Int)) + ((p.Client.Acks.length : Int))) = (p.Owner.Acks.length : Int) + (p.Client.Acks.length : Int) := by
          have := ha.acks; have := hb.acks
          exact eK (by omega) (by omega)
        rw [hw]
        by_cases ck : (p.Owner.Acks.length : Int) + (p.Client.Acks.length : Int) > 0
        · simp only [ck, decide_true, if_true]
        · simp only [ck, decide_false, Bool.false_eq_true, if_false]
          have k1 : p.Owner.Acks = [] := List.eq_nil_of_length_eq_zero (by omega)
          have k2 : p.Client.Acks = [] := List.eq_nil_of_length_eq_zero (by omega)
          obtain ⟨⟨n1, l1, q1⟩, ⟨n2, l2, q2⟩, pf, p1, p2, p3, p4, p5, p6⟩ := p
          simp only at *
          subst k1 k2
          obtain ⟨x', y', j', e4, hQ⟩ := xn _ _ (ha.loose (a.filter fun c => !gE bG x c)) (hb.loose (b.filter fun c => !gE bG y c)) (by simp only; rw [yR]; exact la) (by simp only; rw [yR]; exact lb)
          rw [e4, Option.bind_some]
          obtain ⟨h1, h2⟩ := hF.least x' y' (fun c hc => (hQ.fx c).2 (xl hc)) (fun c hc => (hQ.fy c).2 (xl hc))
          have ha' : ∀ c ∈ a, c ∈ x' := fun c hc => by
            by_cases hx : c ∈ x
            · exact h1 c hx
            · have hh := hM.fa c hc
              exact (hQ.fx c).2 (xA hh.1 hh.2.1 (List.mem_filter.2 ⟨hc, by rw [Bool.not_eq_true', ← Bool.not_eq_true, iB cL]; exact hx⟩))
          have hb' : ∀ c ∈ b, c ∈ y' := fun c hc => by
            by_cases hx : c ∈ y
            · exact h2 c hx
            · have hh := hM.fb c hc
              exact (hQ.fy c).2 (xA hh.1 hh.2.1 (List.mem_filter.2 ⟨hc, by rw [Bool.not_eq_true', ← Bool.not_eq_true, iB cL]; exact hx⟩))
          have j1 := hM.sa.le ha'
          have j2 := hM.sb.le hb'
          have d1 : ((x'.length : Int) ≥ (a.length : Int)) := by omega
          have d2 : ((y'.length : Int) ≥ (b.length : Int)) := by omega
          simp only [d1, d2, decide_true, if_true, Option.bind_some]
    exact key x xa
end Go.Proofs.YtmlncblocfcmiaaGreat
