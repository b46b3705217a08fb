/- a part of a proof of GuardRises -/
import Derived.WalkKit
import Derived.WalkLawsBesides
import Derived.Maps.AppendAt
import Derived.OrdersHeld
import Derived.Laws.IdiomStrings
import Derived.Maps.RangeRun
import Derived.Lib.BytesEntry
import Derived.Lib.Bytealg
import Derived.Laws.Externs
import Derived.ChangeKeysEq
import Derived.Deep.AppendSrc
set_option linter.all false
namespace Go.Proofs.YtmlncblocfcmiaaGreat
open Go.RowKit
def lR (E : Nat → Value) (d : Nat) (v : Value) : Nat → Value := fun t => if t = d then v else E t
def aS (E : Nat → Value) : Operand → Value
  | .tmp t => E t
  | .const v => v
  | .global g => .pointer (some ⟨g, 0, none⟩)
  | .func f => .func (.func f) #[] #[]
def Ag (n : Nat) (a : Act) (E : Nat → Value) : Prop := a.tmps.size = n ∧ a.defers = [] ∧ ∀ t, a.tmps.getD t undef = E t
section
variable {n : Nat} {a : Act} {E : Nat → Value}
theorem Ag.eval (h : Ag n a E) : a.eval = aS E := by
  funext x
  cases x with
  | tmp t => exact h.2.2 t
  | const v => rfl
  | global g => rfl
  | func f => rfl
theorem Ag.put (h : Ag n a E) {d : Nat} (hd : d < n) (v : Value) : Ag n (a.put (some d) v) (lR E d v) := by
  refine ⟨by simp [Act.put, h.1], h.2.1, fun t => ?_⟩
  have h3 := h.2.2 t
  simp only [Act.put, lR]
  by_cases ht : t = d
  · subst ht
    simp [h.1, hd]
  · have : ¬ d = t := fun e => ht e.symm
    rw [if_neg ht, ← h3]
    simp [Array.getD_eq_getD_getElem?, this]
theorem Ag.put_none (h : Ag n a E) (v : Value) : Ag n (a.put none v) E := h
theorem Ag.yield (h : Ag n a E) {ops : Array Oper} {j t : Nat} {b : Bool} (hj : (ops[j]?).bind (·.dst) = some t) (ht : t < n) (hv : E t = .bool b) : yielded ops a.tmps j = some b := by
  have h3 := h.2.2 t
  have hs : a.tmps[t]? = some (E t) := by
    rw [← h3]
    simp [Array.getD_eq_getD_getElem?, h.1, ht]
  simp [yielded, hj, hs, hv]
end
abbrev mP := Exit → (Nat → Value) → World → Prop
def lift (n : Nat) (Q : mP) : Exit → Act → World → Prop
  | .panic _, _, _ => False
  | .outgrown, _, _ => False
  | e, a, w => ∃ E, Ag n a E ∧ Q e E w
def CW (P : Program) (n : Nat) (c : Code) (Q : mP) (E : Nat → Value) (W : World) : Prop := ∀ a, Ag n a E → c.wp P (lift n Q) a W
def LW (P : Program) (n : Nat) (ops : Array Oper) (Q : mP) (l : List Oper) (E : Nat → Value) (W : World) : Prop := ∀ a, Ag n a E → wpList P ops (lift n Q) l a W
def uH (K : (Nat → Value) → World → Prop) (Q : mP) : mP
  | .normal, E, W => K E W
  | e, E, W => Q e E W
def um (id : Nat) (Q : mP) : mP
  | .exit j, E, W => if j = id then Q .normal E W else Q (.exit j) E W
  | e, E, W => Q e E W
section
variable {P : Program} {n : Nat} {Q : mP} {E : Nat → Value} {W : World} {c x y : Code} {ops : Array Oper} {rest : List Oper} {o : Oper}
theorem B9 {Q' : mP} (h : CW P n c Q E W) (hq : ∀ e E W, Q e E W → Q' e E W) : CW P n c Q' E W := fun a ha =>
  wp_mono (h a ha) (fun e _ _ h => by
    cases e with
    | panic c => exact h
    | outgrown => exact h
    | _ => obtain ⟨E', ha', hq'⟩ := h; exact ⟨E', ha', hq _ _ _ hq'⟩)
theorem aD (h : CW P n x (uH (fun E W => CW P n y Q E W) Q) E W) : CW P n (.seq x y) Q E W := fun a ha =>
  wp_seq (wp_mono (h a ha) (fun e a' w' h => by
    cases e with
    | normal => obtain ⟨E', ha', hq⟩ := h; exact hq a' ha'
    | _ => exact h))
theorem aX (h : Q .normal E W) : CW P n .skip Q E W := fun _ ha => wp_skip ⟨E, ha, h⟩
theorem aU (h : Q .ret E W) : CW P n .ret Q E W := fun _ ha => wp_ret ⟨E, ha, h⟩
theorem iD {id : Nat} (h : Q (.exit id) E W) : CW P n (.exit id) Q E W := fun _ ha => wp_exit ⟨E, ha, h⟩
theorem aY {id : Nat} (h : CW P n c (um id Q) E W) : CW P n (.block id c) Q E W := fun a ha =>
  wp_block (wp_mono (h a ha) (fun e a' w' h => by
    cases e with
    | exit j =>
      obtain ⟨E', ha', hq⟩ := h
      simp only [Exit.inBlock]
      simp only [um] at hq
      split at hq
      · rename_i hj; rw [if_pos hj]; exact ⟨E', ha', hq⟩
      · rename_i hj; rw [if_neg hj]; exact ⟨E', ha', hq⟩
    | _ => exact h))
theorem Fv {co : Operand} {b : Bool} (hc : aS E co = .bool b) (ht : b = true → CW P n x Q E W) (hf : b = false → CW P n y Q E W) : CW P n (.cond co x y) Q E W := fun a ha => by
  refine wp_cond_split (t := b) (by rw [ha.eval]; exact hc) (fun h => ht h a ha) (fun h => hf h a ha)
theorem uo {co : Operand} (hc : aS E co = .bool true) (h : CW P n x Q E W) : CW P n (.cond co x y) Q E W := Fv hc (fun _ => h) (fun h => by cases h)
theorem oL {co : Operand} (hc : aS E co = .bool false) (h : CW P n y Q E W) : CW P n (.cond co x y) Q E W := Fv hc (fun h => by cases h) (fun _ => h)
theorem aA {id : Nat} {l : List Oper} (h : LW P n l.toArray Q l E W) : CW P n (.region id l.toArray false) Q E W := fun a ha => wp_region_lit (h a ha)
theorem aF (h : Q .normal E W) : LW P n ops Q [] E W := fun _ ha => wpList_nil ⟨E, ha, h⟩
theorem CY {P : Program} {c : Code} {Q : Exit → Act → World → Prop} {a : Act} {w : World} (I : Nat → Act → World → Prop) (m : Nat) (h₀ : I m a w)
    (round : ∀ m a w, I m a w → c.wp P (Exit.then (fun a' w' => ∃ m', m' < m ∧ I m' a' w') Q) a w) : (Code.loop c).wp P Q a w := by
  intro b k cs
  have key : ∀ m a w, I m a w → ∃ e a' w', Q e a' w' ∧ Arrives P (lone (b.at a (.code c :: .inLoop c :: k)) cs w) b k cs e a' w' := by
    intro m
    induction m using Nat.strongRecOn with
    | _ m ih =>
      intro a w hI
      obtain ⟨e, a₁, w₁, hq, harr⟩ := round m a w hI b (.inLoop c :: k) cs
      cases e with
      | normal =>
        obtain ⟨m', hlt, hI₁⟩ := hq
        obtain ⟨e₂, a₂, w₂, hq₂, harr₂⟩ := ih m' hlt a₁ w₁ hI₁
        exact ⟨e₂, a₂, w₂, hq₂, .of_steps (Steps.trans harr (.one step_inLoop)) harr₂⟩
      | exit id => exact ⟨_, a₁, w₁, hq, .pass (x := .inLoop c) rfl (fun _ _ => .inl (by simp)) harr⟩
      | goto l => exact ⟨_, a₁, w₁, hq, .pass (x := .inLoop c) rfl (fun _ _ => .inl (by simp)) harr⟩
      | ret => exact ⟨_, a₁, w₁, hq, .pass (x := .inLoop c) rfl (fun _ _ => .inl (by simp)) harr⟩
      | panic ch => exact ⟨_, a₁, w₁, hq, .pass (x := .inLoop c) rfl (fun _ _ => .inl (by simp)) harr⟩
      | outgrown => exact ⟨_, a₁, w₁, hq, .pass (x := .inLoop c) rfl (fun _ _ => .inl (by simp)) harr⟩
  obtain ⟨e, a', w', hq, harr⟩ := key m a w h₀
  exact ⟨e, a', w', hq, .of_steps (.one step_loop) harr⟩
theorem iV (I : Nat → (Nat → Value) → World → Prop) (m : Nat) (h₀ : I m E W)
    (round : ∀ m E W, I m E W → CW P n c (uH (fun E' W' => ∃ m', m' < m ∧ I m' E' W') Q) E W) : CW P n (.loop c) Q E W := fun a ha =>
  CY (fun m a w => ∃ E, Ag n a E ∧ I m E w) m ⟨E, ha, h₀⟩ (fun m a w ⟨E, ha, hI⟩ =>
    wp_mono (round m E w hI a ha) (fun e a' w' h => by
      cases e with
      | normal => obtain ⟨E', ha', m', hlt, hI'⟩ := h; exact ⟨m', hlt, E', ha', hI'⟩
      | _ => exact h))
def nK (n : Nat) (ops : Array Oper) (E : Nat → Value) (o : Oper) : Prop :=
  o.guard = none ∨ ∃ j want t, o.guard = some (j, want) ∧ (ops[j]?).bind (·.dst) = some t ∧ t < n ∧ E t = .bool want
theorem nK.of {a : Act} (h : nK n ops E o) (ha : Ag n a E) : Region.wanted o (yielded ops a.tmps) = true := by
  rcases h with h | ⟨j, want, t, hg, hj, ht, hE⟩
  · simp [Region.wanted, h]
  · simp [Region.wanted, hg, ha.yield hj ht hE]
theorem Gh {d : Nat} {v : Value} {W' : World} (hw : nK n ops E o) (hd : o.dst = some d) (hn : d < n) (hr : (execOp (aS E) o).run P W = .ok (.value v) W')
    (h : LW P n ops Q rest (lR E d v) W') : LW P n ops Q (o :: rest) E W := fun a ha => by
  unfold wpList
  rw [if_pos (hw.of ha)]
  refine .inl ?_
  unfold Oper.wp
  rw [ha.eval, hr, Oper.upon_value, hd]
  exact h _ (ha.put hn v)
theorem Hz {W' : World} (hw : nK n ops E o) (hd : o.dst = none) (hr : (execOp (aS E) o).run P W = .ok .skip W')
    (h : LW P n ops Q rest E W') : LW P n ops Q (o :: rest) E W := fun a ha => by
  unfold wpList
  rw [if_pos (hw.of ha)]
  refine .inl ?_
  unfold Oper.wp
  rw [ha.eval, hr, Oper.upon_skip, hd]
  exact h _ (ha.put_none _)
theorem HD {f : FuncId} {args : Array Value} {d : Nat} (hw : nK n ops E o) (hd : o.dst = some d) (hn : d < n) (hr : (execOp (aS E) o).run P W = .ok (.enter f args) W)
    (h : Calls P f args W fun e w' => ∃ v, e = .returned v ∧ LW P n ops Q rest (lR E d v) w') : LW P n ops Q (o :: rest) E W := fun a ha => by
  unfold wpList
  rw [if_pos (hw.of ha)]
  refine .inl ?_
  unfold Oper.wp
  rw [ha.eval, hr, Oper.upon_enter]
  refine h.mono ?_
  rintro e w' ⟨v, rfl, hl⟩
  simp only [hd]
  exact hl _ (ha.put hn v)
theorem Kl {d j t : Nat} {want : Bool} (hd : o.dst = some d) (hn : d < n) (hg : o.guard = some (j, want)) (hj : (ops[j]?).bind (·.dst) = some t) (ht : t < n) (hE : E t = .bool (!want))
    (h : LW P n ops Q rest (lR E d undef) W) : LW P n ops Q (o :: rest) E W := fun a ha => by
  unfold wpList
  have hy := ha.yield hj ht hE
  rw [if_neg (by simp [Region.wanted, hg, hy])]
  rw [hd]
  exact h _ (ha.put hn _)
end
end Go.Proofs.YtmlncblocfcmiaaGreat
namespace Go.Proofs.YtmlncblocfcmiaaGreat
open Go.RowKit
variable {dd : Bool}
abbrev bD := Nat → Option Obj
def hp (W : World) : bD := fun b => W.heap[b]?
def pM (dd : Bool) (a b : Nat) : Prop := dd = true → a ≤ b
theorem pM.of {dd : Bool} {a b : Nat} (h : a ≤ b) : pM dd a b := fun _ => h
theorem pM.trans {dd : Bool} {a b c : Nat} (h : pM dd a b) (k : pM dd b c) : pM dd a c := fun e => Nat.le_trans (h e) (k e)
structure Ex (dd : Bool) (w W : World) : Prop where
  os : W.os = w.os
  tape : W.tape = w.tape
  output : W.output = w.output
  drawn : pM dd w.drawn W.drawn
  size : w.heap.size ≤ W.heap.size
  old : ∀ b, b < w.heap.size → W.heap[b]? = w.heap[b]?
theorem Ex.refl (w : World) : Ex dd w w := ⟨rfl, rfl, rfl, pM.of (Nat.le_refl _), Nat.le_refl _, fun _ _ => rfl⟩
theorem Ex.trans {a b c : World} (h : Ex dd a b) (k : Ex dd b c) : Ex dd a c :=
  ⟨k.os.trans h.os, k.tape.trans h.tape, k.output.trans h.output, pM.trans h.drawn k.drawn, Nat.le_trans h.size k.size, fun i hi => (k.old i (Nat.lt_of_lt_of_le hi h.size)).trans (h.old i hi)⟩
theorem Ex.drew (w : World) : Ex dd w w.drew := ⟨rfl, rfl, rfl, pM.of (Nat.le_succ _), Nat.le_refl _, fun _ _ => rfl⟩
theorem Ex.alloc (w : World) (o : Obj) : Ex dd w (w.alloc o) := ⟨rfl, rfl, rfl, pM.of (Nat.le_refl _), by show w.heap.size ≤ (w.heap.push o).size; simp, fun k hk => Below.heap_alloc w o k hk⟩
theorem Ex.weak {w W : World} (h : Ex true w W) : Ex dd w W := ⟨h.os, h.tape, h.output, pM.of (h.drawn rfl), h.size, h.old⟩
def bE (μ μ' : bD) : Prop := ∀ b o, μ b = some o → μ' b = some o
theorem bE.refl (μ : bD) : bE μ μ := fun _ _ h => h
theorem bE.trans {a b c : bD} (h : bE a b) (k : bE b c) : bE a c := fun x o hx => k x o (h x o hx)
structure ST (dd : Bool) (F : Nat → Prop) (w W : World) (μ : bD) (L : List (Nat × Obj)) : Prop where
  os : W.os = w.os
  tape : W.tape = w.tape
  output : W.output = w.output
  drawn : pM dd w.drawn W.drawn
  size : w.heap.size ≤ W.heap.size
  old : ∀ b, b < w.heap.size → ¬ F b → W.heap[b]? = w.heap[b]?
  mem : ∀ b o, μ b = some o → W.heap[b]? = some o
  box : ∀ b o, (b, o) ∈ L → W.heap[b]? = some o ∧ μ b = none ∧ (w.heap.size ≤ b ∨ F b)
  nd : (L.map (·.1)).Nodup
def dC : Nat → Prop := fun _ => False
theorem ST.start (w : World) : ST dd dC w w (hp w) [] :=
  ⟨rfl, rfl, rfl, pM.of (Nat.le_refl _), Nat.le_refl _, fun _ _ _ => rfl, fun _ _ h => h, fun _ _ h => (by cases h), by simp⟩
section
variable {F : Nat → Prop} {w W W' : World} {μ μ' : bD} {L L' : List (Nat × Obj)}
theorem ST.ex (h : ST dd dC w W μ L) : Ex dd w W := ⟨h.os, h.tape, h.output, h.drawn, h.size, fun b hb => h.old b hb (fun x => x)⟩
theorem HN (W : World) (o : Obj) : (W.alloc o).heap[W.heap.size]? = some o := heap_alloc_new W o
theorem iB {W : World} {b : Nat} {o : Obj} (h : W.heap[b]? = some o) : b < W.heap.size := (Array.getElem?_eq_some_iff.1 h).1
theorem ST.drew (h : ST dd F w W μ L) : ST dd F w W.drew μ L :=
  ⟨h.os, h.tape, h.output, pM.trans h.drawn (pM.of (Nat.le_succ _)), h.size, h.old, h.mem, h.box, h.nd⟩
theorem ST.box_lt (h : ST dd F w W μ L) {b : Nat} {o : Obj} (hb : (b, o) ∈ L) : b < W.heap.size := iB (h.box b o hb).1
theorem ST.alloc (h : ST dd F w W μ L) (o : Obj) : ST dd F w (W.alloc o) μ ((W.heap.size, o) :: L) := by
  refine ⟨h.os, h.tape, h.output, h.drawn, Nat.le_trans h.size (Ex.alloc (dd := true) W o).size, fun b hb hF => ?_, fun b o' hb => ?_, fun b o' hb => ?_, ?_⟩
  · rw [(Ex.alloc (dd := true) W o).old b (Nat.lt_of_lt_of_le hb h.size)]; exact h.old b hb hF
  · have := h.mem b o' hb
    rw [(Ex.alloc (dd := true) W o).old b (iB this)]; exact this
  · rcases List.mem_cons.1 hb with e | hb
    · cases e
      refine ⟨HN W o, ?_, .inl h.size⟩
      cases hm : μ W.heap.size with
      | none => rfl
      | some x => have := iB (h.mem _ _ hm); omega
    · obtain ⟨h1, h2, h3⟩ := h.box b o' hb
      exact ⟨by rw [(Ex.alloc (dd := true) W o).old b (iB h1)]; exact h1, h2, h3⟩
  · simp only [List.map_cons, List.nodup_cons]
    refine ⟨fun hm => ?_, h.nd⟩
    obtain ⟨⟨b, o'⟩, hb, e⟩ := List.mem_map.1 hm
    have := h.box_lt hb
    simp at e
    omega
theorem ST.put {A B : List (Nat × Obj)} {b : Nat} {o o' : Obj} (h : ST dd F w W μ (A ++ (b, o) :: B)) (hW : W'.os = W.os ∧ W'.tape = W.tape ∧ W'.output = W.output ∧ W.drawn ≤ W'.drawn ∧ W'.heap.size = W.heap.size)
    (hs : ∀ k, k ≠ b → W'.heap[k]? = W.heap[k]?) (hb : W'.heap[b]? = some o') : ST dd F w W' μ (A ++ (b, o') :: B) := by
  obtain ⟨h1, h2, h3, h4, h5⟩ := hW
  have hb0 := h.box b o (by simp)
  have hnd := h.nd
  simp only [List.map_append, List.map_cons] at hnd
  have hnA : ∀ x o, (x, o) ∈ A → x ≠ b := fun x o hx e => by
    subst e
    have := (List.nodup_append.1 hnd).2.2 x (List.mem_map.2 ⟨_, hx, rfl⟩) x (by simp)
    exact this rfl
  have hnB : ∀ x o, (x, o) ∈ B → x ≠ b := fun x o hx e => by
    subst e
    have := (List.nodup_cons.1 (List.nodup_append.1 hnd).2.1).1
    exact this (List.mem_map.2 ⟨_, hx, rfl⟩)
  refine ⟨h1.trans h.os, h2.trans h.tape, h3.trans h.output, pM.trans h.drawn (pM.of h4), by rw [h5]; exact h.size, fun k hk hF => ?_, fun k x hk => ?_, fun k x hk => ?_, by simpa using hnd⟩
  · rw [hs k (fun e => by subst e; rcases hb0.2.2 with h | h; omega; exact hF h)]
    exact h.old k hk hF
  · rw [hs k (fun e => by subst e; rw [hb0.2.1] at hk; cases hk)]
    exact h.mem k x hk
  · rcases List.mem_append.1 hk with hk | hk
    · rw [hs k (hnA k x hk)]; exact h.box k x (by simp [hk])
    · rcases List.mem_cons.1 hk with e | hk
      · cases e; exact ⟨hb, hb0.2⟩
      · rw [hs k (hnB k x hk)]; exact h.box k x (by simp [hk])
def Lo (F : Nat → Prop) (w : World) (μ μ' : bD) : Prop := ∀ b, b < w.heap.size → ¬ F b → μ' b = μ b
theorem Lo.refl {F : Nat → Prop} {w : World} {μ : bD} : Lo F w μ μ := fun _ _ _ => rfl
theorem Lo.trans {F : Nat → Prop} {w : World} {a b c : bD} (h : Lo F w a b) (k : Lo F w b c) : Lo F w a c := fun x hx hF => (k x hx hF).trans (h x hx hF)
def grow (μ : bD) (W W' : World) : bD := fun b => if b < W.heap.size then μ b else W'.heap[b]?
theorem ST.mu_lt (h : ST dd F w W μ L) {b : Nat} {o : Obj} (hb : μ b = some o) : b < W.heap.size := iB (h.mem b o hb)
theorem ST.call (h : ST dd F w W μ L) (hx : Ex dd W W') : ST dd F w W' (grow μ W W') L := by
  refine ⟨hx.os.trans h.os, hx.tape.trans h.tape, hx.output.trans h.output, pM.trans h.drawn hx.drawn, Nat.le_trans h.size hx.size, fun b hb hF => ?_, fun b o hb => ?_, fun b o hb => ?_, h.nd⟩
  · rw [hx.old b (Nat.lt_of_lt_of_le hb h.size)]; exact h.old b hb hF
  · unfold grow at hb
    split at hb
    · rename_i hlt; rw [hx.old b hlt]; exact h.mem b o hb
    · exact hb
  · obtain ⟨h1, h2, h3⟩ := h.box b o hb
    exact ⟨by rw [hx.old b (iB h1)]; exact h1, by unfold grow; rw [if_pos (iB h1)]; exact h2, h3⟩
theorem ST.grow_sub (h : ST dd F w W μ L) (W' : World) : bE μ (grow μ W W') := fun b o hb => by
  unfold grow; rw [if_pos (h.mu_lt hb)]; exact hb
theorem ST.weak (h : ST dd F w W μ' L) (hs : bE μ μ') : ST dd F w W μ L :=
  ⟨h.os, h.tape, h.output, h.drawn, h.size, h.old, fun b o hb => h.mem b o (hs b o hb), fun b o hb => by
    obtain ⟨h1, h2, h3⟩ := h.box b o hb
    refine ⟨h1, ?_, h3⟩
    cases hm : μ b with
    | none => rfl
    | some x => (have := hs b x hm; rw [h2] at this; cases this), h.nd⟩
theorem ST.call0 (h : ST dd F w W μ L) (hx : Ex dd W W') : ST dd F w W' μ L := (h.call hx).weak (h.grow_sub W')
theorem ST.sub_hp (h : ST dd F w W μ L) : bE μ (hp W) := h.mem
def EY (μ : bD) (b : Nat) (o : Obj) : bD := fun k => if k = b then some o else μ k
theorem ST.publish {A B : List (Nat × Obj)} {b : Nat} {o : Obj} (h : ST dd F w W μ (A ++ (b, o) :: B)) : ST dd F w W (EY μ b o) (A ++ B) := by
  have hb0 := h.box b o (by simp)
  have hnd := h.nd
  simp only [List.map_append, List.map_cons] at hnd
  have hne : ∀ x y, (x, y) ∈ A ++ B → x ≠ b := fun x y hx e => by
    subst e
    rcases List.mem_append.1 hx with hx | hx
    · exact (List.nodup_append.1 hnd).2.2 x (List.mem_map.2 ⟨_, hx, rfl⟩) x (by simp) rfl
    · exact (List.nodup_cons.1 (List.nodup_append.1 hnd).2.1).1 (List.mem_map.2 ⟨_, hx, rfl⟩)
  refine ⟨h.os, h.tape, h.output, h.drawn, h.size, h.old, fun k x hk => ?_, fun k x hk => ?_, ?_⟩
  · unfold EY at hk
    split at hk
    · rename_i e; cases hk; rw [e]; exact hb0.1
    · exact h.mem k x hk
  · have hk' : (k, x) ∈ A ++ (b, o) :: B := by
      rcases List.mem_append.1 hk with h | h <;> simp [h]
    obtain ⟨h1, h2, h3⟩ := h.box k x hk'
    exact ⟨h1, by unfold EY; rw [if_neg (hne k x hk)]; exact h2, h3⟩
  · have : (A ++ B).Sublist (A ++ (b, o) :: B) := List.Sublist.append (List.Sublist.refl A) (List.sublist_cons_self _ _)
    exact List.Nodup.sublist (this.map _) h.nd
theorem ST.pub_sub {A B : List (Nat × Obj)} {b : Nat} {o : Obj} (h : ST dd F w W μ (A ++ (b, o) :: B)) : bE μ (EY μ b o) := fun k x hk => by
  unfold EY
  split
  · rename_i e; subst e; rw [(h.box k o (by simp)).2.1] at hk; cases hk
  · exact hk
theorem ST.lo_pub {A B : List (Nat × Obj)} {b : Nat} {o : Obj} (h : ST dd F w W μ (A ++ (b, o) :: B)) : Lo F w μ (EY μ b o) := fun k hk hF => by
  refine if_neg (fun e => ?_)
  subst e
  rcases (h.box k o (by simp)).2.2 with hg | hg
  · omega
  · exact hF hg
theorem ST.drop {A B : List (Nat × Obj)} {p : Nat × Obj} (h : ST dd F w W μ (A ++ p :: B)) : ST dd F w W μ (A ++ B) :=
  (h.publish (b := p.1) (o := p.2)).weak h.pub_sub
end
abbrev jX (α : Type) := bD → List Value → α → Prop
def Sl {α : Type} (R : jX α) (k : Nat) (μ : bD) (v : Value) (l : List α) : Prop :=
  ∃ A c, v = .slice A l.length c ∧ l.length ≤ c ∧ c ≤ maxLen ∧ (0 < l.length → ∃ b off cs T fr, A = some ⟨b, off, none⟩ ∧ μ b = some (.cells cs T fr) ∧
    ∀ i x, l[i]? = some x → ∃ ys, ys.length = k ∧ R μ ys x ∧ ∀ j y, ys[j]? = some y → cs[off + i * k + j]? = some y)
def At (μ : bD) (v : Value) (ys : List Value) : Prop :=
  ∃ b off cs T fr, v = .pointer (some ⟨b, off, none⟩) ∧ μ b = some (.cells cs T fr) ∧ ∀ j y, ys[j]? = some y → cs[off + j]? = some y
def Fr (B : Nat) (v : Value) : Prop := ∀ b, v.ownBlock = some b → B ≤ b
def Br {α : Type} (R : jX α) : Prop := ∀ μ μ' ys x, bE μ μ' → R μ ys x → R μ' ys x
def Pl {α : Type} (enc : α → List Value) : jX α := fun _ ys x => ys = enc x
theorem Pl.mono {α : Type} (enc : α → List Value) : Br (Pl enc) := fun _ _ _ _ _ h => h
theorem Sl.mono {α : Type} {R : jX α} (hR : Br R) {k : Nat} {μ μ' : bD} {v : Value} {l : List α} (h : Sl R k μ v l) (hs : bE μ μ') : Sl R k μ' v l := by
  obtain ⟨A, c, h1, h2, h3, h4⟩ := h
  refine ⟨A, c, h1, h2, h3, fun hl => ?_⟩
  obtain ⟨b, off, cs, T, fr, h5, h6, h7⟩ := h4 hl
  exact ⟨b, off, cs, T, fr, h5, hs _ _ h6, fun i x hx => let ⟨ys, h8, h9, h10⟩ := h7 i x hx; ⟨ys, h8, hR _ _ _ _ hs h9, h10⟩⟩
theorem At.mono {μ μ' : bD} {v : Value} {ys : List Value} (h : At μ v ys) (hs : bE μ μ') : At μ' v ys := by
  obtain ⟨b, off, cs, T, fr, h1, h2, h3⟩ := h
  exact ⟨b, off, cs, T, fr, h1, hs _ _ h2, h3⟩
theorem Sl.len {α : Type} {R : jX α} {k : Nat} {μ : bD} {v : Value} {l : List α} (h : Sl R k μ v l) : l.length ≤ 9223372036854775807 := by
  obtain ⟨A, c, h1, h2, h3, h4⟩ := h
  unfold maxLen at h3
  omega
theorem Sl.nil {α : Type} (R : jX α) (k : Nat) (μ : bD) : Sl R k μ (.slice none 0 0) [] := ⟨none, 0, rfl, Nat.le_refl _, by decide, fun h => absurd h (by simp)⟩
theorem Fr.mono {B B' : Nat} {v : Value} (h : Fr B v) (hB : B' ≤ B) : Fr B' v := fun b hb => Nat.le_trans hB (h b hb)
theorem Fr.nil (B : Nat) : Fr B (.slice none 0 0) := fun b hb => by simp [Value.ownBlock] at hb
end Go.Proofs.YtmlncblocfcmiaaGreat
namespace Go.Proofs.YtmlncblocfcmiaaGreat
open Go.RowKit
variable {dd : Bool}
section
variable {P : Program} {n : Nat} {Q : mP} {E : Nat → Value} {W : World} {ops : Array Oper} {rest : List Oper}
  {d : Option Nat} {ty : TypeId} {pos : String} {af : Array Edge} {g : Option (Nat × Bool)}
  {F : Nat → Prop} {w : World} {μ : bD} {L : List (Nat × Obj)}
def dW (P : Program) (E : Nat → Value) (o : Oper) (W : World) (v : Value) (W' : World) : Prop := (execOp (aS E) o).run P W = .ok (.value v) W'
theorem Ca {o : Oper} {dd : Nat} {v : Value} (hw : nK n ops E o) (hd : o.dst = some dd) (hn : dd < n) (hr : dW P E o W v W) (h : LW P n ops Q rest (lR E dd v) W) : LW P n ops Q (o :: rest) E W := Gh hw hd hn hr h
theorem aC {x : Operand} {v : Value} (hx : aS E x = v) : dW P E ⟨d, .move x, ty, pos, af, g⟩ W v W := by rw [← hx]; rfl
theorem aG {x : Operand} {v : Value} (hx : aS E x = v) : dW P E ⟨d, .assign x, ty, pos, af, g⟩ W v W := by rw [← hx]; rfl
theorem bU {c x y : Operand} {v : Value} (hc : aS E c = .bool true) (hv : aS E x = v) : dW P E ⟨d, .pick c x y, ty, pos, af, g⟩ W v W := by
  show (do pure (.value (if ← asBool (aS E c) then aS E x else aS E y)) : Sem Next).run P W = _
  rw [hc, ← hv]; simp [asBool]
theorem bX {c x y : Operand} {v : Value} (hc : aS E c = .bool false) (hv : aS E y = v) : dW P E ⟨d, .pick c x y, ty, pos, af, g⟩ W v W := by
  show (do pure (.value (if ← asBool (aS E c) then aS E x else aS E y)) : Sem Next).run P W = _
  rw [hc, ← hv]; simp [asBool]
theorem dU {x : Operand} {i : Nat} {vs : Array Value} {v : Value} (hx : aS E x = .tuple vs) (hv : vs[i]? = some v) : dW P E ⟨d, .extract x i, ty, pos, af, g⟩ W v W := by
  show (do pure (.value (← Instr.extract (aS E x) i)) : Sem Next).run P W = _
  rw [hx]; simp [Instr.extract, hv]
theorem fV {u : TypeId} {x : Operand} {b : Bool} (hx : aS E x = .bool b) : dW P E ⟨d, .unOp .not u x, ty, pos, af, g⟩ W (.bool !b) W := by
  show (do pure (.value (← Op.unary .not (aS E x))) : Sem Next).run P W = _
  rw [hx]; simp [Op.unary]
theorem FH {fn : Fn} {first caps : Array Operand} {v : Value} (hv : .func fn (first.map (aS E)) (caps.map (aS E)) = v) : dW P E ⟨d, .makeFunc fn first caps, ty, pos, af, g⟩ W v W := by
  show (do pure (.value (← Instr.makeFunc fn (first.map (aS E)) (caps.map (aS E)))) : Sem Next).run P W = _
  rw [← hv]; simp [Instr.makeFunc]
def FZ (k : IntKind) (op : BinOp) (a b : Int) : Option Value :=
  match op with
  | .eql => some (.bool (a == b))
  | .neq => some (.bool (a != b))
  | .lss => some (.bool (decide (a < b)))
  | .leq => some (.bool (decide (a ≤ b)))
  | .gtr => some (.bool (decide (a > b)))
  | .geq => some (.bool (decide (a ≥ b)))
  | .add => some (.int k (k.wrap (a + b)))
  | .sub => some (.int k (k.wrap (a - b)))
  | .mul => some (.int k (k.wrap (a * b)))
  | _ => none
theorem aQ {op : BinOp} {tx tv : TypeId} {x y : Operand} {k : IntKind} {a b : Int} {v : Value} (hx : aS E x = .int k a) (hy : aS E y = .int k b) (hv : FZ k op a b = some v) :
    dW P E ⟨d, .binOp op tx x y tv, ty, pos, af, g⟩ W v W := by
  show (do let r ← (do eqGuard op tx x y (aS E x) (aS E y); binOp op tx (aS E x) (aS E y)); pure (.value r) : Sem Next).run P W = _
  rw [hx, hy]
  cases op <;> simp [FZ] at hv <;> subst hv <;> simp [eqGuard, binOp, Op.intCmp, Op.intArith]
def H7 (op : BinOp) (a b : ByteArray) : Option Value :=
  match op with
  | .eql => some (.bool (a.toList == b.toList))
  | .neq => some (.bool !(a.toList == b.toList))
  | .lss => some (.bool (Op.bytesLess a.toList b.toList))
  | .leq => some (.bool (Op.bytesLess a.toList b.toList || a.toList == b.toList))
  | .gtr => some (.bool !(Op.bytesLess a.toList b.toList || a.toList == b.toList))
  | .geq => some (.bool !(Op.bytesLess a.toList b.toList))
  | _ => none
def vW (a b : ByteArray) : Option ByteArray := if ((a.size + b.size : Nat) : Int) > IntKind.i64.max then none else some (a ++ b)
theorem H8 {op : BinOp} {tx tv : TypeId} {x y : Operand} {a b : ByteArray} {v : Value} (hx : aS E x = .string a) (hy : aS E y = .string b) (hv : H7 op a b = some v) :
    dW P E ⟨d, .binOp op tx x y tv, ty, pos, af, g⟩ W v W := by
  show (do let r ← (do eqGuard op tx x y (aS E x) (aS E y); binOp op tx (aS E x) (aS E y)); pure (.value r) : Sem Next).run P W = _
  rw [hx, hy]
  cases op <;> simp [H7] at hv <;> subst hv <;> simp [eqGuard, binOp, Op.stringOp]
theorem vJ {tx tv : TypeId} {x y : Operand} {a b : Array Value} {r : Bool} (hx : aS E x = .agg a) (hy : aS E y = .agg b) (hg : ∀ W, (eqGuard .eql tx x y (.agg a) (.agg b)).run P W = .ok () W)
    (hv : ∀ W, (binOp .eql tx (.agg a) (.agg b)).run P W = .ok (.bool r) W) : dW P E ⟨d, .binOp .eql tx x y tv, ty, pos, af, g⟩ W (.bool r) W := by
  show (do let r ← (do eqGuard .eql tx x y (aS E x) (aS E y); binOp .eql tx (aS E x) (aS E y)); pure (.value r) : Sem Next).run P W = _
  rw [hx, hy]; simp [hg W, hv W]
theorem If {tx tv : TypeId} {x y : Operand} {a b : Array Value} {r : Bool} (hx : aS E x = .agg a) (hy : aS E y = .agg b) (hg : ∀ W, (eqGuard .neq tx x y (.agg a) (.agg b)).run P W = .ok () W)
    (hv : ∀ W, (binOp .neq tx (.agg a) (.agg b)).run P W = .ok (.bool r) W) : dW P E ⟨d, .binOp .neq tx x y tv, ty, pos, af, g⟩ W (.bool r) W := by
  show (do let r ← (do eqGuard .neq tx x y (aS E x) (aS E y); binOp .neq tx (aS E x) (aS E y)); pure (.value r) : Sem Next).run P W = _
  rw [hx, hy]; simp [hg W, hv W]
theorem wW {t e : TypeId} (dd : Nat) (ht : P.underlying t = some (.pointer e)) (a : Option Addr) (W : World) : (Op.equalIn (dd + 1) t (.pointer a) (.pointer none)).run P W = .ok a.isNone W := by
  cases a <;> simp [Op.equalIn, run_underlying ht]
theorem pV {tx tv e : TypeId} {x y : Operand} {a : Option Addr} (ht : P.underlying tx = some (.pointer e)) (hx : aS E x = .pointer a) (hy : aS E y = .pointer none) :
    dW P E ⟨d, .binOp .eql tx x y tv, ty, pos, af, g⟩ W (.bool a.isNone) W := by
  show (do let r ← (do eqGuard .eql tx x y (aS E x) (aS E y); binOp .eql tx (aS E x) (aS E y)); pure (.value r) : Sem Next).run P W = _
  rw [hx, hy]
  have h0 := wW 9999 ht a W
  simp [eqGuard, binOp, Op.equal, show Op.maxDepth = 9999 + 1 from rfl, h0]
theorem yA {tx tv e : TypeId} {x y : Operand} {a : Option Addr} (ht : P.underlying tx = some (.pointer e)) (hx : aS E x = .pointer a) (hy : aS E y = .pointer none) :
    dW P E ⟨d, .binOp .neq tx x y tv, ty, pos, af, g⟩ W (.bool !a.isNone) W := by
  show (do let r ← (do eqGuard .neq tx x y (aS E x) (aS E y); binOp .neq tx (aS E x) (aS E y)); pure (.value r) : Sem Next).run P W = _
  rw [hx, hy]
  have h0 := wW 9999 ht a W
  simp [eqGuard, binOp, Op.equal, show Op.maxDepth = 9999 + 1 from rfl, h0]
theorem kF {x : Operand} {t : TypeId} {s : ByteArray} (ht : P.underlying t = some .string) (hx : aS E x = .string s) : dW P E ⟨d, .call ⟨.builtin .len, #[x], #[t]⟩, ty, pos, af, g⟩ W (.int .i64 s.size) W := by
  show (do let d ← resolve (aS E) ⟨.builtin .len, #[x], #[t]⟩ ty; invoke d.target d.args : Sem Next).run P W = _
  simp [resolve, invoke, builtin, Builtin.len_, run_underlying ht, hx, goInt]
theorem xP {x : Operand} {t e : TypeId} {A : Option Addr} {l c : Nat} (ht : P.underlying t = some (.slice e)) (hx : aS E x = .slice A l c) : dW P E ⟨d, .call ⟨.builtin .len, #[x], #[t]⟩, ty, pos, af, g⟩ W (.int .i64 l) W := by
  show (do let d ← resolve (aS E) ⟨.builtin .len, #[x], #[t]⟩ ty; invoke d.target d.args : Sem Next).run P W = _
  simp [resolve, invoke, builtin, Builtin.len_, run_underlying ht, hx, goInt]
theorem dO {α : Type} {R : jX α} {k : Nat} {m : bD} {x : Operand} {t e : TypeId} {v : Value} {l : List α} (ht : P.underlying t = some (.slice e)) (hx : aS E x = v) (hs : Sl R k m v l) : dW P E ⟨d, .call ⟨.builtin .len, #[x], #[t]⟩, ty, pos, af, g⟩ W (.int .i64 l.length) W := by
  obtain ⟨A, c, rfl, _⟩ := hs
  exact xP ht hx
theorem FJ {t : TypeId} {x ix : Operand} {ik : IntKind} {s : ByteArray} {i : Int} {c : UInt8} (ht : P.underlying t = some .string) (hx : aS E x = .string s) (hi : aS E ix = .int ik i) (h0 : 0 ≤ i) (hl : s[i.toNat]? = some c) :
    dW P E ⟨d, .index t x ix, ty, pos, af, g⟩ W (.int .u8 c.toNat) W := by
  show (do pure (.value (← Instr.index t (aS E x) (aS E ix))) : Sem Next).run P W = _
  rw [hx, hi]
  simp [Instr.index, asIntOf, run_underlying ht, h0, hl]
def eE (P : Program) (t : TypeId) (f off : Nat) : Prop := ∀ b o w, (Instr.fieldAt t (.pointer (some ⟨b, o, none⟩)) f).run P w = .ok (.pointer (some ⟨b, o + off, none⟩)) w
theorem aN {t : TypeId} {x : Operand} {f off b o : Nat} (hf : eE P t f off) (hx : aS E x = .pointer (some ⟨b, o, none⟩)) : dW P E ⟨d, .fieldAddr t x f, ty, pos, af, g⟩ W (.pointer (some ⟨b, o + off, none⟩)) W := by
  show (do pure (.value (← Instr.fieldAt t (aS E x) f)) : Sem Next).run P W = _
  rw [hx]; simp [hf b o W]
theorem uZ {t : TypeId} {x : Operand} {f off : Nat} {v : Value} {ys : List Value} (zs : List Value) (hf : eE P t f off) (hx : aS E x = v) (hv : At μ v ys) (hz : (ys.drop off).take zs.length = zs) :
    ∃ v', At μ v' zs ∧ ∀ W, dW P E ⟨d, .fieldAddr t x f, ty, pos, af, g⟩ W v' W := by
  obtain ⟨b, o, cs, T, fr, rfl, h1, h2⟩ := hv
  refine ⟨_, ⟨b, o + off, cs, T, fr, rfl, h1, fun j y hy => ?_⟩, fun W => aN hf hx⟩
  have hj : j < zs.length := (List.getElem?_eq_some_iff.1 hy).1
  have := h2 (off + j) y (by
    rw [← hz, List.getElem?_take_of_lt hj, List.getElem?_drop] at hy
    exact hy)
  rw [Nat.add_assoc]
  exact this
theorem cT {x : Operand} {a : Addr} (hx : aS E x = .pointer (some a)) : dW P E ⟨d, .nilCheck x, ty, pos, af, g⟩ W (.pointer (some a)) W := by
  unfold dW execOp
  simp [hx]
theorem B3 {α : Type} {R : jX α} {k : Nat} {t e : TypeId} {x ix : Operand} {ik : IntKind} {v : Value} {i : Int} {l : List α} {x0 : α}
    (ht : P.underlying t = some (.slice e)) (he : ∀ w, (sizeOf e).run P w = .ok k w) (hx : aS E x = v) (hi : aS E ix = .int ik i) (hs : Sl R k μ v l) (h0 : 0 ≤ i) (hl : l[i.toNat]? = some x0) :
    ∃ p ys, ys.length = k ∧ R μ ys x0 ∧ At μ p ys ∧ ∀ W, dW P E ⟨d, .indexAddr t x ix, ty, pos, af, g⟩ W p W := by
  obtain ⟨A, c, rfl, h2, h3, h4⟩ := hs
  have hlt : i.toNat < l.length := (List.getElem?_eq_some_iff.1 hl).1
  obtain ⟨b, off, cs, T, fr, rfl, h6, h7⟩ := h4 (by omega)
  obtain ⟨ys, h8, h9, h10⟩ := h7 i.toNat x0 hl
  refine ⟨.pointer (some ⟨b, off + i.toNat * k, none⟩), ys, h8, h9, ⟨b, off + i.toNat * k, cs, T, fr, rfl, h6, fun j y hy => h10 j y hy⟩, fun W => ?_⟩
  show (do pure (.value (← Instr.indexAt t (aS E x) (aS E ix))) : Sem Next).run P W = _
  rw [hx, hi]
  have hb : 0 ≤ i ∧ i < (l.length : Int) := ⟨h0, by omega⟩
  simp [Instr.indexAt, asIntOf, run_underlying ht, he W, hb, Addr.add_lit]
theorem lZ {α : Type} {enc : α → List Value} {k : Nat} {t e : TypeId} {x ix : Operand} {ik : IntKind} {v : Value} {i : Int} {l : List α} {x0 : α}
    (ht : P.underlying t = some (.slice e)) (he : ∀ w, (sizeOf e).run P w = .ok k w) (hx : aS E x = v) (hi : aS E ix = .int ik i) (hs : Sl (Pl enc) k μ v l) (h0 : 0 ≤ i) (hl : l[i.toNat]? = some x0) :
    ∃ p, At μ p (enc x0) ∧ ∀ W, dW P E ⟨d, .indexAddr t x ix, ty, pos, af, g⟩ W p W := by
  obtain ⟨p, ys, h1, h2, h3, h4⟩ := B3 (d := d) (ty := ty) (pos := pos) (af := af) (g := g) ht he hx hi hs h0 hl
  cases h2
  exact ⟨p, h3, h4⟩
theorem CP (P : Program) {W : World} {b off : Nat} {cs : Array Value} {T : TypeId} {fr : Nat × Nat} (hb : W.heap[b]? = some (.cells cs T fr)) (ys : List Value) (hy : ∀ j y, ys[j]? = some y → cs[off + j]? = some y) :
    (loadCells ⟨b, off, none⟩ ys.length).run P W = .ok ys.toArray W :=
  run_loadCells_list W ⟨b, off, none⟩ ys (fun j v hv => by rw [Addr.add_lit, cell_of_row W b (off + j) cs T fr hb]; exact hy j v hv)
theorem xa {W : World} {t : TypeId} {b off : Nat} {cs : Array Value} {T : TypeId} {fr : Nat × Nat} (hA : ∀ w, (isAgg t).run P w = .ok true w) (ys : List Value) (hS : ∀ w, (sizeOf t).run P w = .ok ys.length w)
    (hb : W.heap[b]? = some (.cells cs T fr)) (hy : ∀ j y, ys[j]? = some y → cs[off + j]? = some y) : (Instr.loadAt t (.pointer (some ⟨b, off, none⟩))).run P W = .ok (.agg ys.toArray) W := by
  simp [Instr.loadAt, Instr.sureAddr, loadVar, hA W, hS W, CP P hb ys hy]
theorem xd {W : World} {t : TypeId} {b off : Nat} {cs : Array Value} {T : TypeId} {fr : Nat × Nat} (hA : ∀ w, (isAgg t).run P w = .ok false w) {y : Value}
    (hb : W.heap[b]? = some (.cells cs T fr)) (hy : cs[off]? = some y) : (Instr.loadAt t (.pointer (some ⟨b, off, none⟩))).run P W = .ok y W := by
  have hc : W.cell? ⟨b, off, none⟩ = some y := by rw [cell_of_row W b off cs T fr hb]; exact hy
  simp [Instr.loadAt, Instr.sureAddr, loadVar, hA W, load, Sem.run, hc]
theorem aJ {t : TypeId} {x : Operand} {a v : Value} (hx : aS E x = a) (hr : (Instr.loadAt t a).run P W = .ok v W) : dW P E ⟨d, .load t x, ty, pos, af, g⟩ W v W := by
  show (do pure (.value (← Instr.loadAt t (aS E x))) : Sem Next).run P W = _
  rw [hx]; simp [hr]
def iA (μ : bD) (A : List (Nat × Obj)) (W : World) : Prop := (∀ b o, μ b = some o → W.heap[b]? = some o) ∧ ∀ b o, (b, o) ∈ A → W.heap[b]? = some o
theorem ST.has (h : ST dd F w W μ L) : iA μ L W := ⟨h.mem, fun b o hb => (h.box b o hb).1⟩
theorem iA.sub {μ' : bD} {A A' : List (Nat × Obj)} (h : iA μ A W) (hs : bE μ' μ) (hA : ∀ p, p ∈ A' → p ∈ A) : iA μ' A' W := ⟨fun b o hb => h.1 b o (hs b o hb), fun b o hb => h.2 b o (hA _ hb)⟩
theorem bN {A : List (Nat × Obj)} (hH : iA μ A W) {t : TypeId} {p : Value} {ys : List Value} (hp : At μ p ys) (hA : ∀ w, (isAgg t).run P w = .ok true w) (hS : ∀ w, (sizeOf t).run P w = .ok ys.length w) :
    (Instr.loadAt t p).run P W = .ok (.agg ys.toArray) W := by
  obtain ⟨b, off, cs, T, fr, rfl, h1, h2⟩ := hp
  exact xa hA ys hS (hH.1 _ _ h1) h2
theorem nU {A : List (Nat × Obj)} (hH : iA μ A W) {t : TypeId} {p : Value} {y : Value} (hp : At μ p [y]) (hA : ∀ w, (isAgg t).run P w = .ok false w) :
    (Instr.loadAt t p).run P W = .ok y W := by
  obtain ⟨b, off, cs, T, fr, rfl, h1, h2⟩ := hp
  exact xd hA (hH.1 _ _ h1) (h2 0 y rfl)
theorem aM {A : List (Nat × Obj)} (hH : iA μ A W) {t : TypeId} {b off : Nat} {cs : Array Value} {T : TypeId} {fr : Nat × Nat} (hL : (b, Obj.cells cs T fr) ∈ A) (ys : List Value) (hy : (cs.toList.drop off).take ys.length = ys)
    (hA : ∀ w, (isAgg t).run P w = .ok true w) (hS : ∀ w, (sizeOf t).run P w = .ok ys.length w) : (Instr.loadAt t (.pointer (some ⟨b, off, none⟩))).run P W = .ok (.agg ys.toArray) W :=
  xa hA ys hS (hH.2 _ _ hL) (fun j y hj => by
    have hlt : j < ys.length := (List.getElem?_eq_some_iff.1 hj).1
    rw [← hy, List.getElem?_take_of_lt hlt, List.getElem?_drop] at hj
    simpa using hj)
theorem aP {A : List (Nat × Obj)} (hH : iA μ A W) {t : TypeId} {b off : Nat} {cs : Array Value} {T : TypeId} {fr : Nat × Nat} (hL : (b, Obj.cells cs T fr) ∈ A) {y : Value} (hy : cs[off]? = some y)
    (hA : ∀ w, (isAgg t).run P w = .ok false w) : (Instr.loadAt t (.pointer (some ⟨b, off, none⟩))).run P W = .ok y W :=
  xd hA (hH.2 _ _ hL) hy
theorem bJ {t : TypeId} {ps : Array (Nat × Operand)} {qs : Array (Nat × Value)} {v : Value} (hq : ps.map (fun (i, x) => (i, aS E x)) = qs)
    (hr : ∀ W, (Instr.build t qs).run P W = .ok v W) : dW P E ⟨d, .build t ps, ty, pos, af, g⟩ W v W := by
  show (do pure (.value (← Instr.build t (ps.map fun (i, x) => (i, aS E x)))) : Sem Next).run P W = _
  rw [hq]; simp [hr W]
theorem aW {t : TypeId} {z cs : Array Value} {fs : Array Field} {qs : Array (Nat × Value)} {pl : Array (Nat × Nat)} (hz : ∀ w, (zeroValue t).run P w = .ok (.agg z) w) (ht : P.underlying t = some (.struct fs))
    (hp : ∀ w, (fs.mapM fun f => do pure (f.offset, ← sizeOf f.type) : Sem (Array (Nat × Nat))).run P w = .ok pl w)
    (hf : Instr.fill (pl[·]?) z qs.toList = some cs) (W : World) : (Instr.build t qs).run P W = .ok (.agg cs) W := by
  simp only [Instr.build, Sem.run_bind, hz W, Result.andThen_ok, run_underlying ht, Value.cells]
  rw [hp W]
  simp only [Result.andThen_ok, hf, Sem.run_pure]
end
theorem yY {α : Type} : ∀ (a : Ask α) (w : World), w.drawn ≤ (w.ask a).2.drawn
  | .done a, w => by simp [World.ask]
  | .ask what range k, w => by
    unfold World.ask
    dsimp only
    split
    · exact yY (k 0) w
    · refine Nat.le_trans (Nat.le_succ w.drawn) ?_
      exact yY _ { w with drawn := w.drawn + 1 }
theorem GB (w : World) (c : Sys) : w.drawn ≤ (w.sys c).2.drawn := by
  have h := yY (Kernel.perform c w.os) w
  unfold World.sys
  generalize w.ask (Kernel.perform c w.os) = r at *
  obtain ⟨⟨r1, r2⟩, w2⟩ := r
  cases r1 <;> simp at h ⊢ <;> exact h
theorem BO {p : Program} {w w' : World} {a : Addr} {u : TypeId} {k : Addr} {v : Value} {b : Bool} {l : List Addr} (h : w.viewStore p a u k v b = .ok (w', l)) : w'.drawn = w.drawn := by
  unfold World.viewStore at h
  simp only [bind, Except.bind, pure, Except.pure] at h
  split at h
  · cases h
  · split at h
    · cases h
    · split at h
      · split at h
        · cases h
        · split at h
          · cases h
          · cases h; rfl
      · cases h
theorem BW {p : Program} {w w' : World} {a : Addr} {v : Value} {b : Bool} {l : List Addr} (h : w.farStore p a v b = .ok (w', l)) : w'.drawn = w.drawn := by
  unfold World.farStore at h
  split at h
  · split at h
    · rename_i h1; cases h; exact BO h1
    · cases h
  · cases h
theorem jA {α : Type} {p : Program} : ∀ (s : Sem α) (w w' : World) (a : α), s.run p w = .ok a w' → w.drawn ≤ w'.drawn
  | .pure a, w, w', b, h => by simp only [Sem.run] at h; cases h; exact Nat.le_refl _
  | .load m a k, w, w', b, h => by
    simp only [Sem.run] at h
    split at h
    · exact jA _ _ _ _ h
    · split at h
      · exact jA _ _ _ _ h
      · cases h
  | .store m a v k, w, w', b, h => by
    have key : ∀ (r : Result α) hh, r = .ok b w' → (r = (match w.cell? a with
        | some _ => if w.frozen? a then .halt hh w else k.run p (w.setCell a v)
        | none => match w.farStore p a v (m == .atomic) with
          | .ok (w, _) => k.run p w
          | .error h => .halt h w)) → w.drawn ≤ w'.drawn := by
      intro r hh hr h
      rw [hr] at h
      split at h
      · split at h
        · cases h
        · have := jA k _ _ _ h.symm
          simpa [World.setCell] using this
      · split at h
        · rename_i h1
          have h2 := jA k _ _ _ h.symm
          rw [BW h1] at h2
          exact h2
        · cases h
    cases v with
    | agg cs => simp only [Sem.run] at h; cases h
    | tuple cs => simp only [Sem.run] at h; cases h
    | _ => exact key _ _ h (by simp only [Sem.run]; rfl)
  | .new o k, w, w', b, h => by simp only [Sem.run] at h; have := jA (k _) _ _ _ h; exact this
  | .shape r k, w, w', b, h => by simp only [Sem.run] at h; exact jA _ _ _ _ h
  | .freeze a n k, w, w', b, h => by
    simp only [Sem.run] at h
    have := jA k _ _ _ h
    unfold World.freeze at this
    split at this <;> exact this
  | .frozen a k, w, w', b, h => by simp only [Sem.run] at h; exact jA _ _ _ _ h
  | .getObj r k, w, w', b, h => by
    simp only [Sem.run] at h
    split at h <;> try (cases h; done)
    exact jA _ _ _ _ h
  | .setObj r o k, w, w', b, h => by
    simp only [Sem.run] at h
    split at h <;> try (cases h; done)
    have := jA k _ _ _ h
    exact this
  | .choose q k, w, w', b, h => by
    simp only [Sem.run] at h
    split at h
    · exact jA _ _ _ _ h
    · exact Nat.le_trans (Nat.le_succ _) (jA _ _ _ _ h)
  | .sys c k, w, w', b, h => by
    simp only [Sem.run] at h
    exact Nat.le_trans (GB w c) (jA _ _ _ _ h)
  | .program k, w, w', b, h => by simp only [Sem.run] at h; exact jA _ _ _ _ h
  | .mark m k, w, w', b, h => by simp only [Sem.run] at h; exact jA k _ _ _ h
  | .halt x, w, w', b, h => by simp only [Sem.run] at h; cases h
end Go.Proofs.YtmlncblocfcmiaaGreat
namespace Go.Proofs.YtmlncblocfcmiaaGreat
open Go.RowKit
variable {dd : Bool}
section
variable {P : Program} {n : Nat} {Q : mP} {E : Nat → Value} {W : World} {ops : Array Oper} {rest : List Oper}
  {d : Option Nat} {ty : TypeId} {pos : String} {af : Array Edge} {g : Option (Nat × Bool)}
  {F : Nat → Prop} {w : World} {μ : bD} {L : List (Nat × Obj)}
def gG (P : Program) (E : Nat → Value) (o : Oper) (W : World) (K : Value → World → Prop) : Prop :=
  (∃ v W', (execOp (aS E) o).run P W = .ok (.value v) W' ∧ K v W') ∨ (∃ W', (execOp (aS E) o).run P W = .ok .skip W' ∧ K undef W') ∨
  (∃ f args, (execOp (aS E) o).run P W = .ok (.enter f args) W ∧ Calls P f args W fun e w' => ∃ v, e = .returned v ∧ K v w')
theorem gG.mono {o : Oper} {K K' : Value → World → Prop} (h : gG P E o W K) (hk : ∀ v W', K v W' → K' v W') : gG P E o W K' := by
  rcases h with ⟨v, W', h1, h2⟩ | ⟨W', h1, h2⟩ | ⟨f, args, h1, h2⟩
  · exact .inl ⟨v, W', h1, hk _ _ h2⟩
  · exact .inr (.inl ⟨W', h1, hk _ _ h2⟩)
  · exact .inr (.inr ⟨f, args, h1, Calls.mono h2 (fun _ _ ⟨v, h3, h4⟩ => ⟨v, h3, hk _ _ h4⟩)⟩)
theorem JC {o : Oper} {dd : Nat} (hw : nK n ops E o) (hd : o.dst = some dd) (hn : dd < n) (h : gG P E o W fun v W' => LW P n ops Q rest (lR E dd v) W') : LW P n ops Q (o :: rest) E W := by
  rcases h with ⟨v, W', h1, h2⟩ | ⟨W', h1, h2⟩ | ⟨f, args, h1, h2⟩
  · exact Gh hw hd hn h1 h2
  · intro a ha
    unfold wpList
    rw [if_pos (hw.of ha)]
    refine .inl ?_
    unfold Oper.wp
    rw [ha.eval, h1, Oper.upon_skip, hd]
    exact h2 _ (ha.put hn _)
  · exact HD hw hd hn h1 h2
theorem Kd {o : Oper} (hw : nK n ops E o) (hd : o.dst = none) (h : gG P E o W fun _ W' => LW P n ops Q rest E W') : LW P n ops Q (o :: rest) E W := by
  rcases h with ⟨v, W', h1, h2⟩ | ⟨W', h1, h2⟩ | ⟨f, args, h1, h2⟩
  · intro a ha
    unfold wpList
    rw [if_pos (hw.of ha)]
    refine .inl ?_
    unfold Oper.wp
    rw [ha.eval, h1, Oper.upon_value, hd]
    exact h2 _ (ha.put_none _)
  · exact Hz hw hd h1 h2
  · intro a ha
    unfold wpList
    rw [if_pos (hw.of ha)]
    refine .inl ?_
    unfold Oper.wp
    rw [ha.eval, h1, Oper.upon_enter]
    refine Calls.mono h2 ?_
    rintro e w' ⟨v, rfl, hl⟩
    simp only [hd]
    exact hl _ (ha.put_none _)
theorem cO {K : Value → World → Prop} {t : TypeId} {x : Operand} {v : Value} (hST : ST dd F w W μ L) (hx : aS E x = v)
    (h : ∀ W' b, ST dd F w W' μ ((b, .cells v.cells t (0, 0)) :: L) → K (.pointer (some ⟨b, 0, none⟩)) W') : gG P E ⟨d, .box t x, ty, pos, af, g⟩ W K :=
  .inl ⟨.pointer (some ⟨W.heap.size, 0, none⟩), W.alloc (.cells v.cells t (0, 0)), by
      show (do pure (.value (← Instr.box t (aS E x))) : Sem Next).run P W = _
      rw [hx]
      simp [Instr.box, newVar, newRow, newObj, Sem.run], h _ _ (hST.alloc _)⟩
theorem bL {K : Value → World → Prop} {t : TypeId} {z : Value} (hST : ST dd F w W μ L) (hz : ∀ w, (zeroValue t).run P w = .ok z w)
    (h : ∀ W' b, ST dd F w W' μ ((b, .cells z.cells t (0, 0)) :: L) → K (.pointer (some ⟨b, 0, none⟩)) W') : gG P E ⟨d, .alloc t, ty, pos, af, g⟩ W K :=
  .inl ⟨.pointer (some ⟨W.heap.size, 0, none⟩), W.alloc (.cells z.cells t (0, 0)), by
      show (do pure (.value (← Instr.alloc t true (.tuple #[]))) : Sem Next).run P W = _
      simp [Instr.alloc, hz W, newVar, newRow, newObj, Sem.run], h _ _ (hST.alloc _)⟩
theorem BY {t e : TypeId} {m k : Nat} {z : Value} {qs : Array (Nat × Value)} {cs : Array Value} (ht : P.underlying t = some (.slice e)) (hs : ∀ w, (sizeOf e).run P w = .ok k w) (hz : ∀ w, (zeroValue e).run P w = .ok z w)
    (hm : m * k ≤ 16777216) (hf : Instr.fill (fun i => some (i * k, k)) ((Array.range (m * k)).map (fun i => (if m * k = 0 then (#[] : Array Value) else z.cells)[i % (if m * k = 0 then (#[] : Array Value) else z.cells).size]!)) qs.toList = some cs) (W : World) :
    (Instr.buildSlice t m qs).run P W = .ok (.slice (some ⟨W.heap.size, 0, none⟩) m m) (W.alloc (.cells cs e (0, 0))) := by
  simp only [Instr.buildSlice, Sem.run_bind, run_underlying ht, Result.andThen_ok, hs W]
  rw [if_neg (by omega)]
  by_cases h0 : m * k = 0
  · simp only [h0, if_true] at hf ⊢
    simp only [Sem.run_bind, Sem.run_pure, Result.andThen_ok, hf]
    simp [newRow, newObj, Sem.run]
  · simp only [h0, if_false] at hf ⊢
    simp only [Sem.run_bind, hz W, Sem.run_pure, Result.andThen_ok, hf]
    simp [newRow, newObj, Sem.run]
theorem aR {K : Value → World → Prop} {t e : TypeId} {m : Nat} {ps : Array (Nat × Operand)} {qs : Array (Nat × Value)} {cs : Array Value} (hST : ST dd F w W μ L) (hq : ps.map (fun (i, x) => (i, aS E x)) = qs)
    (hr : ∀ W, (Instr.buildSlice t m qs).run P W = .ok (.slice (some ⟨W.heap.size, 0, none⟩) m m) (W.alloc (.cells cs e (0, 0))))
    (h : ∀ W' b, ST dd F w W' μ ((b, .cells cs e (0, 0)) :: L) → K (.slice (some ⟨b, 0, none⟩) m m) W') : gG P E ⟨d, .buildSlice t m ps, ty, pos, af, g⟩ W K :=
  .inl ⟨.slice (some ⟨W.heap.size, 0, none⟩) m m, W.alloc (.cells cs e (0, 0)), by
      show (do pure (.value (← Instr.buildSlice t m (ps.map fun (i, x) => (i, aS E x)))) : Sem Next).run P W = _
      rw [hq]
      simp [hr W], h _ _ (hST.alloc _)⟩
theorem ST.store {A B : List (Nat × Obj)} {b : Nat} {cs : Array Value} {t : TypeId} (hST : ST dd F w W μ (A ++ (b, .cells cs t (0, 0)) :: B)) (cs' : Array Value) :
    ST dd F w (W.setRow b cs') μ (A ++ (b, .cells cs' t (0, 0)) :: B) := by
  have hb := (hST.box b _ (by simp : (b, Obj.cells cs t (0, 0)) ∈ A ++ (b, .cells cs t (0, 0)) :: B)).1
  refine hST.put ⟨rfl, rfl, rfl, Nat.le_refl _, by simp [World.setRow]⟩ (fun k hk => ?_) (setRow_heap W b cs cs' t (0, 0) hb)
  simp only [World.setRow, Array.getElem?_modify]
  rw [if_neg (fun e => hk e.symm)]
theorem xU (P : Program) {W : World} {t : TypeId} {b off : Nat} {cs : Array Value} {T : TypeId} (v : Value) (hS : ∀ w, (sizeOf t).run P w = .ok v.cells.size w) (h1 : ∀ u ∈ v.cells.toList, u.oneCell' = true)
    (hb : W.heap[b]? = some (.cells cs T (0, 0))) (hl : off + v.cells.size ≤ cs.size) : (Instr.storeAt t (.pointer (some ⟨b, off, none⟩)) v).run P W = .ok () (W.setRow b (cs.toList.take off ++ v.cells.toList ++ cs.toList.drop (off + v.cells.size)).toArray) := by
  have := run_storeCells_at (P := P) b off T v.cells.toList 0 cs W hb (by simpa using hl) h1
  simp [Instr.storeAt, Instr.sureAddr, storeVar, hS W]
  simpa using this
theorem Iq {K : Value → World → Prop} (A : List (Nat × Obj)) {B : List (Nat × Obj)} {t : TypeId} {x y : Operand} (v : Value) {b off : Nat} {cs : Array Value} {T : TypeId} (cs' : Array Value) (hST : ST dd F w W μ (A ++ (b, .cells cs T (0, 0)) :: B))
    (hx : aS E x = .pointer (some ⟨b, off, none⟩)) (hy : aS E y = v) (hS : ∀ w, (sizeOf t).run P w = .ok v.cells.size w)
    (h1 : ∀ u ∈ v.cells.toList, u.oneCell' = true) (hl : off + v.cells.size ≤ cs.size) (hc : (cs.toList.take off ++ v.cells.toList ++ cs.toList.drop (off + v.cells.size)).toArray = cs')
    (h : ∀ W', ST dd F w W' μ (A ++ (b, .cells cs' T (0, 0)) :: B) → K undef W') : gG P E ⟨d, .store t x y, ty, pos, af, g⟩ W K :=
  .inr (.inl ⟨W.setRow b cs', by
      show (do Instr.storeAt t (aS E x) (aS E y); pure .skip : Sem Next).run P W = _
      have hb := (hST.box b _ (by simp : (b, Obj.cells cs T (0, 0)) ∈ A ++ (b, .cells cs T (0, 0)) :: B)).1
      rw [hx, hy]
      simp only [Sem.run_bind, xU P v hS h1 hb hl, hc, Result.andThen_ok, Sem.run_pure], h _ (hST.store cs')⟩)
def bO (dd : Bool) (P : Program) (f : FuncId) (args : List Value) (w : World) (v : Value) : Prop := Calls P f args.toArray w fun e w' => e = .returned v ∧ Ex dd w w'
theorem G5 {f : FuncId} {fv : Operand} {ax : Array Operand} {ats : Array TypeId} {caps : Array Value} {args : Array Value}
    (hf : aS E fv = .func (.func f) #[] caps) (he : ∀ args w, (callFunc f args).run P w = .ok (.enter f args) w) (ha : ax.map (aS E) ++ caps = args) :
    (execOp (aS E) ⟨d, .call ⟨.value fv, ax, ats⟩, ty, pos, af, g⟩).run P W = .ok (.enter f args) W := by
  show (do let d ← resolve (aS E) ⟨.value fv, ax, ats⟩ ty; invoke d.target d.args : Sem Next).run P W = _
  rw [← ha]
  simp only [resolve, hf, Deferred.ofValue, Sem.run_bind, Sem.run_pure, Result.andThen_ok, invoke]
  simp [he]
theorem zJ {K : Value → World → Prop} {f : FuncId} {fv : Operand} {ax : Array Operand} {ats : Array TypeId} {caps : Array Value} {args : Array Value}
    (hf : aS E fv = .func (.func f) #[] caps) (he : ∀ args w, (callFunc f args).run P w = .ok (.enter f args) w) (ha : ax.map (aS E) ++ caps = args)
    (h : Calls P f args W fun e w' => ∃ v, e = .returned v ∧ K v w') : gG P E ⟨d, .call ⟨.value fv, ax, ats⟩, ty, pos, af, g⟩ W K :=
  .inr (.inr ⟨f, args, G5 hf he ha, h⟩)
theorem EV {K : Value → World → Prop} {f : FuncId} {fv : Operand} {ax : Array Operand} {ats : Array TypeId} {args : List Value} {v : Value} (hST : ST dd F w W μ L)
    (hf : aS E fv = .func (.func f) #[] #[]) (he : ∀ args w, (callFunc f args).run P w = .ok (.enter f args) w) (ha : (ax.map (aS E) ++ (#[] : Array Value)) = args.toArray) (hc : bO dd P f args W v)
    (h : ∀ W', ST dd F w W' μ L → K v W') : gG P E ⟨d, .call ⟨.value fv, ax, ats⟩, ty, pos, af, g⟩ W K :=
  zJ hf he ha (Calls.mono hc (fun _ _ ⟨h1, h2⟩ => ⟨v, h1, h _ (hST.call0 h2)⟩))
def bI {α : Type} (e : TypeId) (enc : α → List Value) (k : Nat) (v : Value) (l : List α) (R : List (Nat × Obj)) : Prop :=
  (v = .slice none 0 0 ∧ l = [] ∧ R = []) ∨
  ∃ g cap cur, v = .slice (some ⟨g, 0, none⟩) l.length cap ∧ R = [(g, .cells cur e (0, 0))] ∧ l.length ≤ cap ∧ cap ≤ maxLen ∧ cur.size = cap * k ∧ cur.toList.take (l.length * k) = (l.map enc).flatten
theorem kV {α : Type} {enc : α → List Value} {k : Nat} (hk : ∀ x, (enc x).length = k) : ∀ l : List α, (l.map enc).flatten.length = l.length * k
  | [] => by simp
  | x :: l => by simp [kV hk l, hk x, Nat.add_mul, Nat.add_comm]
theorem sx {α : Type} {enc : α → List Value} {k : Nat} (hk : ∀ x, (enc x).length = k) : ∀ (l : List α) (i : Nat) (x : α), l[i]? = some x → ∀ j y, (enc x)[j]? = some y → (l.map enc).flatten[i * k + j]? = some y
  | [], i, x, h => by cases h
  | z :: l, 0, x, h => by
    simp at h; subst h
    intro j y hy
    have hj : j < (enc z).length := (List.getElem?_eq_some_iff.1 hy).1
    simp [List.getElem?_append, hj]
    rw [List.getElem?_eq_getElem hj] at hy
    simpa using hy
  | z :: l, i + 1, x, h => by
    intro j y hy
    have := sx hk l i x (by simpa using h) j y hy
    simp only [List.map_cons, List.flatten_cons]
    rw [List.getElem?_append_right (by rw [hk z]; have := Nat.le_mul_of_pos_left k (Nat.succ_pos i); simp [Nat.add_mul] at *; omega), hk z]
    rw [show (i + 1) * k + j - k = i * k + j by rw [Nat.add_mul]; omega]
    exact this
theorem AI {α : Type} {enc : α → List Value} {k : Nat} (hk : ∀ x, (enc x).length = k) : ∀ (l : List α) (q : Nat) (y : Value), (l.map enc).flatten[q]? = some y → ∃ i x j, l[i]? = some x ∧ (enc x)[j]? = some y ∧ q = i * k + j
  | [], q, y, h => by simp at h
  | z :: l, q, y, h => by
    simp only [List.map_cons, List.flatten_cons] at h
    by_cases hq : q < k
    · rw [List.getElem?_append_left (by rw [hk]; exact hq)] at h
      exact ⟨0, z, q, rfl, h, by simp⟩
    · rw [List.getElem?_append_right (by rw [hk]; omega), hk] at h
      obtain ⟨i, x, j, h1, h2, h3⟩ := AI hk l (q - k) y h
      exact ⟨i + 1, x, j, by simpa using h1, h2, by rw [Nat.add_mul]; omega⟩
theorem bI.nil {α : Type} (e : TypeId) (enc : α → List Value) (k : Nat) : bI e enc k (.slice none 0 0) [] [] := .inl ⟨rfl, rfl, rfl⟩
theorem bI.sl {α : Type} {e : TypeId} {enc : α → List Value} {k : Nat} {v : Value} {l : List α} {R : List (Nat × Obj)} {m : bD} (h : bI e enc k v l R) (hk : ∀ x, (enc x).length = k) (hm : ∀ b o, (b, o) ∈ R → m b = some o) : Sl (Pl enc) k m v l := by
  rcases h with ⟨rfl, rfl, rfl⟩ | ⟨g, cap, cur, rfl, rfl, h1, h2, h3, h4⟩
  · exact Sl.nil _ _ _
  · refine ⟨_, cap, rfl, h1, h2, fun _ => ⟨g, 0, cur, e, (0, 0), rfl, hm _ _ (by simp), fun i x hx => ⟨enc x, hk x, rfl, fun j y hy => ?_⟩⟩⟩
    have := sx hk l i x hx j y hy
    rw [← h4] at this
    have hlt : i * k + j < l.length * k := by
      have := (List.getElem?_eq_some_iff.1 this).1
      simp at this; omega
    rw [List.getElem?_take_of_lt hlt] at this
    simpa using this
theorem bI.len {α : Type} {e : TypeId} {enc : α → List Value} {k : Nat} {v : Value} {l : List α} {R : List (Nat × Obj)} (h : bI e enc k v l R) : l.length ≤ 9223372036854775807 := by
  rcases h with ⟨rfl, rfl, rfl⟩ | ⟨g, cap, cur, rfl, rfl, h1, h2, h3, h4⟩
  · simp
  · unfold maxLen at h2; omega
theorem bI.fr {α : Type} {e : TypeId} {enc : α → List Value} {k : Nat} {v : Value} {l : List α} {R X Y : List (Nat × Obj)} (h : bI e enc k v l R) (hST : ST dd dC w W μ (X ++ (R ++ Y))) : Fr w.heap.size v := by
  rcases h with ⟨rfl, rfl, rfl⟩ | ⟨g, cap, cur, rfl, rfl, h1, h2, h3, h4⟩
  · exact Fr.nil _
  · intro b hb
    simp [Value.ownBlock] at hb
    subst hb
    rcases (hST.box g _ (by simp; exact .inr (.inl rfl))).2.2 with h | h
    · exact h
    · exact h.elim
theorem bI.lit {α : Type} {e : TypeId} {enc : α → List Value} {k b m : Nat} {l : List α} {cs : Array Value} (hm : l.length = m) (hM : m ≤ maxLen) (hc : cs.toList = (l.map enc).flatten) (hs : cs.size = m * k) : bI e enc k (.slice (some ⟨b, 0, none⟩) m m) l [(b, .cells cs e (0, 0))] := by
  subst hm
  refine .inr ⟨b, _, cs, rfl, rfl, Nat.le_refl _, hM, hs, ?_⟩
  rw [← hc, ← hs]
  exact List.take_of_length_le (by rw [Array.length_toList]; exact Nat.le_refl _)
def fK {α : Type} (by_ : Nat) (l m : List α) : Option (List α) := if (l.length + m.length) * by_ ≤ 140737488355328 ∧ l.length + m.length ≤ maxLen then some (l ++ m) else none
theorem D1 {K : Value → World → Prop} {α : Type} {e t : TypeId} {enc : α → List Value} {k by_ : Nat} {z v vs : Value} {l m r : List α} {R : List (Nat × Obj)} (X : List (Nat × Obj)) {Y : List (Nat × Obj)} {x y : Operand} {i : TypeInfo}
    (hST : ST dd F w W μ (X ++ (R ++ Y))) (hk : ∀ x, (enc x).length = k) (hk0 : 0 < k) (h1 : ∀ x, ∀ u ∈ enc x, u.oneCell' = true) (ht : P.underlying t = some (.slice e)) (hi : P.info? e = some i) (hz : i.zero = some z) (hzs : z.cells.size = k) (hsz : i.size = k) (hby : i.bytes = by_)
    (hx : aS E x = v) (hy : aS E y = vs) (hR : bI e enc k v l R) (hs : Sl (Pl enc) k (hp W) vs m) (hb : fK by_ l m = some r)
    (h : ∀ W' v' R', ST dd F w W' μ (X ++ (R' ++ Y)) → bI e enc k v' r R' → K v' W') : gG P E ⟨d, .call ⟨.builtin .append, #[x, y], #[t, t]⟩, ty, pos, af, g⟩ W K := by
  unfold fK at hb
  split at hb
  case isFalse => cases hb
  rename_i hbb
  cases hb
  have hrun : ∀ (V : Value) (W' : World), (Builtin.append_ #[t, t] ty #[v, vs]).run P W = .ok V W' → (execOp (aS E) ⟨d, .call ⟨.builtin .append, #[x, y], #[t, t]⟩, ty, pos, af, g⟩).run P W = .ok (.value V) W' := by
    intro V W' hV
    show (do let d ← resolve (aS E) ⟨.builtin .append, #[x, y], #[t, t]⟩ ty; invoke d.target d.args : Sem Next).run P W = _
    simp [resolve, invoke, builtin, hx, hy, hV]
  obtain ⟨A, c, rfl, hc1, hc2, hc3⟩ := hs
  have hown : W.ownsRow 0 e k v l.length (l.map enc).flatten := by
    refine ⟨kV hk l, ?_⟩
    rcases hR with ⟨rfl, rfl, rfl⟩ | ⟨g, cap, cur, rfl, rfl, h1, h2, h3, h4⟩
    · exact .inl ⟨rfl, rfl⟩
    · exact .inr ⟨g, cap, cur, rfl, Nat.zero_le _, (hST.box g _ (by simp)).1, h1, h2, h3, h4⟩
  have hsrc : m.length = 0 ∨ ∃ ad, A = some ad ∧ ∀ j u, (m.map enc).flatten[j]? = some u → W.cell? (ad.add j) = some u := by
    rcases Nat.eq_zero_or_pos m.length with h0 | h0
    · exact .inl h0
    · obtain ⟨b, off, cs, T, fr, rfl, h6, h7⟩ := hc3 h0
      refine .inr ⟨⟨b, off, none⟩, rfl, fun j u hu => ?_⟩
      obtain ⟨i, x, q, h8, h9, rfl⟩ := AI hk m j u hu
      obtain ⟨ys, _, h11, h12⟩ := h7 i x h8
      cases h11
      rw [Addr.add_lit, cell_of_row W b (off + (i * k + q)) cs T fr h6, ← Nat.add_assoc]
      exact h12 q u h9
  have hone : ∀ u ∈ (m.map enc).flatten, u.oneCell' = true := by
    intro u hu
    obtain ⟨ys, hys, hu'⟩ := List.mem_flatten.1 hu
    obtain ⟨x, _, rfl⟩ := List.mem_map.1 hys
    exact h1 x u hu'
  by_cases hm0 : m.length = 0
  · have hm : m = [] := List.eq_nil_of_length_eq_zero hm0
    subst hm
    have hr : (Builtin.append_ #[t, t] ty #[v, .slice A 0 c]).run P W = .ok v W := by
      rcases hown.2 with ⟨rfl, h0⟩ | ⟨g, cap, cur, rfl, _, hg, hnc, _, hcs, _⟩
      · cases A with
        | none => simp [Builtin.append_, run_underlying ht, sizeOf, typeInfo, hi, Builtin.lenOf, Builtin.firstCells]
        | some ad => simp [Builtin.append_, run_underlying ht, sizeOf, typeInfo, hi, Builtin.lenOf, Builtin.firstCells, loadCells, loadCellsFrom]
      · cases A with
        | none => simp [Builtin.append_, run_underlying ht, sizeOf, typeInfo, hi, Builtin.lenOf, Builtin.firstCells, hnc, storeCells]
        | some ad => simp [Builtin.append_, run_underlying ht, sizeOf, typeInfo, hi, Builtin.lenOf, Builtin.firstCells, loadCells, loadCellsFrom, hnc, storeCells]
    exact .inl ⟨v, W, hrun _ _ (by simpa using hr), by simpa using h W v R hST (by simpa using hR)⟩
  rcases hsrc with h0 | ⟨ad, rfl, hcells⟩
  · exact absurd h0 hm0
  obtain ⟨v', W', hr, hown', hgrow, hnil, hwhere⟩ := run_append_own_at (P := P) W 0 t ty e i z k by_ ht hi hz hsz hby hzs hk0 v l.length (l.map enc).flatten hown ad m.length c (m.map enc).flatten (kV hk m) hcells hone hbb.2 hbb.1 (Nat.zero_le _)
  have hdr := jA _ _ _ _ hr
  refine .inl ⟨v', W', hrun _ _ hr, ?_⟩
  have hlen : (l ++ m).length = l.length + m.length := by simp
  rcases hown'.2 with ⟨_, h0⟩ | ⟨g', cap', cur', rfl, _, hg', hnc', hcm', hcs', htk'⟩
  · omega
  have hrow' : bI e enc k (.slice (some ⟨g', 0, none⟩) (l.length + m.length) cap') (l ++ m) [(g', .cells cur' e (0, 0))] :=
    .inr ⟨g', cap', cur', by rw [hlen], rfl, by omega, hcm', hcs', by rw [hlen, htk']; simp⟩
  refine h W' _ _ ?_ hrow'
  have hnd := hST.nd
  rcases hR with ⟨rfl, rfl, rfl⟩ | ⟨g, cap, cur, rfl, rfl, q1, q2, q3, q4⟩
  · -- nil: a new block
    have hnew : W.heap.size ≤ g' := by
      rcases hwhere with h | h <;> simp [Value.ownBlock] at h
      omega
    have hex : Ex dd W W' := ⟨hgrow.os, hgrow.tape, hgrow.output, pM.of hdr, hgrow.size, fun b hb => hgrow.block b hb (by simp [Value.ownBlock])⟩
    have h1 := hST.call0 hex
    refine ⟨h1.os, h1.tape, h1.output, h1.drawn, h1.size, h1.old, h1.mem, fun b o hb => ?_, ?_⟩
    · simp only [List.mem_append, List.mem_singleton] at hb
      rcases hb with hb | hb | hb
      · exact h1.box b o (by simp [hb])
      · cases hb
        refine ⟨hg', ?_, .inl (Nat.le_trans hST.size hnew)⟩
        cases hm : μ g' with
        | none => rfl
        | some x => have := hST.mu_lt hm; omega
      · exact h1.box b o (by simp [hb])
    · simp only [List.nil_append, List.map_append, List.map_cons, List.singleton_append] at hnd ⊢
      refine (List.Perm.nodup_iff List.perm_middle).2 (List.nodup_cons.2 ⟨fun hm => ?_, hnd⟩)
      rw [← List.map_append] at hm
      obtain ⟨⟨b, o⟩, hb, e1⟩ := List.mem_map.1 hm
      have hb' : (b, o) ∈ X ++ ([] ++ Y) := by simpa using hb
      have := hST.box_lt hb'
      simp at e1
      omega
  · by_cases hgg : g' = g
    · subst hgg
      have h0 : ST dd F w W μ (X ++ (g', Obj.cells cur e (0, 0)) :: Y) := by simpa using hST
      have hold : ∀ b, b < W.heap.size → b ≠ g' → W'.heap[b]? = W.heap[b]? := fun b hb hne => hgrow.block b hb (by simp [Value.ownBlock]; exact hne)
      have hnd0 := h0.nd
      simp only [List.map_append, List.map_cons] at hnd0
      have hne : ∀ b o, (b, o) ∈ X ++ Y → b ≠ g' := fun b o hb e1 => by
        subst e1
        rcases List.mem_append.1 hb with hb | hb
        · exact (List.nodup_append.1 hnd0).2.2 b (List.mem_map.2 ⟨_, hb, rfl⟩) b (by simp) rfl
        · exact (List.nodup_cons.1 (List.nodup_append.1 hnd0).2.1).1 (List.mem_map.2 ⟨_, hb, rfl⟩)
      have hgb := h0.box g' (Obj.cells cur e (0, 0)) (by simp)
      refine ⟨hgrow.os.trans hST.os, hgrow.tape.trans hST.tape, hgrow.output.trans hST.output, pM.trans hST.drawn (pM.of hdr), Nat.le_trans hST.size hgrow.size, fun b hb hF => ?_, fun b o hb => ?_, fun b o hb => ?_, by simpa using hnd0⟩
      · rw [hold b (Nat.lt_of_lt_of_le hb hST.size) (fun e1 => by subst e1; rcases hgb.2.2 with h | h; omega; exact hF h)]
        exact hST.old b hb hF
      · rw [hold b (hST.mu_lt hb) (fun e1 => by subst e1; rw [hgb.2.1] at hb; cases hb)]
        exact hST.mem b o hb
      · simp only [List.mem_append, List.mem_singleton] at hb
        rcases hb with hb | hb | hb
        · obtain ⟨r1, r2⟩ := hST.box b o (by simp [hb])
          exact ⟨by rw [hold b (iB r1) (hne b o (by simp [hb]))]; exact r1, r2⟩
        · cases hb; exact ⟨hg', hgb.2⟩
        · obtain ⟨r1, r2⟩ := hST.box b o (by simp [hb])
          exact ⟨by rw [hold b (iB r1) (hne b o (by simp [hb]))]; exact r1, r2⟩
    · have hnew : W.heap.size ≤ g' := by
        rcases hwhere with h | h <;> simp [Value.ownBlock] at h
        · exact absurd h hgg
        · omega
      have h0 : ST dd F w W μ (X ++ (g, Obj.cells cur e (0, 0)) :: Y) := by simpa using hST
      have hgb := h0.box g (Obj.cells cur e (0, 0)) (by simp)
      have hnd0 := h0.nd
      simp only [List.map_append, List.map_cons] at hnd0
      have hne : ∀ b o, (b, o) ∈ X ++ Y → b ≠ g := fun b o hb e1 => by
        subst e1
        rcases List.mem_append.1 hb with hb | hb
        · exact (List.nodup_append.1 hnd0).2.2 b (List.mem_map.2 ⟨_, hb, rfl⟩) b (by simp) rfl
        · exact (List.nodup_cons.1 (List.nodup_append.1 hnd0).2.1).1 (List.mem_map.2 ⟨_, hb, rfl⟩)
      have hold : ∀ b, b < W.heap.size → b ≠ g → W'.heap[b]? = W.heap[b]? := fun b hb hne => hgrow.block b hb (by simp [Value.ownBlock]; exact hne)
      refine ⟨hgrow.os.trans hST.os, hgrow.tape.trans hST.tape, hgrow.output.trans hST.output, pM.trans hST.drawn (pM.of hdr), Nat.le_trans hST.size hgrow.size, fun b hb hF => ?_, fun b o hb => ?_, fun b o hb => ?_, ?_⟩
      · rw [hold b (Nat.lt_of_lt_of_le hb hST.size) (fun e1 => by subst e1; rcases hgb.2.2 with h | h; omega; exact hF h)]
        exact hST.old b hb hF
      · rw [hold b (hST.mu_lt hb) (fun e1 => by subst e1; rw [hgb.2.1] at hb; cases hb)]
        exact hST.mem b o hb
      · simp only [List.mem_append, List.mem_singleton] at hb
        rcases hb with hb | hb | hb
        · obtain ⟨r1, r2⟩ := hST.box b o (by simp [hb])
          exact ⟨by rw [hold b (iB r1) (hne b o (by simp [hb]))]; exact r1, r2⟩
        · cases hb
          refine ⟨hg', ?_, .inl (Nat.le_trans hST.size hnew)⟩
          cases hm : μ g' with
          | none => rfl
          | some x => have := hST.mu_lt hm; omega
        · obtain ⟨r1, r2⟩ := hST.box b o (by simp [hb])
          exact ⟨by rw [hold b (iB r1) (hne b o (by simp [hb]))]; exact r1, r2⟩
      · have hXY : (X.map (·.1) ++ Y.map (·.1)).Nodup := (List.nodup_cons.1 ((List.Perm.nodup_iff List.perm_middle).1 hnd0)).2
        simp only [List.map_append, List.map_cons, List.singleton_append]
        refine (List.Perm.nodup_iff List.perm_middle).2 (List.nodup_cons.2 ⟨fun hm => ?_, hXY⟩)
        rw [← List.map_append] at hm
        obtain ⟨⟨b, o⟩, hb, e1⟩ := List.mem_map.1 hm
        have := hST.box_lt (b := b) (o := o) (by rcases List.mem_append.1 hb with h | h <;> simp [h])
        simp at e1
        omega
end
end Go.Proofs.YtmlncblocfcmiaaGreat
namespace Go.Proofs.YtmlncblocfcmiaaGreat
open Go.RowKit
def Di (l : List Value) : Nat → Value := fun t => l.getD t undef
def wX (P : Program) (fn : Func) (R : Ending → World → Prop) : mP
  | .normal, E, W | .ret, E, W => ∃ v, (∀ tmps : Array Value, (∀ t, tmps.getD t undef = E t) → (results fn tmps).run P W = .ok v W) ∧ R (.returned v) W
  | _, _, _ => False
theorem EA {P : Program} {f : FuncId} {fn : Func} {c : Code} {args : List Value} {w : World} {R : Ending → World → Prop} {n : Nat}
    (hf : P.funcs[f]? = some fn) (hb : fn.body = some c) (hn : fn.ntmps = n) (ha : args.length ≤ n)
    (h : CW P n c (wX P fn R) (Di args) w) : Calls P f args.toArray w R := by
  refine calls_of_wp hf hb ?_
  have hag : Ag n { tmps := args.toArray ++ Array.replicate (fn.ntmps - args.toArray.size) undef, defers := [] } (Di args) := by
    refine ⟨by simp; omega, rfl, fun t => ?_⟩
    simp only [Di, Array.getD_eq_getD_getElem?, List.getD_eq_getElem?_getD, Array.getElem?_append, Array.getElem?_replicate, List.size_toArray, List.getElem?_toArray]
    by_cases ht : t < args.length
    · rw [if_pos ht]
    · rw [if_neg ht, List.getElem?_eq_none (by omega)]
      split <;> simp
  refine wp_mono (h _ hag) (fun e a w' hl => ?_)
  cases e with
  | normal =>
    obtain ⟨E, hE, v, hv, hR⟩ := hl
    exact ⟨hE.2.1, v, hv _ hE.2.2, hR⟩
  | ret =>
    obtain ⟨E, hE, v, hv, hR⟩ := hl
    exact ⟨hE.2.1, v, hv _ hE.2.2, hR⟩
  | exit id => obtain ⟨E, hE, h⟩ := hl; exact h.elim
  | goto l => obtain ⟨E, hE, h⟩ := hl; exact h.elim
  | panic c => exact hl.elim
  | outgrown => exact hl.elim
section
variable {P : Program} {fn : Func} {R : Ending → World → Prop} {E : Nat → Value} {W : World}
theorem eA {r : Tmp} {v : Value} (hr : fn.results = #[.tmp r]) (hv : E r = v) (h : R (.returned v) W) : wX P fn R .ret E W :=
  ⟨v, fun tmps ht => by rw [results_tmp hr, ht, hv], h⟩
theorem wn {r s : Tmp} {v u : Value} (hr : fn.results = #[.tmp r, .tmp s]) (hv : E r = v) (hu : E s = u) (h : R (.returned (.tuple #[v, u])) W) : wX P fn R .ret E W :=
  ⟨.tuple #[v, u], fun tmps ht => by rw [results_tmp2 hr, ht, ht, hv, hu], h⟩
theorem jD (hr : fn.results = #[]) (h : R (.returned (.tuple #[])) W) : wX P fn R .ret E W :=
  ⟨.tuple #[], fun tmps _ => by rw [results_none hr], h⟩
theorem kM {r : Tmp} {t : TypeId} {a : Addr} {v : Value} (hr : fn.results = #[.cell r t]) (hx : E r = .pointer (some a)) (hv : (Instr.loadAt t (.pointer (some a))).run P W = .ok v W) (h : R (.returned v) W) : wX P fn R .ret E W :=
  ⟨v, fun tmps ht => by
    have h1 : (loadVar t a).run P W = .ok v W := by simpa [Instr.loadAt, Instr.sureAddr] using hv
    simp [results, hr, ht, hx, asAddr, h1], h⟩
theorem lP (h : wX P fn R .ret E W) : wX P fn R .normal E W := h
end
section
variable {Q : mP} {E : Nat → Value} {W : World} {K : (Nat → Value) → World → Prop} {id j : Nat}
theorem cL (h : Q .normal E W) : um id Q .normal E W := h
theorem fE (h : Q .ret E W) : um id Q .ret E W := h
theorem pC (h : Q .normal E W) : um id Q (.exit id) E W := by simp [um]; exact h
theorem JO (hne : (j = id) = False) (h : Q (.exit j) E W) : um id Q (.exit j) E W := by simp only [um, hne, if_false]; exact h
theorem aH (h : K E W) : uH K Q .normal E W := h
theorem cU (h : Q .ret E W) : uH K Q .ret E W := h
theorem gI (h : Q (.exit j) E W) : uH K Q (.exit j) E W := h
end
theorem Gp {i N : Nat} (hi : i < N) (hN : N ≤ 9223372036854775807) : IntKind.i64.wrap ((i : Int) + 1) = ((i + 1 : Nat) : Int) := by
  rw [IntWalk.i64_in _ (by omega)]
  omega
theorem dA {P : Program} {n : Nat} {Q : mP} {E : Nat → Value} {W : World} {id0 id1 r2 r6 tc ti tn ts : Nat} {t1 t2 t3 t4 t5 t6 t7 : TypeId} {p1 p2 p3 : String} {f1 f2 f3 : Array Edge} {body : Code}
    (I : Nat → (Nat → Value) → World → Prop) (N : Nat) (hN : N ≤ 9223372036854775807) (h0 : I 0 E W) (hc : tc < n) (hs : ts < n) (hti : ti < n)
    (hI : ∀ i E W, I i E W → E ti = .int .i64 (i : Nat) ∧ E tn = .int .i64 (N : Nat))
    (round : ∀ i E W, i < N → I i E W → CW P n (.block id1 body) (uH (fun E' W' => E' ti = .int .i64 (i : Nat) ∧ I (i + 1) (lR (lR E' ts (.int .i64 ((i + 1 : Nat) : Int))) ti (.int .i64 ((i + 1 : Nat) : Int))) W') (um id0 Q)) (lR E tc (.bool true)) W)
    (done : ∀ E W, I N E W → Q .normal (lR E tc (.bool false)) W) :
    CW P n (.block id0 (.loop (.seq (.region r2 #[⟨some tc, .binOp .lss t1 (.tmp ti) (.tmp tn) t2, t3, p1, f1, none⟩] false)
      (.seq (.cond (.tmp tc) .skip (.exit id0)) (.seq (.block id1 body)
        (.region r6 #[⟨some ts, .binOp .add t4 (.tmp ti) (.const (.int .i64 1)) t5, t6, p2, f2, none⟩, ⟨some ti, .move (.tmp ts), t7, p3, f3, none⟩] false)))))) Q E W := by
  refine aY (iV (fun m E W => ∃ i, i ≤ N ∧ m = N - i ∧ I i E W) N ⟨0, Nat.zero_le _, by omega, h0⟩ ?_)
  rintro m E W ⟨i, hi, rfl, hIi⟩
  obtain ⟨hE1, hE2⟩ := hI i E W hIi
  refine aD (aA (Ca (.inl rfl) rfl hc (aQ hE1 hE2 rfl) (aF ?_)))
  refine aH (aD ?_)
  have e1 : lR E tc (.bool (decide ((i : Int) < (N : Int)))) tc = .bool (decide ((i : Int) < (N : Int))) := by simp [lR]
  by_cases hlt : i < N
  · have hd : decide ((i : Int) < (N : Int)) = true := by simp; omega
    rw [hd] at e1 ⊢
    refine uo e1 (aX (aH (aD ?_)))
    refine B9 (round i E W hlt hIi) (fun e E' W' h => ?_)
    cases e with
    | normal =>
      obtain ⟨h1, h2⟩ := h
      refine aH ?_
      have hw : IntKind.i64.wrap ((i : Int) + 1) = ((i + 1 : Nat) : Int) := Gp hlt hN
      refine aA (Ca (v := .int .i64 ((i + 1 : Nat) : Int)) (.inl rfl) rfl hs (aQ (k := .i64) (a := (i : Int)) (b := 1) h1 rfl (by simp only [FZ, hw])) ?_)
      refine Ca (v := .int .i64 ((i + 1 : Nat) : Int)) (.inl rfl) rfl hti (aC (by simp [aS, lR])) (aF ?_)
      exact aH ⟨N - (i + 1), by omega, i + 1, by omega, rfl, h2⟩
    | exit j => exact h
    | goto l => exact h
    | ret => exact h
    | panic c => exact h
    | outgrown => exact h
  · have hd : decide ((i : Int) < (N : Int)) = false := by simp; omega
    rw [hd] at e1 ⊢
    obtain rfl : i = N := by omega
    refine oL e1 (iD (gI (gI (pC ?_))))
    exact done E W hIi
theorem GL {P : Program} {n : Nat} {x : Code} {Q : mP} {K : (Nat → Value) → World → Prop} {E : Nat → Value} {W : World} (J : (Nat → Value) → World → Prop) (h : CW P n x (uH J Q) E W) (k : ∀ E W, J E W → K E W) : CW P n x (uH K Q) E W :=
  B9 h (fun e E W h => by cases e <;> first | exact k E W h | exact h)
theorem Jr {α : Type} {c : Bool} {x y : α} {r : α} (hc : c = true) (h : (if c = true then x else y) = r) : x = r := by rw [if_pos hc] at h; exact h
theorem J7 {α : Type} {c : Bool} {x y : α} {r : α} (hc : c = false) (h : (if c = true then x else y) = r) : y = r := by rw [if_neg (by rw [hc]; decide)] at h; exact h
theorem bind_some {α β : Type} {o : Option α} {f : α → Option β} {r : β} (h : o.bind f = some r) : ∃ y, o = some y ∧ f y = some r := by
  cases o with
  | none => cases h
  | some y => exact ⟨y, rfl, h⟩
theorem Fy (b : Bool) : b = true ∨ b = false := by cases b <;> simp
theorem cR {α : Type} {l : List α} {i : Nat} (h : i < l.length) : ∃ x xs, l.drop i = x :: xs ∧ l[i]? = some x ∧ l.drop (i + 1) = xs := by
  cases hd : l.drop i with
  | nil => have := congrArg List.length hd; simp at this; omega
  | cons x xs => exact ⟨x, xs, rfl, by rw [← List.head?_drop, hd]; rfl, by rw [← List.drop_drop, hd]; rfl⟩
theorem zn {P : Program} {W : World} (d : Nat) (xs ys : Array Value) : (Op.eqFields d xs ys []).run P W = .ok true W := by simp [Op.eqFields]
theorem mN {P : Program} {W : World} {d : Nat} {xs ys : Array Value} {f : Field} {fs : List Field} {a b : Value} {r s : Bool} (hn : f.name ≠ "_") (ha : (part f.type xs f.offset).run P W = .ok a W) (hb : (part f.type ys f.offset).run P W = .ok b W)
    (he : (Op.equalIn d f.type a b).run P W = .ok r W) (h : (Op.eqFields d xs ys fs).run P W = .ok s W) : (Op.eqFields d xs ys (f :: fs)).run P W = .ok (r && s) W := by
  simp only [Op.eqFields, ne_eq, hn, not_false_eq_true, if_true, Sem.run_bind, ha, hb, he, Result.andThen_ok]
  cases r <;> simp [h]
theorem uM {P : Program} {W : World} {t : TypeId} {k : Nat} {cs : Array Value} {off : Nat} {v : Array Value} (hA : ∀ w, (isAgg t).run P w = .ok true w) (hS : ∀ w, (sizeOf t).run P w = .ok k w) (hv : cs.extract off (off + k) = v) : (part t cs off).run P W = .ok (.agg v) W := by
  simp [part, hA W, hS W, hv]
theorem nX {P : Program} {W : World} {t : TypeId} {cs : Array Value} {off : Nat} {v : Value} (hA : ∀ w, (isAgg t).run P w = .ok false w) (hv : cs[off]? = some v) : (part t cs off).run P W = .ok v W := by
  simp [part, hA W, hv]
def cQ (a b : ByteArray) : Bool := a.toList == b.toList
theorem Ia {P : Program} {t : TypeId} (ht : P.underlying t = some .string) (d : Nat) (a b : ByteArray) (W : World) : (Op.equalIn (d + 1) t (.string a) (.string b)).run P W = .ok (cQ a b) W := run_equalIn_string W d t a b ht
theorem KW {P : Program} {t : TypeId} {k : IntKind} (ht : P.underlying t = some (.int k)) (d : Nat) (a b : Int) (W : World) : (Op.equalIn (d + 1) t (.int k a) (.int k b)).run P W = .ok (a == b) W := run_equalIn_int W d t k k a b ht
theorem nM {P : Program} {op : BinOp} {t : TypeId} {x y : Operand} {a b : Array Value} (hg : P.eqGuardType P.depth t = false) (W : World) : (eqGuard op t x y (.agg a) (.agg b)).run P W = .ok () W := by
  cases op <;> simp [eqGuard] <;> (intro h; rw [hg] at h; cases h)
theorem sR {P : Program} {t : TypeId} {a b : Array Value} {r : Bool} (h : ∀ W, (Op.equalIn Op.maxDepth t (.agg a) (.agg b)).run P W = .ok r W) (W : World) : (binOp .eql t (.agg a) (.agg b)).run P W = .ok (.bool r) W := by
  simp [binOp, Op.equal, h W]
theorem Fc {P : Program} {t : TypeId} {a b : Array Value} {r : Bool} (h : ∀ W, (Op.equalIn Op.maxDepth t (.agg a) (.agg b)).run P W = .ok r W) (W : World) : (binOp .neq t (.agg a) (.agg b)).run P W = .ok (.bool !r) W := by
  simp [binOp, Op.equal, h W]
end Go.Proofs.YtmlncblocfcmiaaGreat
namespace Go.Proofs.YtmlncblocfcmiaaGreat
open Go.RowKit
variable {dd : Bool}
def bV (k : IntKind) (x : Int) : List Value := [.int k x]
def xZ (x : ByteArray) : List Value := [.string x]
theorem zk (k : IntKind) (x : Int) : ∀ u ∈ bV k x, u.oneCell' = true := by intro u hu; simp [bV] at hu; subst hu; rfl
theorem Jm (x : ByteArray) : ∀ u ∈ xZ x, u.oneCell' = true := by intro u hu; simp [xZ] at hu; subst hu; rfl
def zS : ByteArray := ⟨#[]⟩
def lS (a b : ByteArray) : Bool := Op.bytesLess a.toList b.toList
@[irreducible] def cE : Nat := 18446744073709551616
theorem sV : cE = 18446744073709551616 := by unfold cE; rfl
def dK {α : Type} (l : List α) (i : Int) : Option α := if 0 ≤ i then l[i.toNat]? else none
theorem bY {α : Type} {l : List α} {i : Int} {x : α} (h : dK l i = some x) : 0 ≤ i := by
  unfold dK at h; split at h
  · assumption
  · cases h
theorem bT {α : Type} {l : List α} {i : Int} {x : α} (h : dK l i = some x) : l[i.toNat]? = some x := by
  unfold dK at h; split at h
  · exact h
  · cases h
theorem zM {α : Type} (l : List α) (i : Nat) : dK l (i : Int) = l[i]? := by simp [dK]
def vt (s : ByteArray) (i : Int) : Option UInt8 := if 0 ≤ i then s[i.toNat]? else none
theorem EB {s : ByteArray} {i : Int} {x : UInt8} (h : vt s i = some x) : 0 ≤ i := by
  unfold vt at h; split at h
  · assumption
  · cases h
theorem HF {s : ByteArray} {i : Int} {x : UInt8} (h : vt s i = some x) : s[i.toNat]? = some x := by
  unfold vt at h; split at h
  · exact h
  · cases h
section
variable {F : Nat → Prop} {w W : World} {μ : bD} {L L' : List (Nat × Obj)} {α : Type} {e : TypeId} {enc : α → List Value} {k : Nat} {v : Value} {l : List α} {R : List (Nat × Obj)}
theorem ST.at_ (h : ST dd F w W μ L) {b : Nat} {o : Obj} (hb : (b, o) ∈ L) : hp W b = some o := (h.box b o hb).1
theorem bI.form (h : bI e enc k v l R) : ∃ A c, v = .slice A l.length c := by
  rcases h with ⟨rfl, rfl, rfl⟩ | ⟨g, cap, cur, rfl, rfl, h1, h2, h3, h4⟩
  · exact ⟨_, _, rfl⟩
  · exact ⟨_, _, rfl⟩
theorem Sl.form {R : jX α} (h : Sl R k μ v l) : ∃ A c, v = .slice A l.length c := let ⟨A, c, h, _⟩ := h; ⟨A, c, h⟩
theorem bI.frM (h : bI e enc k v l R) (hST : ST dd dC w W μ L) (hR : ∀ p, p ∈ R → p ∈ L) : Fr w.heap.size v := by
  rcases h with ⟨rfl, rfl, rfl⟩ | ⟨g, cap, cur, rfl, rfl, h1, h2, h3, h4⟩
  · exact Fr.nil _
  · intro b hb
    simp [Value.ownBlock] at hb
    subst hb
    rcases (hST.box g (.cells cur e (0, 0)) (hR _ (List.mem_singleton.2 rfl))).2.2 with h | h
    · exact h
    · exact h.elim
theorem Sl.lit {b m : Nat} {cs : Array Value} (hk : ∀ x, (enc x).length = k) (hm : l.length = m) (hM : m ≤ maxLen) (hc : cs.toList = (l.map enc).flatten) (hb : μ b = some (.cells cs e (0, 0))) : Sl (Pl enc) k μ (.slice (some ⟨b, 0, none⟩) m m) l :=
  (bI.lit (e := e) (b := b) hm hM hc (by have := congrArg List.length hc; rw [kV hk, Array.length_toList, hm] at this; exact this)).sl hk (fun b' o h => by simp at h; obtain ⟨rfl, rfl⟩ := h; exact hb)
theorem Fr.box (h : ST dd dC w W μ L) {b m c : Nat} {o : Obj} (hb : (b, o) ∈ L) : Fr w.heap.size (.slice (some ⟨b, 0, none⟩) m c) := by
  intro b' hb'
  simp [Value.ownBlock] at hb'
  subst hb'
  rcases (h.box b o hb).2.2 with h | h
  · exact h
  · exact h.elim
theorem ST.perm (h : ST dd F w W μ L) (hp : L.Perm L') : ST dd F w W μ L' :=
  ⟨h.os, h.tape, h.output, h.drawn, h.size, h.old, h.mem, fun b o hb => h.box b o (hp.mem_iff.2 hb), (hp.map _).nodup_iff.1 h.nd⟩
theorem ST.sublist (h : ST dd F w W μ L) (hs : L'.Sublist L) : ST dd F w W μ L' :=
  ⟨h.os, h.tape, h.output, h.drawn, h.size, h.old, h.mem, fun b o hb => h.box b o (hs.subset hb), h.nd.sublist (hs.map _)⟩
end
section
variable {E : Nat → Value} {x1 x2 x3 x4 x5 x6 : Operand} {v1 v2 v3 v4 v5 v6 : Value}
theorem tG (h1 : aS E x1 = v1) : #[x1].map (aS E) ++ (#[] : Array Value) = [v1].toArray := by simp [h1]
theorem sJ (h1 : aS E x1 = v1) (h2 : aS E x2 = v2) : #[x1, x2].map (aS E) ++ (#[] : Array Value) = [v1, v2].toArray := by simp [h1, h2]
end
theorem Cs : ∀ (v : List Value) (i off : Nat) (cells : Array Value), off + i + v.length ≤ cells.size →
    (v.zipIdx i).foldl (fun cs (c, j) => cs.setIfInBounds (off + j) c) cells = (cells.toList.take (off + i) ++ v ++ cells.toList.drop (off + i + v.length)).toArray
  | [], i, off, cells, h => by simp
  | c :: v, i, off, cells, h => by
    simp only [List.zipIdx_cons, List.foldl_cons]
    simp only [List.length_cons] at h
    rw [Cs v (i + 1) off _ (by simp; omega)]
    have hlt : off + i < cells.toList.length := by simp; omega
    congr 1
    rw [Array.toList_setIfInBounds]
    apply List.ext_getElem?
    intro j
    have hs : (cells.toList.take (off + i)).length = off + i := by simp; omega
    by_cases h1 : j < off + i
    · simp only [List.getElem?_append, List.length_append, List.length_take, List.length_set, Array.length_toList, List.length_cons, List.getElem?_take, List.getElem?_set, List.getElem?_drop]
      rw [show min (off + (i + 1)) cells.size = off + (i + 1) by omega, show min (off + i) cells.size = off + i by omega]
      rw [if_pos (by omega), if_pos (by omega), if_pos (by omega), if_neg (by omega), if_pos (by omega), if_pos (by omega), if_pos (by omega)]
    · by_cases h2 : j = off + i
      · subst h2
        simp [List.getElem?_append, List.getElem?_take, List.getElem?_set, show off + i < off + (i + 1) by omega]
        rw [if_pos (by omega), if_pos (by omega), if_neg (by omega), show off + i - min (off + i) cells.size = 0 by omega]
        rfl
      · simp only [List.getElem?_append, List.length_append, List.length_take, List.length_set, Array.length_toList, List.length_cons, List.getElem?_take, List.getElem?_set, List.getElem?_drop]
        rw [show min (off + (i + 1)) cells.size = off + (i + 1) by omega, show min (off + i) cells.size = off + i by omega]
        by_cases h3 : j < off + (i + 1) + v.length
        · rw [if_pos h3, if_neg (by omega), if_pos (by omega), if_neg (by omega)]
          rw [show j - (off + i) = (j - (off + (i + 1))) + 1 by omega]
          simp
        · rw [if_neg h3, if_neg (by omega), if_neg (by omega)]
          congr 1
          omega
theorem DM {k : Nat} : ∀ (vs : List Value) (i : Nat) (pre rest : List Value), (∀ v ∈ vs, v.cells.size = k) → pre.length = i * k → rest.length = vs.length * k →
    Instr.fill (fun i => some (i * k, k)) (pre ++ rest).toArray ((vs.zipIdx i).map (fun p => (p.2, p.1))) = some (pre ++ vs.flatMap (fun v => v.cells.toList)).toArray
  | [], i, pre, rest, hv, hp, hr => by
    have : rest = [] := by cases rest <;> simp at hr ⊢
    simp [Instr.fill, this]
  | v :: vs, i, pre, rest, hv, hp, hr => by
    have hvk := hv v (by simp)
    have hz : v.cells.zipIdx.foldl (fun cs (c, j) => cs.setIfInBounds (i * k + j) c) (pre ++ rest).toArray = (pre ++ v.cells.toList ++ rest.drop k).toArray := by
      have := Cs v.cells.toList 0 (i * k) (pre ++ rest).toArray (by simp [hp, hr, hvk, Nat.add_mul])
      rw [← Array.toList_zipIdx, Array.foldl_toList] at this
      rw [this]
      congr 1
      simp [← hp, hvk]
    simp only [List.zipIdx_cons, List.map_cons, Instr.fill]
    rw [if_neg (by simp [hvk, hp, hr, Nat.add_mul]), hz]
    have := DM vs (i + 1) (pre ++ v.cells.toList) (rest.drop k) (fun u hu => hv u (by simp [hu])) (by simp [hp, hvk, Nat.add_mul]) (by simp [hr, Nat.add_mul])
    rw [this]
    simp
theorem Ho {k m : Nat} {cs0 cs : Array Value} {qs : Array (Nat × Value)} (vs : List Value) (hq : qs.toList = vs.zipIdx.map (fun p => (p.2, p.1))) (hv : ∀ v ∈ vs, v.cells.size = k) (hm : vs.length = m) (hs : cs0.size = m * k)
    (hc : (vs.flatMap (fun v => v.cells.toList)).toArray = cs) : Instr.fill (fun i => some (i * k, k)) cs0 qs.toList = some cs := by
  subst hm hc
  rw [hq]
  have := DM vs 0 [] cs0.toList hv (by simp) (by simpa using hs)
  simpa using this
theorem bB {P : Program} {t e : TypeId} {m k : Nat} {z : Value} {qs : Array (Nat × Value)} {cs : Array Value} (vs : List Value) (ht : P.underlying t = some (.slice e)) (hs : ∀ w, (sizeOf e).run P w = .ok k w) (hz : ∀ w, (zeroValue e).run P w = .ok z w)
    (hm : m * k ≤ 16777216) (hq : qs.toList = vs.zipIdx.map (fun p => (p.2, p.1))) (hv : ∀ v ∈ vs, v.cells.size = k) (hl : vs.length = m) (hc : (vs.flatMap (fun v => v.cells.toList)).toArray = cs) (W : World) :
    (Instr.buildSlice t m qs).run P W = .ok (.slice (some ⟨W.heap.size, 0, none⟩) m m) (W.alloc (.cells cs e (0, 0))) :=
  BY ht hs hz hm (Ho vs hq hv hl (by simp) hc) W
theorem nZ {E : Nat → Value}  : (#[] : Array (Nat × Operand)).map (fun (i, x) => (i, aS E x)) = #[] := by simp
theorem bM {E : Nat → Value} {x0 : Operand} {v0 : Value} {i0 : Nat} (h0 : aS E x0 = v0) : (#[(i0, x0)] : Array (Nat × Operand)).map (fun (i, x) => (i, aS E x)) = #[(i0, v0)] := by simp [h0]
theorem fR {E : Nat → Value} {x0 x1 : Operand} {v0 v1 : Value} {i0 i1 : Nat} (h0 : aS E x0 = v0) (h1 : aS E x1 = v1) : (#[(i0, x0), (i1, x1)] : Array (Nat × Operand)).map (fun (i, x) => (i, aS E x)) = #[(i0, v0), (i1, v1)] := by simp [h0, h1]
theorem eH {E : Nat → Value} {x0 x1 x2 : Operand} {v0 v1 v2 : Value} {i0 i1 i2 : Nat} (h0 : aS E x0 = v0) (h1 : aS E x1 = v1) (h2 : aS E x2 = v2) : (#[(i0, x0), (i1, x1), (i2, x2)] : Array (Nat × Operand)).map (fun (i, x) => (i, aS E x)) = #[(i0, v0), (i1, v1), (i2, v2)] := by simp [h0, h1, h2]
theorem J5 {E : Nat → Value} {x0 x1 x2 x3 : Operand} {v0 v1 v2 v3 : Value} {i0 i1 i2 i3 : Nat} (h0 : aS E x0 = v0) (h1 : aS E x1 = v1) (h2 : aS E x2 = v2) (h3 : aS E x3 = v3) : (#[(i0, x0), (i1, x1), (i2, x2), (i3, x3)] : Array (Nat × Operand)).map (fun (i, x) => (i, aS E x)) = #[(i0, v0), (i1, v1), (i2, v2), (i3, v3)] := by simp [h0, h1, h2, h3]
theorem cW {P : Program} {t : TypeId} {f off : Nat} {fs : Array Field} {fd : Field} (ht : P.underlying t = some (.struct fs)) (hf : fs[f]? = some fd) {k : Nat} (hs : ∀ w, (sizeOf fd.type).run P w = .ok k w) (hk : k ≠ 0) (ho : fd.offset = off) : eE P t f off := by
  intro b o w
  subst ho
  simp [Instr.fieldAt, run_underlying ht, hf, Instr.sureAddr, fieldPlace, Addr.add_lit, hs w, hk]
theorem Ag.yield_none {n : Nat} {a : Act} {E : Nat → Value} (h : Ag n a E) {ops : Array Oper} {j t : Nat} (hj : (ops[j]?).bind (·.dst) = some t) (ht : t < n) (hv : E t = undef) : yielded ops a.tmps j = none := by
  have h3 := h.2.2 t
  have hs : a.tmps[t]? = some (E t) := by
    rw [← h3]
    simp [Array.getD_eq_getD_getElem?, h.1, ht]
  simp [yielded, hj, hs, hv, undef]
theorem KC {P : Program} {n : Nat} {Q : mP} {E : Nat → Value} {W : World} {ops : Array Oper} {rest : List Oper} {A : Value → Prop} {o : Oper} {dd : Nat} (hw : nK n ops E o) (hd : o.dst = some dd) (hn : dd < n)
    (hr : ∃ p, A p ∧ ∀ W, dW P E o W p W) (h : ∀ p, A p → LW P n ops Q rest (lR E dd p) W) : LW P n ops Q (o :: rest) E W := by
  obtain ⟨p, h1, h2⟩ := hr
  exact Ca hw hd hn (h2 W) (h p h1)
end Go.Proofs.YtmlncblocfcmiaaGreat
namespace Go.Proofs.YtmlncblocfcmiaaGreat
open Go.RowKit
variable {dd : Bool}
theorem qP {P : Program} {n : Nat} {x : Code} {Q : mP} {E : Nat → Value} {W : World} (h : CW P n x (uH (fun E W => Q .normal E W) Q) E W) : CW P n x Q E W :=
  B9 h (fun e E W h => by cases e <;> exact h)
section
variable {P : Program} {n : Nat} {Q : mP} {E : Nat → Value} {W : World} {d : Option Nat} {ty : TypeId} {pos : String} {af : Array Edge} {g : Option (Nat × Bool)}
  {F : Nat → Prop} {w : World} {μ : bD} {L : List (Nat × Obj)}
def Il (k : IntKind) (op : BinOp) (a b : Int) : Option Value :=
  match op with
  | .quo => some (.int k (k.wrap (a.tdiv b)))
  | .rem => some (.int k (a.tmod b))
  | .and => some (.int k (k.wrap (BitVec.ofInt k.bits a &&& BitVec.ofInt k.bits b).toNat))
  | .or => some (.int k (k.wrap (BitVec.ofInt k.bits a ||| BitVec.ofInt k.bits b).toNat))
  | _ => none
theorem Ij {op : BinOp} {tx tv : TypeId} {x y : Operand} {k : IntKind} {a b : Int} {v : Value} (hx : aS E x = .int k a) (hy : aS E y = .int k b) (h0 : b ≠ 0) (hv : Il k op a b = some v) :
    dW P E ⟨d, .binOp op tx x y tv, ty, pos, af, g⟩ W v W := by
  show (do let r ← (do eqGuard op tx x y (aS E x) (aS E y); binOp op tx (aS E x) (aS E y)); pure (.value r) : Sem Next).run P W = _
  rw [hx, hy]
  cases op <;> simp [Il] at hv <;> subst hv <;> simp [eqGuard, binOp, Op.intDiv, Op.intBits, h0]
theorem zY {tx tv : TypeId} {x y : Operand} {k k' : IntKind} {a b : Int} (hx : aS E x = .int k a) (hy : aS E y = .int k' b) (h0 : 0 ≤ b) :
    dW P E ⟨d, .binOp .shr tx x y tv, ty, pos, af, g⟩ W (.int k (a.fdiv (2 ^ min b.toNat k.bits))) W := by
  show (do let r ← (do eqGuard .shr tx x y (aS E x) (aS E y); binOp .shr tx (aS E x) (aS E y)); pure (.value r) : Sem Next).run P W = _
  rw [hx, hy]
  simp [eqGuard, binOp, Op.shift, show ¬ b < 0 by omega]
theorem lM {s t : TypeId} {x : Operand} {k k' : IntKind} {a : Int} {u : TypeDesc} (hs : P.underlying s = some u) (ht : P.underlying t = some (.int k)) (hx : aS E x = .int k' a) :
    dW P E ⟨d, .convert s t x, ty, pos, af, g⟩ W (.int k (k.wrap a)) W := by
  show (do pure (.value (← convert s t (aS E x))) : Sem Next).run P W = _
  rw [hx]
  simp [convert, run_underlying hs, run_underlying ht, Conv.intToInt]
theorem Ci {t e : TypeId} (dd : Nat) (ht : P.underlying t = some (.slice e)) (A : Option Addr) (l c : Nat) (W : World) : (Op.equalIn (dd + 1) t (.slice A l c) (.slice none 0 0)).run P W = .ok A.isNone W := by
  cases A <;> simp [Op.equalIn, run_underlying ht]
theorem wU {tx tv e : TypeId} {x y : Operand} {A : Option Addr} {l c : Nat} (ht : P.underlying tx = some (.slice e)) (hx : aS E x = .slice A l c) (hy : aS E y = .slice none 0 0) :
    dW P E ⟨d, .binOp .eql tx x y tv, ty, pos, af, g⟩ W (.bool A.isNone) W := by
  show (do let r ← (do eqGuard .eql tx x y (aS E x) (aS E y); binOp .eql tx (aS E x) (aS E y)); pure (.value r) : Sem Next).run P W = _
  rw [hx, hy]
  have h0 := Ci 9999 ht A l c W
  simp [eqGuard, binOp, Op.equal, show Op.maxDepth = 9999 + 1 from rfl, h0]
def nY (s : ByteArray) : List Int := s.data.toList.map (fun b => (b.toNat : Int))
def xE (s : ByteArray) : Option (List Int) := if s.size ≤ maxLen then some (nY s) else none
theorem j2 (s : ByteArray) : (nY s).length = s.size := by simp only [nY, List.length_map, Array.length_toList]; rfl
theorem FD {s : ByteArray} {cap i : Nat} {x : Int} (h : (nY s)[i]? = some x) : (bytesRow s cap)[i]? = some (.int .u8 x) := by
  have hi : i < s.size := by have := (List.getElem?_eq_some_iff.1 h).1; rwa [j2] at this
  have hi' : i < s.data.size := hi
  simp [nY] at h
  obtain ⟨b, hb, rfl⟩ := h
  rw [bytesRow, Array.getElem?_append_left (by simpa using hi')]
  simp [hb]
theorem CL {K : Value → World → Prop} {s t e : TypeId} {x : Operand} {str : ByteArray} {l : List Int} (hST : ST dd F w W μ L) (hs : P.underlying s = some .string) (hd : P.underlying t = some (.slice e)) (he : P.underlying e = some (.int .u8)) (hx : aS E x = .string str) (hb : xE str = some l)
    (h : ∀ W' v μ', ST dd F w W' μ' L → bE μ μ' → Lo F w μ μ' → Sl (Pl (bV .u8)) 1 μ' v l → Fr w.heap.size v → K v W') : gG P E ⟨d, .convert s t x, ty, pos, af, g⟩ W K := by
  unfold xE at hb
  split at hb
  case isFalse => cases hb
  rename_i hm
  cases hb
  have hrun := run_bytes_of_string (P := P) W s t e str hs hd he
  have h1 := hST.drew.alloc (.cells (bytesRow str (grownCap W str.size 0 e)) e ((bytesRow str (grownCap W str.size 0 e)).size, (bytesRow str (grownCap W str.size 0 e)).size + 1))
  refine .inl ⟨.slice (some ⟨W.heap.size, 0, none⟩) str.size (grownCap W str.size 0 e), _, ?_, h _ _ _ (ST.publish (A := []) h1) (ST.pub_sub (A := []) h1) (ST.lo_pub (A := []) h1) ?_ ?_⟩
  · show (do pure (.value (← convert s t (aS E x))) : Sem Next).run P W = _
    rw [hx]
    simp only [Sem.run_bind, hrun, Result.andThen_ok, Sem.run_pure]
  · refine ⟨_, grownCap W str.size 0 e, by rw [j2], by rw [j2]; exact grownCap_ge W str.size 0 e, grownCap_le_maxLen W str.size 0 e hm, fun _ => ⟨W.heap.size, 0, bytesRow str (grownCap W str.size 0 e), e, _, rfl, if_pos rfl, fun i x hx => ⟨_, rfl, rfl, fun j y hy => ?_⟩⟩⟩
    cases j with
    | zero => simp [bV] at hy; subst hy; simpa using FD hx
    | succ j => simp [bV] at hy
  · intro b hb
    simp [Value.ownBlock] at hb
    subst hb
    exact hST.size
def xl (l : List Int) : ByteArray := l.foldl (fun r n => r.push (UInt8.ofNat n.toNat)) ByteArray.empty
theorem E7 {s t e : TypeId} {x : Operand} {v : Value} {l : List Int} (hs : P.underlying s = some (.slice e)) (he : P.underlying e = some (.int .u8)) (hd : P.underlying t = some .string) (hx : aS E x = v) (hv : Sl (Pl (bV .u8)) 1 (hp W) v l) :
    dW P E ⟨d, .convert s t x, ty, pos, af, g⟩ W (.string (xl l)) W := by
  show (do pure (.value (← convert s t (aS E x))) : Sem Next).run P W = _
  obtain ⟨A, c, rfl, h2, h3, h4⟩ := hv
  rw [hx]
  simp only [Sem.run_bind, run_convert_bytes_string W s t e A l.length c hs he hd]
  rcases Nat.eq_zero_or_pos l.length with h0 | h0
  · have : l = [] := List.length_eq_zero_iff.1 h0
    subst this
    cases A with
    | none => simp [Conv.bytesToString, xl]
    | some a =>
      have h5 := run_bytesToString (P := P) W a 0 c [] (by simpa using run_loadCells_list (P := P) W a [] (by simp))
      simp only [List.length_nil]
      rw [h5]
      simp [xl]
  · obtain ⟨b, off, cs, T, fr, rfl, h6, h7⟩ := h4 h0
    have hl := run_loadCells_list (P := P) W ⟨b, off, none⟩ (l.map (Value.int .u8)) (fun j v hj => by
      simp at hj
      obtain ⟨x, hx1, rfl⟩ := hj
      obtain ⟨ys, _, hys, h12⟩ := h7 j x hx1
      cases hys
      rw [Addr.add_lit, cell_of_row W b (off + j) cs T fr h6]
      have := h12 0 (.int .u8 x) rfl
      simpa using this)
    simp only [List.length_map] at hl
    rw [run_bytesToString W _ l.length c l hl]
    simp [xl]
end
end Go.Proofs.YtmlncblocfcmiaaGreat
namespace Go.Proofs.YtmlncblocfcmiaaGreat
open Go.RowKit
variable {dd : Bool}
def keys (L : List (Nat × Obj)) : Nat → Prop := fun b => ∃ o, (b, o) ∈ L
structure KS (dd : Bool) (F : Nat → Prop) (w W : World) : Prop where
  os : W.os = w.os
  tape : W.tape = w.tape
  output : W.output = w.output
  drawn : pM dd w.drawn W.drawn
  size : w.heap.size ≤ W.heap.size
  old : ∀ b, b < w.heap.size → ¬ F b → W.heap[b]? = w.heap[b]?
def yV (L : List (Nat × Obj)) (W : World) : Prop := ∀ b o, (b, o) ∈ L → W.heap[b]? = some o
structure rc (dd : Bool) (L0 L1 : List (Nat × Obj)) (w w' : World) : Prop where
  ex : KS dd (keys L0) w w'
  held : ∀ b o, (b, o) ∈ L1 → w'.heap[b]? = some o ∧ (w.heap.size ≤ b ∨ keys L0 b)
  nd : (L1.map (·.1)).Nodup
open Classical in
noncomputable def rp (w : World) (L : List (Nat × Obj)) : bD := fun b => if keys L b then none else w.heap[b]?
open Classical in
noncomputable def wL (μ : bD) (W W' : World) (L1 : List (Nat × Obj)) : bD := fun b => if b < W.heap.size then μ b else if keys L1 b then none else W'.heap[b]?
section
variable {F : Nat → Prop} {w W W' : World} {μ μ' : bD} {L L0 L1 : List (Nat × Obj)}
theorem ST.startM (hh : yV L0 w) (hn : (L0.map (·.1)).Nodup) : ST dd (keys L0) w w (rp w L0) L0 :=
  ⟨rfl, rfl, rfl, pM.of (Nat.le_refl _), Nat.le_refl _, fun _ _ _ => rfl, fun b o h => by
    unfold rp at h; split at h
    · cases h
    · exact h, fun b o h => ⟨hh b o h, by unfold rp; rw [if_pos ⟨o, h⟩], .inr ⟨o, h⟩⟩, hn⟩
theorem Ab {A B : List (Nat × Obj)} (h : ((A ++ B).map (·.1)).Nodup) {b : Nat} {o : Obj} (hb : (b, o) ∈ B) : ¬ keys A b := by
  rintro ⟨o', ho⟩
  rw [List.map_append] at h
  exact (List.nodup_append.1 h).2.2 b (List.mem_map.2 ⟨_, ho, rfl⟩) b (List.mem_map.2 ⟨_, hb, rfl⟩) rfl
theorem ST.back (h : ST dd F w W μ (L0 ++ L)) (hb : rc dd L0 L1 W W') : ST dd F w W' (wL μ W W' L1) (L1 ++ L) := by
  have hk : ∀ b, keys L0 b → b < W.heap.size ∧ μ b = none ∧ (w.heap.size ≤ b ∨ F b) := fun b ⟨o, ho⟩ => by
    obtain ⟨h1, h2, h3⟩ := h.box b o (List.mem_append_left _ ho)
    exact ⟨iB h1, h2, h3⟩
  refine ⟨hb.ex.os.trans h.os, hb.ex.tape.trans h.tape, hb.ex.output.trans h.output, pM.trans h.drawn hb.ex.drawn, Nat.le_trans h.size hb.ex.size, fun b hlt hF => ?_, fun b o ho => ?_, fun b o ho => ?_, ?_⟩
  · rw [hb.ex.old b (Nat.lt_of_lt_of_le hlt h.size) (fun hkb => by
      rcases (hk b hkb).2.2 with h | h
      · omega
      · exact hF h)]
    exact h.old b hlt hF
  · unfold wL at ho
    split at ho
    · rename_i hlt
      rw [hb.ex.old b hlt (fun hkb => by rw [(hk b hkb).2.1] at ho; cases ho)]
      exact h.mem b o ho
    · split at ho
      · cases ho
      · exact ho
  · rcases List.mem_append.1 ho with ho | ho
    · obtain ⟨h1, h2⟩ := hb.held b o ho
      refine ⟨h1, ?_, ?_⟩
      · unfold wL
        split
        · rename_i hlt
          rcases h2 with h2 | h2
          · omega
          · exact (hk b h2).2.1
        · rw [if_pos ⟨o, ho⟩]
      · rcases h2 with h2 | h2
        · exact .inl (Nat.le_trans h.size h2)
        · exact (hk b h2).2.2
    · obtain ⟨h1, h2, h3⟩ := h.box b o (List.mem_append_right _ ho)
      refine ⟨?_, ?_, h3⟩
      · rw [hb.ex.old b (iB h1) (Ab h.nd ho)]; exact h1
      · unfold wL; rw [if_pos (iB h1)]; exact h2
  · rw [List.map_append]
    have hL : (L.map (·.1)).Nodup := by have := h.nd; rw [List.map_append] at this; exact (List.nodup_append.1 this).2.1
    refine List.nodup_append.2 ⟨hb.nd, hL, fun a ha c hc e => ?_⟩
    subst e
    obtain ⟨⟨b, o⟩, ho, rfl⟩ := List.mem_map.1 ha
    obtain ⟨⟨b', o'⟩, ho', e⟩ := List.mem_map.1 hc
    simp at e; subst e
    have hlt := h.box_lt (List.mem_append_right _ ho')
    rcases (hb.held b' o ho).2 with h2 | h2
    · omega
    · exact Ab h.nd ho' h2
theorem ST.lo_growX (h : ST dd F w W μ L) (W' : World) (L1 : List (Nat × Obj)) : Lo F w μ (wL μ W W' L1) := fun b hb _ => if_pos (Nat.lt_of_lt_of_le hb h.size)
theorem ST.growX_sub (h : ST dd F w W μ L) (W' : World) (L1 : List (Nat × Obj)) : bE μ (wL μ W W' L1) := fun b o hb => by
  unfold wL; rw [if_pos (h.mu_lt hb)]; exact hb
theorem ST.sub_hpx (h : ST dd F w W μ L) (hL : ∀ p, p ∈ L0 → p ∈ L) : bE μ (rp W L0) := fun b o hb => by
  unfold rp
  rw [if_neg]
  · exact h.mem b o hb
  · rintro ⟨o', ho⟩
    rw [(h.box b o' (hL _ ho)).2.1] at hb
    cases hb
theorem rc.of_ex (h : Ex dd w W) (hh : ∀ b o, (b, o) ∈ L1 → W.heap[b]? = some o ∧ w.heap.size ≤ b) (hn : (L1.map (·.1)).Nodup) : rc dd [] L1 w W :=
  ⟨⟨h.os, h.tape, h.output, h.drawn, h.size, fun b hb _ => h.old b hb⟩, fun b o hb => ⟨(hh b o hb).1, .inl (hh b o hb).2⟩, hn⟩
end
def eB (dd : Bool) (P : Program) (f : FuncId) (args : List Value) (w : World) (L0 : List (Nat × Obj)) (K : Value → List (Nat × Obj) → World → Prop) : Prop :=
  Calls P f args.toArray w fun e w' => ∃ v L1, e = .returned v ∧ rc dd L0 L1 w w' ∧ K v L1 w'
def gQ (dd : Bool) {α : Type} (P : Program) (f : FuncId) (args : List Value) (w : World) (e : TypeId) (enc : α → List Value) (k : Nat) (l : List α) : Prop :=
  eB dd P f args w [] fun v R _ => bI e enc k v l R
theorem rc.weak {L0 L1 : List (Nat × Obj)} {w w' : World} (h : rc true L0 L1 w w') : rc dd L0 L1 w w' := ⟨⟨h.ex.os, h.ex.tape, h.ex.output, pM.of (h.ex.drawn rfl), h.ex.size, h.ex.old⟩, h.held, h.nd⟩
theorem bO.weak {P : Program} {f : FuncId} {args : List Value} {w : World} {v : Value} (h : bO true P f args w v) : bO dd P f args w v := Calls.mono h fun _ _ h => ⟨h.1, h.2.weak⟩
theorem eB.weak {P : Program} {f : FuncId} {args : List Value} {w : World} {L0 : List (Nat × Obj)} {K : Value → List (Nat × Obj) → World → Prop} (h : eB true P f args w L0 K) : eB dd P f args w L0 K := Calls.mono h fun _ _ ⟨v, L1, h1, h2, h3⟩ => ⟨v, L1, h1, h2.weak, h3⟩
theorem gQ.weak {α : Type} {P : Program} {f : FuncId} {args : List Value} {w : World} {e : TypeId} {enc : α → List Value} {k : Nat} {l : List α} (h : gQ true P f args w e enc k l) : gQ dd P f args w e enc k l := eB.weak h
section
variable {P : Program} {E : Nat → Value} {W : World} {d : Option Nat} {ty : TypeId} {pos : String} {af : Array Edge} {g : Option (Nat × Bool)}
  {F : Nat → Prop} {w : World} {μ : bD} {L : List (Nat × Obj)}
theorem HE {K : Value → World → Prop} {K' : Value → List (Nat × Obj) → World → Prop} {f : FuncId} {fv : Operand} {ax : Array Operand} {ats : Array TypeId} {caps : Array Value} {args : List Value} (L0 L2 : List (Nat × Obj)) (hST : ST dd F w W μ L) (hL : L.Perm (L0 ++ L2))
    (hf : aS E fv = .func (.func f) #[] caps) (he : ∀ args w, (callFunc f args).run P w = .ok (.enter f args) w) (ha : ax.map (aS E) ++ caps = args.toArray) (hc : eB dd P f args W L0 K')
    (h : ∀ W' v μ' L1, ST dd F w W' μ' (L1 ++ L2) → bE μ μ' → Lo F w μ μ' → K' v L1 W' → K v W') : gG P E ⟨d, .call ⟨.value fv, ax, ats⟩, ty, pos, af, g⟩ W K :=
  zJ hf he ha (Calls.mono hc (fun _ W' ⟨v, L1, h1, h2, h3⟩ => ⟨v, h1, h W' v _ L1 ((hST.perm hL).back h2) ((hST.perm hL).growX_sub W' L1) ((hST.perm hL).lo_growX W' L1) h3⟩))
theorem FU {K : Value → World → Prop} {α : Type} {e : TypeId} {enc : α → List Value} {k : Nat} {l : List α} {f : FuncId} {fv : Operand} {ax : Array Operand} {ats : Array TypeId} {caps : Array Value} {args : List Value} (X Y : List (Nat × Obj)) (hST : ST dd F w W μ (X ++ Y))
    (hf : aS E fv = .func (.func f) #[] caps) (he : ∀ args w, (callFunc f args).run P w = .ok (.enter f args) w) (ha : ax.map (aS E) ++ caps = args.toArray) (hc : gQ dd P f args W e enc k l)
    (h : ∀ W' v μ' R, ST dd F w W' μ' (X ++ (R ++ Y)) → bE μ μ' → Lo F w μ μ' → bI e enc k v l R → K v W') : gG P E ⟨d, .call ⟨.value fv, ax, ats⟩, ty, pos, af, g⟩ W K :=
  HE [] (X ++ Y) hST (.refl _) hf he ha hc (fun W' v μ' L1 h1 h2 h4 h3 => h W' v μ' L1 (h1.perm (by rw [← List.append_assoc, ← List.append_assoc]; exact List.perm_append_comm.append_right Y)) h2 h4 h3)
end
theorem ST.backRow {w W : World} {μ : bD} {L R : List (Nat × Obj)} (h : ST dd dC w W μ L) (hR : ∀ p, p ∈ R → p ∈ L) (hn : (R.map (·.1)).Nodup) : rc dd [] R w W :=
  rc.of_ex h.ex (fun b o hb => ⟨(h.box b o (hR _ hb)).1, by
    rcases (h.box b o (hR _ hb)).2.2 with h | h
    · exact h
    · exact h.elim⟩) hn
theorem nV {P : Program} {E : Nat → Value} {W : World} {d : Option Nat} {ty : TypeId} {pos : String} {af : Array Edge} {g : Option (Nat × Bool)} {α : Type} {e' : TypeId} {enc : α → List Value} {k : Nat} {v : Value} {l : List α} {R : List (Nat × Obj)} {x : Operand} {t e : TypeId} (ht : P.underlying t = some (.slice e)) (hx : aS E x = v) (h : bI e' enc k v l R) : dW P E ⟨d, .call ⟨.builtin .len, #[x], #[t]⟩, ty, pos, af, g⟩ W (.int .i64 l.length) W := by
  obtain ⟨A, c, rfl⟩ := h.form
  exact xP ht hx
section
variable {α : Type} {e : TypeId} {enc : α → List Value} {k : Nat} {v : Value} {l : List α} {R : List (Nat × Obj)}
theorem bI.nd (h : bI e enc k v l R) : (R.map (·.1)).Nodup := by
  rcases h with ⟨rfl, rfl, rfl⟩ | ⟨g, cap, cur, rfl, rfl, _⟩ <;> simp
end
end Go.Proofs.YtmlncblocfcmiaaGreat
namespace Go.Proofs.YtmlncblocfcmiaaGreat
open Go.RowKit
variable {dd : Bool}
def wl (R : List (Nat × Obj)) (k : Nat) (p : Value) (i : Nat) : Prop := ∃ g o, R = [(g, o)] ∧ p = .pointer (some ⟨g, i * k, none⟩)
section
variable {P : Program} {E : Nat → Value} {W : World} {d : Option Nat} {ty : TypeId} {pos : String} {af : Array Edge} {g : Option (Nat × Bool)}
  {F : Nat → Prop} {w : World} {μ : bD} {L : List (Nat × Obj)} {α : Type} {e' : TypeId} {enc : α → List Value} {k : Nat} {v : Value} {l : List α} {R : List (Nat × Obj)}
theorem lA {t e : TypeId} {x ix : Operand} {ik : IntKind} {i : Int} {x0 : α}
    (ht : P.underlying t = some (.slice e)) (he : ∀ w, (sizeOf e).run P w = .ok k w) (hx : aS E x = v) (hi : aS E ix = .int ik i) (h : bI e' enc k v l R) (h0 : 0 ≤ i) (hl : l[i.toNat]? = some x0) :
    ∃ p, wl R k p i.toNat ∧ ∀ W, dW P E ⟨d, .indexAddr t x ix, ty, pos, af, g⟩ W p W := by
  have hlt : i.toNat < l.length := (List.getElem?_eq_some_iff.1 hl).1
  rcases h with ⟨rfl, rfl, rfl⟩ | ⟨g', cap, cur, rfl, rfl, h1, h2, h3, h4⟩
  · simp at hlt
  refine ⟨.pointer (some ⟨g', i.toNat * k, none⟩), ⟨_, _, rfl, rfl⟩, fun W => ?_⟩
  show (do pure (.value (← Instr.indexAt t (aS E x) (aS E ix))) : Sem Next).run P W = _
  rw [hx, hi]
  have hb : 0 ≤ i ∧ i < (l.length : Int) := ⟨h0, by omega⟩
  simp [Instr.indexAt, asIntOf, run_underlying ht, he W, hb, Addr.add_lit]
theorem wu (h : bI e' enc k v l R) (hk : ∀ x, (enc x).length = k) {p : Value} {i : Nat} (hp : wl R k p i) {x0 : α} (hl : l[i]? = some x0) :
    ∃ g cur cap, R = [(g, .cells cur e' (0, 0))] ∧ v = .slice (some ⟨g, 0, none⟩) l.length cap ∧ l.length ≤ cap ∧ cap ≤ maxLen ∧ cur.size = cap * k ∧ cur.toList.take (l.length * k) = (l.map enc).flatten ∧ p = .pointer (some ⟨g, i * k, none⟩) ∧ ∀ j y, (enc x0)[j]? = some y → cur[i * k + j]? = some y := by
  have hlt : i < l.length := (List.getElem?_eq_some_iff.1 hl).1
  rcases h with ⟨rfl, rfl, rfl⟩ | ⟨g', cap, cur, rfl, rfl, h1, h2, h3, h4⟩
  · simp at hlt
  obtain ⟨g2, o, e1, rfl⟩ := hp
  cases e1
  refine ⟨g', cur, cap, rfl, rfl, h1, h2, h3, h4, rfl, fun j y hy => ?_⟩
  have := sx hk l i x0 hl j y hy
  rw [← h4] at this
  have hlt2 : i * k + j < l.length * k := by
    have := (List.getElem?_eq_some_iff.1 this).1
    simp at this; omega
  rw [List.getElem?_take_of_lt hlt2] at this
  simpa using this
theorem rh {A : List (Nat × Obj)} (hH : iA μ A W) (hA : ∀ q, q ∈ R → q ∈ A) (h : bI e' enc k v l R) (hk : ∀ x, (enc x).length = k) {p : Value} {i : Nat} (hp : wl R k p i) {x0 : α} (hl : l[i]? = some x0) {t : TypeId}
    (hG : ∀ w, (isAgg t).run P w = .ok true w) (hS : ∀ w, (sizeOf t).run P w = .ok k w) : (Instr.loadAt t p).run P W = .ok (.agg (enc x0).toArray) W := by
  obtain ⟨g', cur, cap, rfl, rfl, _, _, _, _, rfl, h5⟩ := wu h hk hp hl
  exact xa hG (enc x0) (by rw [hk]; exact hS) (hH.2 _ _ (hA _ (List.mem_singleton.2 rfl))) h5
theorem DE {A : List (Nat × Obj)} (hH : iA μ A W) (hA : ∀ q, q ∈ R → q ∈ A) (h : bI e' enc k v l R) (hk : ∀ x, (enc x).length = k) {p : Value} {i : Nat} (hp : wl R k p i) {x0 : α} (hl : l[i]? = some x0) {t : TypeId} {y : Value} (hy : enc x0 = [y])
    (hG : ∀ w, (isAgg t).run P w = .ok false w) : (Instr.loadAt t p).run P W = .ok y W := by
  obtain ⟨g', cur, cap, rfl, rfl, _, _, _, _, rfl, h5⟩ := wu h hk hp hl
  exact xd hG (hH.2 _ _ (hA _ (List.mem_singleton.2 rfl))) (h5 0 y (by rw [hy]; rfl))
theorem AO (hk : ∀ x, (enc x).length = k) : ∀ (l : List α) (i : Nat) (y : α), i < l.length → ((l.set i y).map enc).flatten = (l.map enc).flatten.take (i * k) ++ enc y ++ (l.map enc).flatten.drop (i * k + k)
  | [], i, y, h => by simp at h
  | z :: l, 0, y, h => by
    simp [hk]
  | z :: l, i + 1, y, h => by
    have := AO hk l i y (by simpa using h)
    simp only [List.set_cons_succ, List.map_cons, List.flatten_cons, this]
    have h1 : (i + 1) * k = (enc z).length + i * k := by rw [hk, Nat.add_mul]; omega
    rw [h1, List.take_length_add_append, Nat.add_assoc, List.drop_length_add_append]
    simp
theorem F5 {K : Value → World → Prop} (X : List (Nat × Obj)) {Y : List (Nat × Obj)} {t : TypeId} {x y : Operand} {p u : Value} {i : Nat} {x0 x1 : α} (hST : ST dd F w W μ (X ++ (R ++ Y))) (h : bI e' enc k v l R) (hk : ∀ x, (enc x).length = k) (h1 : ∀ x, ∀ u ∈ enc x, u.oneCell' = true)
    (hx : aS E x = p) (hy : aS E y = u) (hu : u.cells = (enc x1).toArray) (hp : wl R k p i) (hl : l[i]? = some x0) (hS : ∀ w, (sizeOf t).run P w = .ok k w)
    (hK : ∀ W' R', ST dd F w W' μ (X ++ (R' ++ Y)) → bI e' enc k v (l.set i x1) R' → K undef W') : gG P E ⟨d, .store t x y, ty, pos, af, g⟩ W K := by
  have hlt : i < l.length := (List.getElem?_eq_some_iff.1 hl).1
  obtain ⟨g', cur, cap, rfl, rfl, h2, h3, h4, h5, rfl, h6⟩ := wu h hk hp hl
  have hle : i * k + k ≤ cap * k := by
    have : (i + 1) * k ≤ cap * k := Nat.mul_le_mul_right _ (by omega)
    rwa [Nat.add_mul, Nat.one_mul] at this
  have hle2 : i * k + k ≤ l.length * k := by
    have : (i + 1) * k ≤ l.length * k := Nat.mul_le_mul_right _ (by omega)
    rwa [Nat.add_mul, Nat.one_mul] at this
  have hcl : u.cells.size = k := by rw [hu]; simp [hk]
  have hb := (hST.box g' (.cells cur e' (0, 0)) (by simp)).1
  have hlen : l.length * k ≤ cap * k := Nat.mul_le_mul_right _ h2
  refine .inr (.inl ⟨W.setRow g' (cur.toList.take (i * k) ++ (enc x1) ++ cur.toList.drop (i * k + k)).toArray, ?_, hK _ [(g', .cells (cur.toList.take (i * k) ++ (enc x1) ++ cur.toList.drop (i * k + k)).toArray e' (0, 0))] (hST.store _) (.inr ⟨g', cap, _, by simp, rfl, by simpa using h2, h3, ?_, ?_⟩)⟩)
  · show (do Instr.storeAt t (aS E x) (aS E y); pure .skip : Sem Next).run P W = _
    rw [hx, hy]
    have := xU P (off := i * k) u (by rw [hcl]; exact hS) (by rw [hu]; simpa using h1 x1) hb (by rw [hcl, h4]; exact hle)
    simp only [Sem.run_bind, this, Result.andThen_ok, Sem.run_pure, hcl]
    rw [hu]
  · show ((cur.toList.take (i * k) ++ (enc x1) ++ cur.toList.drop (i * k + k)).toArray).size = _
    have e0 : cur.toList.length = cap * k := by simpa using h4
    rw [List.size_toArray, List.length_append, List.length_append, List.length_take, List.length_drop, hk, e0, Nat.min_eq_left (by omega)]; omega
  · rw [List.length_set, AO hk l i x1 hlt, ← h5]
    have e1 : (cur.toList.take (l.length * k)).take (i * k) = cur.toList.take (i * k) := by rw [List.take_take]; congr 1; omega
    have e2 : (cur.toList.take (l.length * k)).drop (i * k + k) = (cur.toList.drop (i * k + k)).take (l.length * k - (i * k + k)) := by rw [List.drop_take]
    rw [e1, e2]
    show List.take (l.length * k) (cur.toList.take (i * k) ++ enc x1 ++ cur.toList.drop (i * k + k)) = _
    have e0 : cur.toList.length = cap * k := by simpa using h4
    have e3 : (cur.toList.take (i * k) ++ enc x1).length = i * k + k := by rw [List.length_append, List.length_take, hk, e0, Nat.min_eq_left (by omega)]
    rw [List.take_append, List.take_of_length_le (by rw [e3]; exact hle2), e3]
theorem zp (hk : ∀ x, (enc x).length = k) : ∀ (l : List α) (i : Nat), i ≤ l.length → ((l.take i).map enc).flatten = (l.map enc).flatten.take (i * k)
  | [], i, h => by simp
  | z :: l, 0, h => by simp
  | z :: l, i + 1, h => by
    have := zp hk l i (by simpa using h)
    simp only [List.take_succ_cons, List.map_cons, List.flatten_cons, this]
    rw [show (i + 1) * k = (enc z).length + i * k by rw [hk, Nat.add_mul]; omega, List.take_length_add_append]
theorem yO {t e : TypeId} {x ih : Operand} {ik : IntKind} {i : Int} (ht : P.underlying t = some (.slice e)) (he : ∀ w, (sizeOf e).run P w = .ok k w) (hx : aS E x = v) (hi : aS E ih = .int ik i) (h : bI e' enc k v l R) (hk : ∀ x, (enc x).length = k) (h0 : 0 ≤ i) (hl : i ≤ l.length) :
    ∃ v', bI e' enc k v' (l.take i.toNat) R ∧ ∀ W, dW P E ⟨d, .slice t x none (some ih) none, ty, pos, af, g⟩ W v' W := by
  have hlt : i.toNat ≤ l.length := by omega
  rcases h with ⟨rfl, rfl, rfl⟩ | ⟨g', cap, cur, rfl, rfl, h1, h2, h3, h4⟩
  · have : i = 0 := by simp at hl; omega
    subst this
    refine ⟨.slice none 0 0, .inl ⟨rfl, by simp, rfl⟩, fun W => ?_⟩
    show (do pure (.value (← Instr.sliceAt t (aS E x) none (some (aS E ih)) none)) : Sem Next).run P W = _
    rw [hx, hi]
    simp [Instr.sliceAt, Instr.slice, Instr.sliceBounds, Instr.sliceBound, asIntOf, run_underlying ht, he W]
  · refine ⟨.slice (some ⟨g', 0, none⟩) (l.take i.toNat).length cap, .inr ⟨g', cap, cur, rfl, rfl, by simp; omega, h2, h3, ?_⟩, fun W => ?_⟩
    · have e0 : (l.take i.toNat).length = i.toNat := by rw [List.length_take]; omega
      have hle : i.toNat * k ≤ l.length * k := Nat.mul_le_mul_right _ hlt
      rw [e0, zp hk l i.toNat hlt, ← h4, List.take_take, Nat.min_eq_left hle]
    · show (do pure (.value (← Instr.sliceAt t (aS E x) none (some (aS E ih)) none)) : Sem Next).run P W = _
      rw [hx, hi]
      have hb : 0 ≤ i ∧ i ≤ (cap : Int) := ⟨h0, by omega⟩
      simp [Instr.sliceAt, Instr.slice, Instr.sliceBounds, Instr.sliceBound, asIntOf, run_underlying ht, he W, hb, Addr.add_lit]
      omega
theorem Ai {Rp : jX α} {t e : TypeId} {x il : Operand} {ik : IntKind} {i : Int} (ht : P.underlying t = some (.slice e)) (he : ∀ w, (sizeOf e).run P w = .ok k w) (hx : aS E x = v) (hi : aS E il = .int ik i) (h : Sl Rp k μ v l) (h0 : 0 ≤ i) (hl : i ≤ l.length) :
    ∃ v', (Sl Rp k μ v' (l.drop i.toNat) ∧ ∀ B, Fr B v → Fr B v') ∧ ∀ W, dW P E ⟨d, .slice t x (some il) none none, ty, pos, af, g⟩ W v' W := by
  obtain ⟨A, c, rfl, h2, h3, h4⟩ := h
  have hlt : i.toNat ≤ l.length := by omega
  refine ⟨.slice (if c = i.toNat then A else A.map (·.add (i.toNat * k))) (l.drop i.toNat).length (c - i.toNat), ⟨⟨_, _, rfl, by simp; omega, by omega, fun hp => ?_⟩, fun B hF b hb => ?_⟩, fun W => ?_⟩
  · have hp' : i.toNat < l.length := by simp at hp; omega
    obtain ⟨b, off, cs, T, fr, rfl, h6, h7⟩ := h4 (by omega)
    refine ⟨b, off + i.toNat * k, cs, T, fr, ?_, h6, fun j x hx => ?_⟩
    · rw [if_neg (by omega)]; simp [Addr.add_lit]
    · rw [List.getElem?_drop] at hx
      obtain ⟨ys, h8, h9, h10⟩ := h7 _ x hx
      refine ⟨ys, h8, h9, fun q y hy => ?_⟩
      have := h10 q y hy
      rw [Nat.add_mul] at this
      rw [show off + i.toNat * k + j * k + q = off + (i.toNat * k + j * k) + q by omega]
      exact this
  · refine hF b ?_
    cases A with
    | none => simp [Value.ownBlock] at hb
    | some a =>
      split at hb
      · exact hb
      · obtain ⟨b', o', s'⟩ := a
        cases s' <;> simp [Value.ownBlock, Addr.add] at hb ⊢ <;> split at hb <;> exact hb
  · show (do pure (.value (← Instr.sliceAt t (aS E x) (some (aS E il)) none none)) : Sem Next).run P W = _
    rw [hx, hi]
    have hb : 0 ≤ i ∧ i ≤ (l.length : Int) := ⟨h0, hl⟩
    simp [Instr.sliceAt, Instr.slice, Instr.sliceBounds, Instr.sliceBound, asIntOf, run_underlying ht, he W, hb]
end
end Go.Proofs.YtmlncblocfcmiaaGreat
namespace Go.Proofs.YtmlncblocfcmiaaGreat
open Go.RowKit
variable {dd : Bool}
section
variable {α : Type} {e : TypeId} {enc : α → List Value} {k : Nat} {v : Value} {l : List α} {R : List (Nat × Obj)} {μ : bD}
theorem bI.one (h : bI e enc k v l R) : v.oneCell' = true := by obtain ⟨A, c, rfl⟩ := h.form; rfl
theorem Sl.one {Rp : jX α} (h : Sl Rp k μ v l) : v.oneCell' = true := by obtain ⟨A, c, rfl⟩ := h.form; rfl
theorem Sl.isNil {Rp : jX α} {n c : Nat} (h : Sl Rp k μ (.slice none n c) l) : l = [] := by
  obtain ⟨A, c', h1, h2, h3, h4⟩ := h
  cases h1
  rcases Nat.eq_zero_or_pos l.length with h0 | h0
  · exact List.length_eq_zero_iff.1 h0
  · obtain ⟨b, off, cs, T, fr, h5, _⟩ := h4 h0
    cases h5
theorem bI.isNil {n c : Nat} (h : bI e enc k (.slice none n c) l R) : l = [] := by
  rcases h with ⟨h1, rfl, rfl⟩ | ⟨g, cap, cur, h1, _⟩
  · rfl
  · cases h1
theorem ST.backL {w W : World} {μ : bD} {L1 L2 : List (Nat × Obj)} (h : ST dd dC w W μ (L1 ++ L2)) : rc dd [] L1 w W :=
  rc.of_ex h.ex (fun b o hb => ⟨(h.box b o (List.mem_append_left _ hb)).1, by
    rcases (h.box b o (List.mem_append_left _ hb)).2.2 with h | h
    · exact h
    · exact h.elim⟩) (by have := h.nd; rw [List.map_append] at this; exact (List.nodup_append.1 this).1)
theorem ST.backM {w W : World} {μ : bD} {L0 L1 L2 : List (Nat × Obj)} (h : ST dd (keys L0) w W μ (L1 ++ L2)) : rc dd L0 L1 w W :=
  ⟨⟨h.os, h.tape, h.output, h.drawn, h.size, h.old⟩, fun b o hb => ⟨(h.box b o (List.mem_append_left _ hb)).1, (h.box b o (List.mem_append_left _ hb)).2.2⟩, by have := h.nd; rw [List.map_append] at this; exact (List.nodup_append.1 this).1⟩
end
end Go.Proofs.YtmlncblocfcmiaaGreat
namespace Go.Proofs.YtmlncblocfcmiaaGreat
open Go.RowKit
variable {dd : Bool}
def cH {κ β : Type} (beq : κ → κ → Bool) (l : List (κ × β)) (k : κ) : Option β := (l.find? (fun p => beq k p.1)).map (·.2)
def iG {κ β : Type} (beq : κ → κ → Bool) (l : List (κ × β)) (k : κ) (v : β) : List (κ × β) :=
  match l.findIdx? (fun p => beq k p.1) with
  | some i => l.set i (k, v)
  | none => l ++ [(k, v)]
structure qH {κ β : Type} (kenc : κ → Value) (vf : β → Value) (l : List (κ × β)) (es : Array MapEntry) (clock : Nat) : Prop where
  pairs : es.toList.map (fun e => (e.key, e.val)) = l.map (fun p => (kenc p.1, vf p.2))
  born : es.toList.Pairwise (fun a b => a.born < b.born)
  lt : ∀ e ∈ es.toList, e.born < clock
def dS {κ β : Type} (kenc : κ → Value) (vf : β → Value) (v : Value) (l : List (κ × β)) (R : List (Nat × Obj)) : Prop :=
  ∃ m es clock, v = .map (some m) ∧ R = [(m, .map es clock)] ∧ qH kenc vf l es clock
def rl {κ β : Type} (kenc : κ → Value) (vf : β → Value) (μ : bD) (v : Value) (l : List (κ × β)) : Prop :=
  (v = .map none ∧ l = []) ∨ ∃ m es clock, v = .map (some m) ∧ μ m = some (.map es clock) ∧ qH kenc vf l es clock
theorem rl.mono {κ β : Type} {kenc : κ → Value} {vf : β → Value} {μ μ' : bD} {v : Value} {l : List (κ × β)} (h : rl kenc vf μ v l) (hs : bE μ μ') : rl kenc vf μ' v l := by
  rcases h with h | ⟨m, es, clock, h1, h2, h3⟩
  · exact .inl h
  · exact .inr ⟨m, es, clock, h1, hs _ _ h2, h3⟩
theorem dS.at {κ β : Type} {kenc : κ → Value} {vf : β → Value} {μ : bD} {v : Value} {l : List (κ × β)} {R : List (Nat × Obj)} (h : dS kenc vf v l R) (hR : ∀ b o, (b, o) ∈ R → μ b = some o) : rl kenc vf μ v l := by
  obtain ⟨m, es, clock, rfl, rfl, h3⟩ := h
  exact .inr ⟨m, es, clock, rfl, hR _ _ (List.mem_singleton.2 rfl), h3⟩
structure jE {κ : Type} (P : Program) (kt : TypeId) (kenc : κ → Value) (beq : κ → κ → Bool) : Prop where
  check : ∀ b k W, (Instr.checkKey b 10000 kt (kenc k)).run P W = .ok () W
  find : ∀ (k : κ) (l : List κ) (es : List MapEntry), es.map (·.key) = l.map kenc → ∀ W, (Instr.findKey kt (kenc k) es).run P W = .ok ((l.findIdx? (fun x => beq k x)).bind fun i => (es[i]?).map fun e => (i, e.val)) W
  eq : ∀ k x, beq k x = true → kenc x = kenc k
  bits : ∀ k, Instr.sameBits 10000 (kenc k) (kenc k) = true
section
variable {P : Program} {W : World} {κ : Type} {kt : TypeId} {kenc : κ → Value} {beq : κ → κ → Bool}
theorem xN (hq : ∀ x y W, (Op.equal kt (kenc x) (kenc y)).run P W = .ok (beq x y) W) (k : κ) : ∀ (l : List κ) (es : List MapEntry) (i : Nat), es.map (·.key) = l.map kenc →
    (Instr.findAsking kt (kenc k) es i).run P W = .ok ((l.findIdx? (fun x => beq k x)).bind fun j => (es[j]?).map fun e => (i + j, e.val)) W
  | [], [], i, h => by simp [Instr.findAsking]
  | [], _ :: _, i, h => by simp at h
  | _ :: _, [], i, h => by simp at h
  | x :: l, e :: es, i, h => by
    simp only [List.map_cons, List.cons.injEq] at h
    obtain ⟨h1, h2⟩ := h
    simp only [Instr.findAsking, Sem.run_bind, h1, hq, Result.andThen_ok, List.findIdx?_cons]
    cases hb : beq k x with
    | true => simp
    | false =>
      simp only [Bool.false_eq_true, if_false]
      rw [xN hq k l es (i + 1) h2]
      cases l.findIdx? (fun x => beq k x) with
      | none => rfl
      | some j => simp [Nat.add_assoc, Nat.add_comm 1 j]
theorem Ev {kind : TypeDesc} (hk : ∀ a b, Instr.sameNow kind (.agg a) b = none) (a : Array Value) : ∀ (es : List MapEntry) (i : Nat), Instr.findNow kind (.agg a) es i = if es = [] then some none else none
  | [], i => by simp [Instr.findNow]
  | e :: es, i => by simp [Instr.findNow, hk]
theorem jE.struct {enc : κ → List Value} {fs : Array Field} (ht : P.underlying kt = some (.struct fs)) (hq : ∀ d x y W, (Op.equalIn (d + 10) kt (.agg (enc x).toArray) (.agg (enc y).toArray)).run P W = .ok (beq x y) W)
    (hc : ∀ b k W, (Instr.checkKey b 10000 kt (.agg (enc k).toArray)).run P W = .ok () W) (he : ∀ k x, beq k x = true → x = k) (hb : ∀ k, Instr.sameBits 10000 (.agg (enc k).toArray) (.agg (enc k).toArray) = true) : jE P kt (fun x => .agg (enc x).toArray) beq where
  check := hc
  find := fun k l es h W => by
    have hq' : ∀ x y W, (Op.equal kt (.agg (enc x).toArray) (.agg (enc y).toArray)).run P W = .ok (beq x y) W := fun x y W => hq 9990 x y W
    simp only [Instr.findKey, Sem.run_bind, run_underlying ht, Result.andThen_ok]
    rw [Ev (fun a b => by cases b <;> rfl)]
    by_cases h0 : es = []
    · subst h0
      have : l = [] := by simpa using h.symm
      subst this
      simp
    · rw [if_neg h0]
      dsimp only
      rw [show Instr.findAsking kt (.agg (enc k).toArray) es = Instr.findAsking kt (.agg (enc k).toArray) es 0 from rfl, xN hq' k l es 0 h]
      simp
  eq := fun k x h => by rw [he k x h]
  bits := hb
theorem eP {a b : ByteArray} : cQ a b = true ↔ a = b := by
  unfold cQ
  rw [ByteArray.toList_eq, ByteArray.toList_eq]
  constructor
  · intro h
    have h1 : a.data.toList = b.data.toList := by simpa using h
    exact ByteArray.ext (Array.toList_inj.1 h1)
  · rintro rfl
    simp
theorem zh (a b : ByteArray) : (a == b) = cQ a b := by
  rw [Bool.eq_iff_iff, eP]
  constructor
  · intro h
    have h1 : (a.data == b.data) = true := h
    exact ByteArray.ext (by simpa using h1)
  · rintro rfl
    show (a.data == a.data) = true
    simp
theorem xO (k : ByteArray) : ∀ (l : List ByteArray) (es : List MapEntry) (i : Nat), es.map (·.key) = l.map Value.string →
    Instr.findNow .string (.string k) es i = some ((l.findIdx? (fun x => cQ k x)).bind fun j => (es[j]?).map fun e => (i + j, e.val))
  | [], [], i, h => by simp [Instr.findNow]
  | [], _ :: _, i, h => by simp at h
  | _ :: _, [], i, h => by simp at h
  | x :: l, e :: es, i, h => by
    simp only [List.map_cons, List.cons.injEq] at h
    obtain ⟨h1, h2⟩ := h
    simp only [Instr.findNow, h1, Instr.sameNow, zh, List.findIdx?_cons]
    cases hb : cQ k x with
    | true => simp
    | false =>
      simp only [Bool.false_eq_true, if_false]
      rw [xO k l es (i + 1) h2]
      cases l.findIdx? (fun x => cQ k x) with
      | none => rfl
      | some j => simp [Nat.add_assoc, Nat.add_comm 1 j]
theorem uu (ht : P.underlying kt = some .string) (n : Nat) (b : Bool) (k : ByteArray) (W : World) : (Instr.checkKey b (n + 1) kt (.string k)).run P W = .ok () W := by
  simp [Instr.checkKey, run_underlying ht]
theorem jE.string (ht : P.underlying kt = some .string) : jE P kt Value.string cQ where
  check := fun b k W => uu ht 9999 b k W
  find := fun k l es h W => by
    simp only [Instr.findKey, Sem.run_bind, run_underlying ht, Result.andThen_ok]
    have := xO k l es 0 h
    rw [this]
    simp
  eq := fun k x h => by rw [eP.1 h]
  bits := fun k => by simp only [Instr.sameBits]; rw [zh]; exact eP.2 rfl
variable {β : Type} {vf : β → Value} {E : Nat → Value} {d : Option Nat} {ty : TypeId} {pos : String} {af : Array Edge} {g : Option (Nat × Bool)} {F : Nat → Prop} {w : World} {μ : bD} {L : List (Nat × Obj)}
theorem qH.keys {l : List (κ × β)} {es : Array MapEntry} {clock : Nat} (h : qH kenc vf l es clock) : es.toList.map (·.key) = (l.map (·.1)).map kenc := by
  have := congrArg (List.map Prod.fst) h.pairs
  simpa [Function.comp_def] using this
theorem qH.length {l : List (κ × β)} {es : Array MapEntry} {clock : Nat} (h : qH kenc vf l es clock) : es.size = l.length := by
  have := congrArg List.length h.pairs
  simpa using this
theorem qH.get {l : List (κ × β)} {es : Array MapEntry} {clock : Nat} (h : qH kenc vf l es clock) (k : κ) :
    (((l.map (·.1)).findIdx? (fun x => beq k x)).bind fun i => (es.toList[i]?).map fun e => (i, e.val)) = (l.findIdx? (fun p => beq k p.1)).bind fun i => (l[i]?).map fun p => (i, vf p.2) := by
  rw [List.findIdx?_map]
  show ((l.findIdx? (fun p => beq k p.1)).bind _) = _
  congr 1
  funext i
  have := congrArg (fun q => q[i]?) h.pairs
  simp only [List.getElem?_map] at this
  cases h1 : es.toList[i]? with
  | none => rw [h1] at this; cases h2 : l[i]? with
    | none => rfl
    | some p => rw [h2] at this; cases this
  | some e => rw [h1] at this; cases h2 : l[i]? with
    | none => rw [h2] at this; cases this
    | some p => rw [h2] at this; simp at this; simp [this.2]
theorem qC (l : List (κ × β)) (k : κ) : cH beq l k = (l.findIdx? (fun p => beq k p.1)).bind fun i => (l[i]?).map (·.2) := by
  induction l with
  | nil => rfl
  | cons p l ih =>
    simp only [cH, List.find?_cons, List.findIdx?_cons] at ih ⊢
    cases beq k p.1 with
    | true => rfl
    | false =>
      simp only [Bool.false_eq_true, if_false]
      rw [ih]
      cases l.findIdx? (fun p => beq k p.1) <;> simp
theorem Em {t e : TypeId} {m x : Operand} {mv z : Value} {l : List (κ × β)} {k : κ} (K : jE P kt kenc beq) (ht : P.underlying t = some (.map kt e)) (hz : ∀ w, (zeroValue e).run P w = .ok z w) (hm : aS E m = mv) (hx : aS E x = kenc k) (hM : rl kenc vf (hp W) mv l) :
    dW P E ⟨d, .lookup t m x false, ty, pos, af, g⟩ W (((cH beq l k).map vf).getD z) W := by
  show (do pure (.value (← Instr.lookup t (aS E m) (aS E x) false)) : Sem Next).run P W = _
  rw [hm, hx]
  rcases hM with ⟨rfl, rfl⟩ | ⟨mb, es, clock, rfl, hb, h3⟩
  · have := K.find k [] [] rfl W
    simp [Instr.lookup, run_underlying ht, K.check, this, hz W, cH]
  · have hb' : W.heap[mb]? = some (.map es clock) := hb
    have h5 : ((getObj mb : Sem Obj)).run P W = .ok (.map es clock) W := by simp [getObj, Sem.run, hb']
    have h6 := K.find k _ _ h3.keys W
    rw [h3.get k] at h6
    simp only [Instr.lookup, Sem.run_bind, run_underlying ht, Result.andThen_ok, h5, Sem.run_pure, K.check, h6, qC]
    cases h7 : l.findIdx? (fun p => beq k p.1) with
    | none => simp [hz W]
    | some i =>
      cases h8 : l[i]? with
      | none => simp [h8, hz W]
      | some p => simp [h8]
theorem kY {l : List (κ × β)} {k : κ} {i : Nat} (h : l.findIdx? (fun p => beq k p.1) = some i) : ∃ p, l[i]? = some p ∧ beq k p.1 = true := by
  rw [List.findIdx?_eq_some_iff_getElem] at h
  obtain ⟨h1, h2, _⟩ := h
  exact ⟨l[i], List.getElem?_eq_getElem h1, h2⟩
theorem qH.put {l : List (κ × β)} {es : Array MapEntry} {clock : Nat} (h : qH kenc vf l es clock) (k : κ) (v : β) :
    match l.findIdx? (fun p => beq k p.1) with
    | some i => qH kenc vf (l.set i (k, v)) (es.modify i fun e => { e with key := kenc k, val := vf v }) clock
    | none => qH kenc vf (l ++ [(k, v)]) (es.push { key := kenc k, val := vf v, born := clock }) (clock + 1) := by
  cases h7 : l.findIdx? (fun p => beq k p.1) with
  | none =>
    refine ⟨?_, ?_, ?_⟩
    · simp [h.pairs]
    · simp only [Array.toList_push, List.pairwise_append]
      exact ⟨h.born, by simp, fun a ha b hb => by simp at hb; subst hb; exact h.lt a ha⟩
    · intro e he
      simp at he
      rcases he with he | rfl
      · exact Nat.lt_succ_of_lt (h.lt e (by simpa using he))
      · exact Nat.lt_succ_self _
  | some i =>
    obtain ⟨p, hp, _⟩ := kY h7
    have hi : i < l.length := (List.getElem?_eq_some_iff.1 hp).1
    have hborn : (es.modify i fun e => { e with key := kenc k, val := vf v }).toList.map (·.born) = es.toList.map (·.born) := by
      apply List.ext_getElem?
      intro j
      simp only [List.getElem?_map, Array.getElem?_toList, Array.getElem?_modify]
      split
      · cases es[j]? <;> simp
      · rfl
    refine ⟨?_, ?_, ?_⟩
    · apply List.ext_getElem?
      intro j
      have hj := congrArg (fun q => q[j]?) h.pairs
      simp only [List.getElem?_map, Array.getElem?_toList] at hj
      simp only [List.getElem?_map, Array.getElem?_toList, Array.getElem?_modify, List.getElem?_set]
      by_cases hij : i = j
      · subst hij
        simp only [if_true]
        rw [if_pos hi]
        cases h8 : es[i]? with
        | none => rw [h8, hp] at hj; cases hj
        | some e => rfl
      · rw [if_neg hij, if_neg hij]; exact hj
    · have := h.born
      rw [← List.pairwise_map (f := fun e : MapEntry => e.born) (R := (· < ·))] at this ⊢
      rw [hborn]; exact this
    · intro e he
      have : e.born ∈ es.toList.map (·.born) := by rw [← hborn]; exact List.mem_map.2 ⟨e, he, rfl⟩
      obtain ⟨e', he', h9⟩ := List.mem_map.1 this
      rw [← h9]; exact h.lt e' he'
theorem ur {W : World} {r : Nat} {es : Array MapEntry} {c : Nat} (hr : W.heap[r]? = some (.map es c)) (o' : Obj) : (setObj r o').run P W = .ok () (ChangeMaps.setBlock W r o') := by
  simp [setObj, Sem.run, hr, ChangeMaps.setBlock]
theorem ST.setBlock {A B : List (Nat × Obj)} {b : Nat} {o : Obj} (h : ST dd F w W μ (A ++ (b, o) :: B)) (o' : Obj) : ST dd F w (ChangeMaps.setBlock W b o') μ (A ++ (b, o') :: B) := by
  have hb := (h.box b o (by simp)).1
  have hlt := iB hb
  refine h.put ⟨rfl, rfl, rfl, Nat.le_refl _, by simp [ChangeMaps.setBlock]⟩ (fun k hk => ?_) ?_
  · simp only [ChangeMaps.setBlock]
    rw [Array.getElem?_setIfInBounds_ne (fun e => hk e.symm)]
  · simp only [ChangeMaps.setBlock]
    rw [Array.getElem?_setIfInBounds_self_of_lt hlt]
theorem xi {Kk : Value → World → Prop} (X : List (Nat × Obj)) {Y R : List (Nat × Obj)} {t e : TypeId} {m x y : Operand} {mv : Value} {l : List (κ × β)} {k : κ} {v : β} (K : jE P kt kenc beq) (ht : P.underlying t = some (.map kt e)) (hST : ST dd F w W μ (X ++ (R ++ Y))) (h : dS kenc vf mv l R)
    (hm : aS E m = mv) (hx : aS E x = kenc k) (hy : aS E y = vf v) (hK : ∀ W' R', ST dd F w W' μ (X ++ (R' ++ Y)) → dS kenc vf mv (iG beq l k v) R' → Kk undef W') : gG P E ⟨d, .mapUpdate t m x y, ty, pos, af, g⟩ W Kk := by
  obtain ⟨mb, es, clock, rfl, rfl, h3⟩ := h
  have hb : W.heap[mb]? = some (.map es clock) := (hST.box mb (.map es clock) (by simp)).1
  have h5 : ((getObj mb : Sem Obj)).run P W = .ok (.map es clock) W := by simp [getObj, Sem.run, hb]
  have h6 := K.find k _ _ h3.keys W
  rw [h3.get k] at h6
  have hput := h3.put (beq := beq) k v
  have hrun : ∀ W', (Instr.mapUpdate t (.map (some mb)) (kenc k) (vf v)).run P W = .ok () W' → (execOp (aS E) ⟨d, .mapUpdate t m x y, ty, pos, af, g⟩).run P W = .ok .skip W' := by
    intro W' hr
    show (do Instr.mapUpdate t (aS E m) (aS E x) (aS E y); pure .skip : Sem Next).run P W = _
    rw [hm, hx, hy]
    simp [hr]
  cases h7 : l.findIdx? (fun p => beq k p.1) with
  | none =>
    rw [h7] at h6 hput
    refine .inr (.inl ⟨ChangeMaps.setBlock W mb (.map (es.push { key := kenc k, val := vf v, born := clock }) (clock + 1)), hrun _ ?_, hK _ [(mb, _)] (hST.setBlock _) ⟨mb, _, _, rfl, rfl, ?_⟩⟩)
    · simp [Instr.mapUpdate, run_underlying ht, h5, K.check, h6, ur hb]
    · rw [iG, h7]; exact hput
  | some i =>
    obtain ⟨p, hp, hbq⟩ := kY h7
    rw [h7] at h6 hput
    simp only [Option.bind_some, hp, Option.map_some] at h6
    have hkey : ((es[i]?).map (·.key)).getD (kenc k) = kenc k := by
      have := congrArg (fun q => q[i]?) h3.keys
      simp only [List.getElem?_map, hp, Option.map_some, Array.getElem?_toList] at this
      rw [this]
      simp [K.eq k p.1 hbq]
    refine .inr (.inl ⟨ChangeMaps.setBlock W mb (.map (es.modify i fun e => { e with key := kenc k, val := vf v }) clock), hrun _ ?_, hK _ [(mb, _)] (hST.setBlock _) ⟨mb, _, _, rfl, rfl, ?_⟩⟩)
    · simp only [Instr.mapUpdate, Sem.run_bind, run_underlying ht, h5, K.check, h6, Result.andThen_ok, hkey, Instr.keyThatStays, K.bits, if_true, Sem.run_pure]
      exact ur hb _
    · rw [iG, h7]; exact hput
theorem Cw {Kk : Value → World → Prop} {t : TypeId} (kenc : κ → Value) (vf : β → Value) (hST : ST dd F w W μ L) (hK : ∀ W' v R, ST dd F w W' μ (R ++ L) → dS kenc vf v [] R → Kk v W') : gG P E ⟨d, .makeMap t none, ty, pos, af, g⟩ W Kk :=
  .inl ⟨.map (some W.heap.size), W.alloc (.map #[] 0), by
      show (do pure (.value (← Instr.makeMap t none)) : Sem Next).run P W = _
      simp [Instr.makeMap, newObj, Sem.run], hK _ _ [(W.heap.size, .map #[] 0)] (hST.alloc _) ⟨_, _, _, rfl, rfl, ⟨rfl, by simp, by simp⟩⟩⟩
end
end Go.Proofs.YtmlncblocfcmiaaGreat
namespace Go.Proofs.YtmlncblocfcmiaaGreat
open Go.RowKit
variable {dd : Bool}
open Classical in
noncomputable def yQ {α β : Type} (l : List α) (f : List α → Option β) : Option β :=
  if h : ∃ r, ∀ o, o.Perm l → f o = some r then some h.choose else none
theorem Bp {α β : Type} {l : List α} {f : List α → Option β} {r : β} (h : ∀ o, o.Perm l → f o = some r) : yQ l f = some r := by
  have hx : ∃ r, ∀ o, o.Perm l → f o = some r := ⟨r, h⟩
  unfold yQ
  rw [dif_pos hx]
  have h1 := hx.choose_spec l (.refl l)
  rw [h l (.refl l)] at h1
  exact h1.symm
end Go.Proofs.YtmlncblocfcmiaaGreat
namespace Go.Proofs.YtmlncblocfcmiaaGreat
open Go.RowKit
variable {dd : Bool}
def Kz {α β : Type} (P : Program) (fv : Value) (μ : bD) (av : α → List Value) (rv : β → Value) (pm : α → Option β) : Prop :=
  ∃ f caps, fv = .func (.func f) #[] caps ∧ (∀ args w, (callFunc f args).run P w = .ok (.enter f args) w) ∧ ∀ W x r, bE μ (hp W) → pm x = some r → bO true P f (av x ++ caps.toList) W (rv r)
def uE {α β : Type} (P : Program) (fv : Value) (μ : bD) (av : α → List Value) (rv : β → Value) (pm : α → Option β) : Prop :=
  ∃ f first caps, fv = .func (.func f) first caps ∧ (∀ args w, (callFunc f args).run P w = .ok (.enter f args) w) ∧ ∀ W x r, bE μ (hp W) → pm x = some r → bO false P f (first.toList ++ (av x ++ caps.toList)) W (rv r)
theorem uE.form {α β : Type} {P : Program} {fv : Value} {μ : bD} {av : α → List Value} {rv : β → Value} {pm : α → Option β} (h : uE P fv μ av rv pm) : ∃ f a b, fv = .func f a b := let ⟨f, a, b, h, _⟩ := h; ⟨_, a, b, h⟩
section
variable {P : Program} {W : World} {E : Nat → Value} {d : Option Nat} {ty : TypeId} {pos : String} {af : Array Edge} {g : Option (Nat × Bool)} {F : Nat → Prop} {w : World} {μ μ0 : bD} {L : List (Nat × Obj)}
theorem uE.mono {α β : Type} {fv : Value} {av : α → List Value} {rv : β → Value} {pm : α → Option β} (h : uE P fv μ av rv pm) (hs : bE μ μ0) : uE P fv μ0 av rv pm := by
  obtain ⟨f, first, caps, h1, h2, h3⟩ := h
  exact ⟨f, first, caps, h1, h2, fun W x r h => h3 W x r (hs.trans h)⟩
theorem Hn {α β : Type} {K : Value → World → Prop} {fv : Value} {av : α → List Value} {rv : β → Value} {pm : α → Option β} {fo : Operand} {ax : Array Operand} {ats : Array TypeId} (x : α) {r : β} (hST : ST false F w W μ L) (hc : uE P fv μ0 av rv pm) (hs : bE μ0 μ)
    (hf : aS E fo = fv) (ha : ax.map (aS E) ++ (#[] : Array Value) = (av x).toArray) (hm : pm x = some r) (h : ∀ W', ST false F w W' μ L → K (rv r) W') : gG P E ⟨d, .call ⟨.value fo, ax, ats⟩, ty, pos, af, g⟩ W K := by
  obtain ⟨f, first, caps, rfl, h2, h3⟩ := hc
  have ha' : ax.map (aS E) = (av x).toArray := by simpa using ha
  refine .inr (.inr ⟨f, (first.toList ++ (av x ++ caps.toList)).toArray, ?_, Calls.mono (h3 W x r (hs.trans hST.sub_hp) hm) (fun _ _ ⟨h4, h5⟩ => ⟨_, h4, h _ (hST.call0 h5)⟩)⟩)
  show (do let d ← resolve (aS E) ⟨.value fo, ax, ats⟩ ty; invoke d.target d.args : Sem Next).run P W = _
  simp only [resolve, hf, Deferred.ofValue, Sem.run_bind, Sem.run_pure, Result.andThen_ok, invoke, ha', h2]
  congr 2
  simp
end
end Go.Proofs.YtmlncblocfcmiaaGreat
namespace Go.Proofs.YtmlncblocfcmiaaGreat
open Go.RowKit
variable {dd : Bool}
def xm (A : List (Nat × Obj)) : bD := fun b => (A.find? (fun p => p.1 == b)).map (·.2)
theorem eG {A : List (Nat × Obj)} {W : World} (h : ∀ b o, (b, o) ∈ A → W.heap[b]? = some o) : ∀ b o, xm A b = some o → W.heap[b]? = some o := fun b o hb => by
  unfold xm at hb
  cases hf : A.find? (fun p => p.1 == b) with
  | none => rw [hf] at hb; cases hb
  | some p =>
    rw [hf] at hb
    cases hb
    have h1 := List.mem_of_find?_eq_some hf
    have h2 := List.find?_some hf
    simp at h2
    subst h2
    exact h _ _ h1
theorem At.of {M : bD} {b : Nat} {cs : Array Value} {T : TypeId} {fr : Nat × Nat} (h : M b = some (.cells cs T fr)) (ys : List Value) (hy : cs.toList = ys) : At M (.pointer (some ⟨b, 0, none⟩)) ys :=
  ⟨b, 0, cs, T, fr, rfl, h, fun j y hj => by subst hy; simpa using hj⟩
section
variable {F : Nat → Prop} {w W W' : World} {μ μ' : bD} {L L0 L1 L2 : List (Nat × Obj)}
theorem ST.hpx_mem (h : ST dd F w W μ L) (hL : L.Perm (L0 ++ L2)) : ∀ b o, (b, o) ∈ L2 → rp W L0 b = some o := fun b o hb => by
  have h1 := (h.perm hL).at_ (List.mem_append_right _ hb)
  unfold rp
  rw [if_neg (Ab (h.perm hL).nd hb)]
  exact h1
theorem ST.held (h : ST dd F w W μ L) (hL : L.Perm (L0 ++ L2)) : yV L0 W := fun b o hb => ((h.perm hL).box b o (List.mem_append_left _ hb)).1
theorem ST.ndup (h : ST dd F w W μ L) (hL : L.Perm (L0 ++ L2)) : (L0.map (·.1)).Nodup := by
  have := (h.perm hL).nd
  rw [List.map_append] at this
  exact (List.nodup_append.1 this).1
theorem ST.subx (h : ST dd F w W μ L) (hL : L.Perm (L0 ++ L2)) : bE μ (rp W L0) := (h.perm hL).sub_hpx (fun _ hp => List.mem_append_left _ hp)
end
section
variable {P : Program} {E : Nat → Value} {W : World} {d : Option Nat} {ty : TypeId} {pos : String} {af : Array Edge} {g : Option (Nat × Bool)}
  {F : Nat → Prop} {w : World} {μ : bD} {L : List (Nat × Obj)}
theorem IB {K : Value → World → Prop} {K' : Value → List (Nat × Obj) → World → Prop} {f : FuncId} {fv : Operand} {ax : Array Operand} {ats : Array TypeId} {caps : Array Value} {args : List Value} (L0 L2 : List (Nat × Obj)) (hST : ST dd F w W μ L) (hL : L.Perm (L0 ++ L2))
    (hf : aS E fv = .func (.func f) #[] caps) (he : ∀ args w, (callFunc f args).run P w = .ok (.enter f args) w) (ha : ax.map (aS E) ++ (#[] : Array Value) = args.toArray)
    (hc : yV L0 W → (L0.map (·.1)).Nodup → bE μ (rp W L0) → (∀ b o, (b, o) ∈ L2 → rp W L0 b = some o) → eB dd P f (args ++ caps.toList) W L0 K')
    (h : ∀ W' v μ' L1, ST dd F w W' μ' (L1 ++ L2) → bE μ μ' → Lo F w μ μ' → (∀ b, W.heap.size ≤ b → ∀ o, rp W' L1 b = some o → μ' b = some o) → K' v L1 W' → K v W') : gG P E ⟨d, .call ⟨.value fv, ax, ats⟩, ty, pos, af, g⟩ W K := by
  have ha' : ax.map (aS E) = args.toArray := by simpa using ha
  refine zJ (args := (args ++ caps.toList).toArray) hf he (by rw [ha']; simp) (Calls.mono (hc (hST.held hL) (hST.ndup hL) (hST.subx hL) (hST.hpx_mem hL)) (fun _ W' ⟨v, L1, h1, h2, h3⟩ => ⟨v, h1, h W' v _ L1 ((hST.perm hL).back h2) ((hST.perm hL).growX_sub W' L1) ((hST.perm hL).lo_growX W' L1) ?_ h3⟩))
  intro b hb o ho
  unfold wL
  rw [if_neg (by omega)]
  exact ho
theorem Sl.lift {α : Type} {enc : α → List Value} {k : Nat} {M μ' : bD} {B : Nat} {v : Value} {l : List α} (h : Sl (Pl enc) k M v l) (hf : Fr B v) (hM : ∀ b, B ≤ b → ∀ o, M b = some o → μ' b = some o) : Sl (Pl enc) k μ' v l := by
  obtain ⟨A, c, h1, h2, h3, h4⟩ := h
  refine ⟨A, c, h1, h2, h3, fun hl => ?_⟩
  obtain ⟨b, off, cs, T, fr, h5, h6, h7⟩ := h4 hl
  exact ⟨b, off, cs, T, fr, h5, hM b (hf b (by rw [h1, h5]; rfl)) _ h6, h7⟩
theorem AE {t : TypeId} (dd : Nat) {s u : Array TypeId} {b : Bool} (ht : P.underlying t = some (.func s u b)) (f : Fn) (a c : Array Value) (W : World) : (Op.equalIn (dd + 1) t (.func f a c) .nilFunc).run P W = .ok false W := by
  simp [Op.equalIn, run_underlying ht]
end
def sN {κ β : Type} (beq : κ → κ → Bool) (l : List (κ × β)) (k : κ) (z : β) : β := (cH beq l k).getD z
section
variable {P : Program} {W : World} {κ β : Type} {kt : TypeId} {kenc : κ → Value} {beq : κ → κ → Bool} {vf : β → Value} {E : Nat → Value} {d : Option Nat} {ty : TypeId} {pos : String} {af : Array Edge} {g : Option (Nat × Bool)} {F : Nat → Prop} {w : World} {μ : bD} {L R : List (Nat × Obj)} {v : Value} {left : List (κ × β)}
theorem vj {t e : TypeId} {m x : Operand} {mv : Value} {l : List (κ × β)} {k : κ} {z : β} (K : jE P kt kenc beq) (ht : P.underlying t = some (.map kt e)) (hz : ∀ w, (zeroValue e).run P w = .ok (vf z) w) (hm : aS E m = mv) (hx : aS E x = kenc k) (hM : rl kenc vf (hp W) mv l) :
    dW P E ⟨d, .lookup t m x false, ty, pos, af, g⟩ W (vf (sN beq l k z)) W := by
  have := Em (d := d) (ty := ty) (pos := pos) (af := af) (g := g) K ht hz hm hx hM
  rw [sN]
  cases h : cH beq l k with
  | none => rw [h] at this; exact this
  | some y => rw [h] at this; exact this
theorem F4 {t e : TypeId} {m x : Operand} {mv : Value} {l : List (κ × β)} {k : κ} {z : β} (K : jE P kt kenc beq) (ht : P.underlying t = some (.map kt e)) (hz : ∀ w, (zeroValue e).run P w = .ok (vf z) w) (hm : aS E m = mv) (hx : aS E x = kenc k) (hM : rl kenc vf (hp W) mv l) :
    dW P E ⟨d, .lookup t m x true, ty, pos, af, g⟩ W (.tuple #[vf (sN beq l k z), .bool (cH beq l k).isSome]) W := by
  show (do pure (.value (← Instr.lookup t (aS E m) (aS E x) true)) : Sem Next).run P W = _
  rw [hm, hx]
  rcases hM with ⟨rfl, rfl⟩ | ⟨mb, es, clock, rfl, hb, h3⟩
  · have := K.find k [] [] rfl W
    simp [Instr.lookup, run_underlying ht, K.check, this, hz W, cH, sN]
  · have hb' : W.heap[mb]? = some (.map es clock) := hb
    have h5 : ((getObj mb : Sem Obj)).run P W = .ok (.map es clock) W := by simp [getObj, Sem.run, hb']
    have h6 := K.find k _ _ h3.keys W
    rw [h3.get k] at h6
    simp only [Instr.lookup, Sem.run_bind, run_underlying ht, Result.andThen_ok, h5, Sem.run_pure, K.check, h6, sN, qC]
    cases h7 : l.findIdx? (fun p => beq k p.1) with
    | none => simp [hz W]
    | some i =>
      cases h8 : l[i]? with
      | none => simp [h8, hz W]
      | some p => simp [h8]
theorem dS.one {mv : Value} {l : List (κ × β)} (h : dS kenc vf mv l R) : mv.oneCell' = true := by obtain ⟨m, es, clock, rfl, _⟩ := h; rfl
theorem dS.form {mv : Value} {l : List (κ × β)} (h : dS kenc vf mv l R) : ∃ m, mv = .map (some m) := by obtain ⟨m, es, clock, rfl, _⟩ := h; exact ⟨m, rfl⟩
theorem dS.nd {mv : Value} {l : List (κ × β)} (h : dS kenc vf mv l R) : (R.map (·.1)).Nodup := by obtain ⟨m, es, clock, rfl, rfl, _⟩ := h; simp
end
def iT {α : Type} (l : List α) (i : Nat) (z : α) : List α := l.take i ++ List.replicate (l.length - i) z
theorem rA {α : Type} (l : List α) (i : Nat) (z : α) (h : i ≤ l.length) : (iT l i z).length = l.length := by simp [iT]; omega
theorem As {α : Type} (l : List α) (i : Nat) (z : α) (h : i ≤ l.length) : (iT l i z).take i = l.take i := by
  simp only [iT]
  rw [List.take_append, List.take_of_length_le (by simp; omega)]
  simp; omega
end Go.Proofs.YtmlncblocfcmiaaGreat
namespace Go.Proofs.YtmlncblocfcmiaaGreat
open Go.RowKit
theorem CN {P : Program} {cs : Array Value} {b : Bool} {n : Nat} {W : World} : ∀ (l : List Field),
    (∀ f ∈ l, f.name ≠ "_" → ∃ v, (part f.type cs f.offset).run P W = .ok v W ∧ (Instr.checkKey b n f.type v).run P W = .ok () W) →
    ((forIn l PUnit.unit fun f (_ : PUnit) => do
      if f.name ≠ "_" then Instr.checkKey b n f.type (← part f.type cs f.offset)
      pure (ForInStep.yield PUnit.unit)) : Sem PUnit).run P W = .ok PUnit.unit W
  | [], _ => by simp
  | f :: l, h => by
    have ih := CN l (fun f hf => h f (List.mem_cons_of_mem _ hf))
    simp only [List.forIn_cons, Sem.run_bind]
    by_cases hn : f.name ≠ "_"
    · obtain ⟨v, h1, h2⟩ := h f (by simp) hn
      simp only [if_pos hn, Sem.run_bind, h1, Result.andThen_ok, h2, Sem.run_pure]
      exact ih
    · simp only [if_neg hn, Sem.run_bind, Sem.run_pure, Result.andThen_ok]
      exact ih
theorem BC {P : Program} {kt : TypeId} {fs : Array Field} {l : List Field} {cs : Array Value} {b : Bool} {n : Nat} {W : World} (ht : P.underlying kt = some (.struct fs)) (hl : fs.toList = l)
    (h : ∀ f ∈ l, f.name ≠ "_" → ∃ v, (part f.type cs f.offset).run P W = .ok v W ∧ (Instr.checkKey b n f.type v).run P W = .ok () W) : (Instr.checkKey b (n + 1) kt (.agg cs)).run P W = .ok () W := by
  obtain ⟨fs⟩ := fs
  subst hl
  simp only [Instr.checkKey, Sem.run_bind, run_underlying ht, Result.andThen_ok, List.forIn_toArray]
  have := CN (P := P) (cs := cs) (b := b) (n := n) (W := W) fs h
  simp only [Sem.run_bind] at this
  first | rw [this]; rfl | simpa using this
end Go.Proofs.YtmlncblocfcmiaaGreat
namespace Go.Proofs.YtmlncblocfcmiaaGreat
open Go.RowKit
variable {dd : Bool}
def nQ (b : Bool) : Option Unit := if b = true then some () else none
theorem AM {b : Bool} {u : Unit} (h : nQ b = some u) : b = true := by
  unfold nQ at h; split at h
  · assumption
  · cases h
theorem rZ {a c : Int} {u : Unit} (h : nQ (decide (0 ≤ a) && decide (a ≤ c)) = some u) : 0 ≤ a := by have := AM h; simp at this; exact this.1
theorem rX {a c : Int} {u : Unit} (h : nQ (decide (0 ≤ a) && decide (a ≤ c)) = some u) : a ≤ c := by have := AM h; simp at this; exact this.2
def vB (k : Nat) (v : Value) (i : Nat) (u : Value) : Prop := ∃ A n c A' c', v = .slice A n c ∧ u = .slice A' (n - i) c' ∧ i ≤ n ∧ (i < n → ∃ b o, A = some ⟨b, o, none⟩ ∧ A' = some ⟨b, o + i * k, none⟩)
section
variable {P : Program} {E : Nat → Value} {W : World} {d : Option Nat} {ty : TypeId} {pos : String} {af : Array Edge} {g : Option (Nat × Bool)}
  {F : Nat → Prop} {w : World} {μ : bD} {L : List (Nat × Obj)} {α : Type} {e' : TypeId} {enc : α → List Value} {k : Nat} {v : Value} {l : List α} {R : List (Nat × Obj)}
theorem uT {t e : TypeId} {x il : Operand} {ik : IntKind} {i : Int} (ht : P.underlying t = some (.slice e)) (he : ∀ w, (sizeOf e).run P w = .ok k w) (hx : aS E x = v) (hi : aS E il = .int ik i) (h : bI e' enc k v l R) (h0 : 0 ≤ i) (hl : i ≤ l.length) :
    ∃ u, vB k v i.toNat u ∧ ∀ W, dW P E ⟨d, .slice t x (some il) none none, ty, pos, af, g⟩ W u W := by
  rcases h with ⟨rfl, rfl, rfl⟩ | ⟨g', cap, cur, rfl, rfl, h1, h2, h3, h4⟩
  · have : i = 0 := by simp at hl; omega
    subst this
    refine ⟨.slice none 0 0, ⟨none, 0, 0, none, 0, rfl, rfl, Nat.le_refl _, fun h => absurd h (by simp)⟩, fun W => ?_⟩
    show (do pure (.value (← Instr.sliceAt t (aS E x) (some (aS E il)) none none)) : Sem Next).run P W = _
    rw [hx, hi]
    simp [Instr.sliceAt, Instr.slice, Instr.sliceBounds, Instr.sliceBound, asIntOf, run_underlying ht, he W]
  · refine ⟨.slice (some (if cap = i.toNat then ⟨g', 0, none⟩ else (Addr.add ⟨g', 0, none⟩ (i.toNat * k)))) (l.length - i.toNat) (cap - i.toNat), ⟨_, _, _, _, _, rfl, rfl, by omega, fun hlt => ⟨g', 0, rfl, ?_⟩⟩, fun W => ?_⟩
    · rw [if_neg (by omega)]; simp [Addr.add_lit]
    · show (do pure (.value (← Instr.sliceAt t (aS E x) (some (aS E il)) none none)) : Sem Next).run P W = _
      rw [hx, hi]
      have hb : 0 ≤ i ∧ i ≤ (l.length : Int) := ⟨h0, hl⟩
      simp [Instr.sliceAt, Instr.slice, Instr.sliceBounds, Instr.sliceBound, asIntOf, run_underlying ht, he W, hb]
      split <;> rfl
theorem vU {i j : Nat} {x0 : α} (h : (l.drop i)[j]? = some x0) : l[i + j]? = some x0 := by rwa [List.getElem?_drop] at h
theorem CA {t e : TypeId} {x : Operand} {u : Value} {i : Nat} (ht : P.underlying t = some (.slice e)) (hx : aS E x = u) (hu : vB k v i u) (h : bI e' enc k v l R) : dW P E ⟨d, .call ⟨.builtin .len, #[x], #[t]⟩, ty, pos, af, g⟩ W (.int .i64 ((l.length - i : Nat) : Int)) W := by
  obtain ⟨A, n, c, A', c', h1, h2, h3, _⟩ := hu
  subst h2
  have : n = l.length := by
    rcases h with ⟨rfl, rfl, rfl⟩ | ⟨g', cap, cur, rfl, rfl, _⟩
    · cases h1; rfl
    · cases h1; rfl
  subst this
  exact xP ht hx
theorem uQ {t e : TypeId} {x ix : Operand} {ik : IntKind} {i : Int} {x0 : α} {u : Value} {o : Nat}
    (ht : P.underlying t = some (.slice e)) (he : ∀ w, (sizeOf e).run P w = .ok k w) (hx : aS E x = u) (hi : aS E ix = .int ik i) (h : bI e' enc k v l R) (hu : vB k v o u) (h0 : 0 ≤ i) (hl : (l.drop o)[i.toNat]? = some x0) :
    ∃ p, wl R k p (o + i.toNat) ∧ ∀ W, dW P E ⟨d, .indexAddr t x ix, ty, pos, af, g⟩ W p W := by
  have hl' := vU hl
  have hlt : o + i.toNat < l.length := (List.getElem?_eq_some_iff.1 hl').1
  rcases h with ⟨rfl, rfl, rfl⟩ | ⟨g', cap, cur, rfl, rfl, h1, h2, h3, h4⟩
  · simp at hlt
  obtain ⟨A, n, c, A', c', e1, rfl, h7, h8⟩ := hu
  cases e1
  obtain ⟨b, oo, e2, rfl⟩ := h8 (by omega)
  cases e2
  refine ⟨.pointer (some ⟨g', (o + i.toNat) * k, none⟩), ⟨_, _, rfl, rfl⟩, fun W => ?_⟩
  show (do pure (.value (← Instr.indexAt t (aS E x) (aS E ix))) : Sem Next).run P W = _
  rw [hx, hi]
  have hb : 0 ≤ i ∧ i < ((l.length - o : Nat) : Int) := ⟨h0, by omega⟩
  simp [Instr.indexAt, asIntOf, run_underlying ht, he W, hb, Addr.add_lit, Nat.add_mul]
theorem FV {Rp : jX α} {t e : TypeId} {x ih : Operand} {ik : IntKind} {j : Int} (ht : P.underlying t = some (.slice e)) (he : ∀ w, (sizeOf e).run P w = .ok k w) (hx : aS E x = v) (hi : aS E ih = .int ik j) (h : Sl Rp k μ v l) (h0 : 0 ≤ j) (hl : j ≤ l.length) :
    ∃ v', (Sl Rp k μ v' (l.take j.toNat) ∧ ∀ B, Fr B v → Fr B v') ∧ ∀ W, dW P E ⟨d, .slice t x none (some ih) none, ty, pos, af, g⟩ W v' W := by
  obtain ⟨A, c, rfl, h2, h3, h4⟩ := h
  have hlt : j.toNat ≤ l.length := by omega
  refine ⟨.slice A (l.take j.toNat).length c, ⟨⟨A, c, rfl, by simp; omega, h3, fun hp => ?_⟩, fun B hF b hb => hF b (by cases A with | none => simp [Value.ownBlock] at hb | some a => (obtain ⟨b', o', s'⟩ := a; cases s' <;> simp [Value.ownBlock] at hb ⊢ <;> exact hb))⟩, fun W => ?_⟩
  · have hp' : 0 < l.length := by simp at hp; omega
    obtain ⟨b, off, cs, T, fr, rfl, h6, h7⟩ := h4 hp'
    refine ⟨b, off, cs, T, fr, rfl, h6, fun i x hx => ?_⟩
    rw [List.getElem?_take] at hx
    split at hx
    · exact h7 i x hx
    · cases hx
  · show (do pure (.value (← Instr.sliceAt t (aS E x) none (some (aS E ih)) none)) : Sem Next).run P W = _
    rw [hx, hi]
    have hb : 0 ≤ j ∧ j ≤ (c : Int) := ⟨h0, by omega⟩
    have e1 : min j.toNat l.length = j.toNat := by omega
    simp [Instr.sliceAt, Instr.slice, Instr.sliceBounds, Instr.sliceBound, asIntOf, run_underlying ht, he W, hb, e1]
    intro _
    cases A with
    | none => rfl
    | some a => obtain ⟨b', o', s'⟩ := a; cases s' <;> simp [Addr.add]
theorem BX (ys : List Value) (m : Nat) : (Builtin.zeroCells ys.toArray m).toList = (List.replicate m ys).flatten := by
  unfold Builtin.zeroCells
  simp only [Array.toList_map, Array.toList_range, List.size_toArray]
  rcases Nat.eq_zero_or_pos ys.length with h0 | h0
  · have : ys = [] := List.length_eq_zero_iff.1 h0
    subst this
    simp
  apply List.ext_getElem?
  intro q
  by_cases hq : q < m * ys.length
  · have h1 : q / ys.length < m := (Nat.div_lt_iff_lt_mul h0).2 hq
    have h2 : q % ys.length < ys.length := Nat.mod_lt _ h0
    have := sx (enc := fun _ : Unit => ys) (fun _ => rfl) (List.replicate m ()) (q / ys.length) () (by simp [h1]) (q % ys.length) ys[q % ys.length] (by simp [h2])
    rw [Nat.div_add_mod' q ys.length] at this
    rw [List.map_replicate] at this
    rw [this]
    simp [hq, h2]
  · rw [List.getElem?_eq_none (by simp; omega), List.getElem?_eq_none (by simp; omega)]
theorem Eu {K : Value → World → Prop} (z : α) (X : List (Nat × Obj)) {Y : List (Nat × Obj)} {t e : TypeId} {x : Operand} {u zv : Value} {i : Nat} (hST : ST dd F w W μ (X ++ (R ++ Y))) (h : bI e' enc k v l R) (hk : ∀ x, (enc x).length = k) (h1 : ∀ x, ∀ u ∈ enc x, u.oneCell' = true)
    (ht : P.underlying t = some (.slice e)) (hz : ∀ w, (zeroValue e).run P w = .ok zv w) (hu : vB k v i u) (hc : zv.cells = (enc z).toArray) (hx : aS E x = u)
    (hK : ∀ W' R', ST dd F w W' μ (X ++ (R' ++ Y)) → bI e' enc k v (iT l i z) R' → K (.tuple #[]) W') : gG P E ⟨d, .call ⟨.builtin .clear, #[x], #[t]⟩, ty, pos, af, g⟩ W K := by
  have hrun : ∀ (W' : World), (Builtin.clear_ #[t] ty #[u]).run P W = .ok (.tuple #[]) W' → (execOp (aS E) ⟨d, .call ⟨.builtin .clear, #[x], #[t]⟩, ty, pos, af, g⟩).run P W = .ok (.value (.tuple #[])) W' := by
    intro W' hV
    show (do let d ← resolve (aS E) ⟨.builtin .clear, #[x], #[t]⟩ ty; invoke d.target d.args : Sem Next).run P W = _
    simp [resolve, invoke, builtin, hx, hV]
  obtain ⟨A, n, c, A', c', e1, rfl, h7, h8⟩ := hu
  rcases h with ⟨rfl, rfl, rfl⟩ | ⟨g', cap, cur, rfl, rfl, q1, q2, q3, q4⟩
  · cases e1
    refine .inl ⟨_, W, hrun W ?_, hK W [] hST (by simpa [iT] using bI.nil e' enc k)⟩
    simp only [Builtin.clear_, Nat.zero_sub]
    cases A' <;> simp [run_underlying ht]
  · cases e1
    by_cases hi : i < l.length
    · obtain ⟨b, o, e2, rfl⟩ := h8 hi
      cases e2
      have hzr : ∀ m, (Builtin.zeroCells zv.cells m).toList = (List.replicate m (enc z)).flatten := by
        intro m
        rw [hc]; exact BX _ _
      have hb := (hST.box g' (.cells cur e' (0, 0)) (by simp)).1
      have hle : i * k + (l.length - i) * k = l.length * k := by rw [← Nat.add_mul]; congr 1; omega
      have hlen : l.length * k ≤ c * k := Nat.mul_le_mul_right _ q1
      have hzl : ((List.replicate (l.length - i) (enc z)).flatten).length = (l.length - i) * k := by simp [hk]
      have hone : ∀ v ∈ (List.replicate (l.length - i) (enc z)).flatten, v.oneCell' = true := by
        intro v hv
        obtain ⟨ys, hys, hv⟩ := List.mem_flatten.1 hv
        rw [(List.mem_replicate.1 hys).2] at hv
        exact h1 z v hv
      have hs := run_storeCells_at (P := P) g' (i * k) e' ((List.replicate (l.length - i) (enc z)).flatten) 0 cur W hb (by rw [hzl, q3]; omega) hone
      rw [Nat.add_zero, hzl, hle] at hs
      refine .inl ⟨_, W.setRow g' (cur.toList.take (i * k) ++ (List.replicate (l.length - i) (enc z)).flatten ++ cur.toList.drop (l.length * k)).toArray, hrun _ ?_, hK _ [(g', .cells (cur.toList.take (i * k) ++ (List.replicate (l.length - i) (enc z)).flatten ++ cur.toList.drop (l.length * k)).toArray e' (0, 0))] (hST.store _) (.inr ⟨g', c, _, by rw [rA _ _ _ h7], rfl, by rw [rA _ _ _ h7]; exact q1, q2, ?_, ?_⟩)⟩
      · have hn : l.length - i = (l.length - i - 1) + 1 := by omega
        simp only [Builtin.clear_]
        rw [hn]
        simp only [run_underlying ht, Sem.run_bind, Result.andThen_ok, List.getElem?_toArray, List.getElem?_cons_zero, hz, Nat.zero_add]
        rw [← hn, hzr, hs]
        simp
      · have e0 : cur.toList.length = c * k := by simpa using q3
        rw [List.size_toArray, List.length_append, List.length_append, List.length_take, List.length_drop, hzl, e0, Nat.min_eq_left (by omega)]
        omega
      · rw [rA _ _ _ h7, iT, List.map_append, List.flatten_append, zp hk l i h7, ← q4, List.take_take, Nat.min_eq_left (by omega), List.map_replicate]
        have e0 : cur.toList.length = c * k := by simpa using q3
        have e3 : (cur.toList.take (i * k) ++ (List.replicate (l.length - i) (enc z)).flatten).length = l.length * k := by rw [List.length_append, List.length_take, hzl, e0, Nat.min_eq_left (by omega)]; omega
        show List.take (l.length * k) (cur.toList.take (i * k) ++ (List.replicate (l.length - i) (enc z)).flatten ++ cur.toList.drop (l.length * k)) = _
        rw [List.take_append, List.take_of_length_le (by rw [e3]; exact Nat.le_refl _), e3, Nat.sub_self]
        simp
    · have hi' : i = l.length := by omega
      subst hi'
      refine .inl ⟨_, W, hrun W ?_, hK W _ hST ?_⟩
      · simp only [Builtin.clear_, Nat.sub_self]
        cases A' <;> simp [run_underlying ht]
      · simp only [iT, List.take_length, Nat.sub_self, List.replicate_zero, List.append_nil]
        exact .inr ⟨g', c, cur, rfl, rfl, q1, q2, q3, q4⟩
end
end Go.Proofs.YtmlncblocfcmiaaGreat
namespace Go.Proofs.YtmlncblocfcmiaaGreat
open Go.RowKit
variable {dd : Bool}
section
variable {P : Program} {E : Nat → Value} {W : World} {d : Option Nat} {ty : TypeId} {pos : String} {af : Array Edge} {g : Option (Nat × Bool)}
  {F : Nat → Prop} {w : World} {μ : bD} {L : List (Nat × Obj)}
theorem FC {K : Value → World → Prop} {f : FuncId} {fv : Operand} {ax : Array Operand} {ats : Array TypeId} {args : List Value} {v : Value}
    (hf : aS E fv = .func (.func f) #[] #[]) (ha : ax.map (aS E) ++ (#[] : Array Value) = args.toArray) (hr : (callFunc f args.toArray).run P W = .ok (.value v) W) (h : K v W) : gG P E ⟨d, .call ⟨.value fv, ax, ats⟩, ty, pos, af, g⟩ W K := by
  have ha' : ax.map (aS E) = args.toArray := by simpa using ha
  refine .inl ⟨v, W, ?_, h⟩
  show (do let d ← resolve (aS E) ⟨.value fv, ax, ats⟩ ty; invoke d.target d.args : Sem Next).run P W = _
  simp only [resolve, hf, Deferred.ofValue, Sem.run_bind, Sem.run_pure, Result.andThen_ok, invoke]
  rw [ha']
  simpa using hr
def sS (s : ByteArray) (c : Int) : Int := Lib.indexByte s.data.toList c.toNat.toUInt8
def jT (a b : ByteArray) : Int := Lib.compareBytes a.data.toList b.data.toList
def qZ (l : List Int) : List UInt8 := l.map fun x => x.toNat.toUInt8
def tZ (a b : List Int) : Int := Lib.compareBytes (qZ a) (qZ b)
theorem BS {f : FuncId} {fn : Func} (hf : P.funcs[f]? = some fn) (hname : (fn.name == "runtime.NumGoroutine") = false) (hb : fn.body.isNone = true) (hn : Extern.findNext fn = none) (he : Extern.find fn = some Extern.BytealgIndexByte.indexByte) (s : ByteArray) (c : Int) (w : World) :
    (callFunc f [Value.string s, .int .u8 c].toArray).run P w = .ok (.value (.int .i64 (sS s c))) w := by
  rw [run_callFunc_extern hf hname hb hn he]
  rw [Lib.run_indexByteString]
  rfl
theorem Hw {f : FuncId} {fn : Func} (hf : P.funcs[f]? = some fn) (hname : (fn.name == "runtime.NumGoroutine") = false) (hb : fn.body.isNone = true) (hn : Extern.findNext fn = none) (he : Extern.find fn = some Extern.BytealgCompare.compare) (a b : ByteArray) (w : World) :
    (callFunc f [Value.string a, .string b].toArray).run P w = .ok (.value (.int .i64 (jT a b))) w := by
  rw [run_callFunc_extern hf hname hb hn he]
  rw [Lib.run_compareString]
  rfl
theorem yG {v : Value} {l : List Int} (h : Sl (Pl (bV .u8)) 1 (hp W) v l) : (Extern.Bytes.bytesOf v).run P W = .ok ⟨(qZ l).toArray⟩ W := by
  obtain ⟨A, c, rfl, h2, h3, h4⟩ := h
  rcases Nat.eq_zero_or_pos l.length with h0 | h0
  · have : l = [] := List.length_eq_zero_iff.1 h0
    subst this
    cases A <;> simp [Extern.Bytes.bytesOf, Extern.Bytes.loadBytes, qZ] <;> rfl
  · obtain ⟨b, off, cs, T, fr, rfl, h6, h7⟩ := h4 h0
    have := Lib.run_loadBytesX (P := P) W l ⟨b, off, none⟩ .empty (fun j x hj => by
      obtain ⟨ys, _, hys, h12⟩ := h7 j x hj
      cases hys
      rw [Addr.add_lit, cell_of_row W b (off + j) cs T fr h6]
      have := h12 0 (.int .u8 x) rfl
      simpa using this)
    simp only [Extern.Bytes.bytesOf]
    rw [this]
    congr 1
    apply ByteArray.ext
    show (#[] : Array UInt8) ++ _ = _
    simp [Lib.bytesOf, qZ]
theorem Ht {f : FuncId} {fn : Func} (hf : P.funcs[f]? = some fn) (hname : (fn.name == "runtime.NumGoroutine") = false) (hb : fn.body.isNone = true) (hn : Extern.findNext fn = none) (he : Extern.find fn = some Extern.BytealgCompare.compare) {va vb : Value} {a b : List Int}
    (h1 : Sl (Pl (bV .u8)) 1 (hp W) va a) (h2 : Sl (Pl (bV .u8)) 1 (hp W) vb b) :
    (callFunc f [va, vb].toArray).run P W = .ok (.value (.int .i64 (tZ a b))) W := by
  rw [run_callFunc_extern hf hname hb hn he]
  have : (Extern.BytealgCompare.compare [va, vb].toArray).run P W = .ok (.int .i64 (tZ a b)) W := by
    change Sem.run P (do pure (goInt (Extern.BytealgCompare.cmp (← Extern.Bytes.bytesOf va) (← Extern.Bytes.bytesOf vb)))) W = _
    simp only [Sem.run_bind, yG h1, yG h2, Sem.run_pure, Result.andThen]
    rw [Lib.cmp_eq]
    rfl
  rw [this]
  rfl
theorem qD {fn : Fn} {caps : Array Operand} {cs : List Value} {v : Value} (hc : caps.map (aS E) ++ (#[] : Array Value) = cs.toArray) (hv : .func fn #[] cs.toArray = v) : dW P E ⟨d, .makeFunc fn #[] caps, ty, pos, af, g⟩ W v W := by
  have : caps.map (aS E) = cs.toArray := by simpa using hc
  exact FH (by rw [this]; simpa using hv)
theorem eB.mono {f : FuncId} {args : List Value} {L0 : List (Nat × Obj)} {K K' : Value → List (Nat × Obj) → World → Prop} (h : eB dd P f args w L0 K) (hk : ∀ v L1 W', K v L1 W' → K' v L1 W') : eB dd P f args w L0 K' :=
  Calls.mono h (fun _ _ ⟨v, L1, h1, h2, h3⟩ => ⟨v, L1, h1, h2, hk _ _ _ h3⟩)
end
section
variable {α : Type}
def qB (cf : α × α → Option Int) (x y : α) : Bool := match cf (x, y) with
  | some c => decide (c < 0)
  | none => false
structure zg (cf : α × α → Option Int) (l : List α) : Prop where
  is : ∀ x ∈ l, ∀ y ∈ l, ∃ c, cf (x, y) = some c
  irrefl : ∀ x ∈ l, qB cf x x = false
  trans : ∀ x ∈ l, ∀ y ∈ l, ∀ z ∈ l, qB cf x y = true → qB cf y z = true → qB cf x z = true
  total : ∀ x ∈ l, ∀ y ∈ l, qB cf x y = false → qB cf y x = false → x = y
  short : l.length < 4611686018427387904
def oZ (cf : α × α → Option Int) (l : List α) : List α := l.mergeSort fun x y => !qB cf y x
open Classical in
noncomputable def uR (cf : α × α → Option Int) (l : List α) : Option (List α) := if zg cf l then some (oZ cf l) else none
theorem BI {cf : α × α → Option Int} {l r : List α} (h : uR cf l = some r) : zg cf l ∧ r = oZ cf l := by
  unfold uR at h
  split at h
  · rename_i hs; cases h; exact ⟨hs, rfl⟩
  · cases h
theorem HQ {cf : α × α → Option Int} {l : List α} (h : zg cf l) : uR cf l = some (oZ cf l) := by
  unfold uR; rw [if_pos h]
def qL (l : List ByteArray) : List ByteArray := l.mergeSort fun x y => !lS y x
end
end Go.Proofs.YtmlncblocfcmiaaGreat
namespace Go.Proofs.YtmlncblocfcmiaaGreat
open Go.RowKit
variable {dd : Bool}
def se {κ γ : Type} (Q : Value → γ → List (Nat × Obj) → Prop) : List (κ × Value) → List (κ × γ) → List (Nat × Obj) → Prop
  | [], [], R => R = []
  | p :: lv, q :: l, R => p.1 = q.1 ∧ ∃ R1 R2, R = R1 ++ R2 ∧ Q p.2 q.2 R1 ∧ se Q lv l R2
  | _, _, _ => False
def eQ {κ γ : Type} (kenc : κ → Value) (Q : Value → γ → List (Nat × Obj) → Prop) (v : Value) (lv : List (κ × Value)) (l : List (κ × γ)) (R : List (Nat × Obj)) : Prop :=
  ∃ Rm Rv, R = Rm ++ Rv ∧ dS kenc (fun x => x) v lv Rm ∧ se Q lv l Rv
section
variable {κ γ : Type} {Q : Value → γ → List (Nat × Obj) → Prop} {beq : κ → κ → Bool} {kenc : κ → Value}
theorem se.keys : ∀ {lv : List (κ × Value)} {l : List (κ × γ)} {R : List (Nat × Obj)}, se Q lv l R → lv.map (·.1) = l.map (·.1)
  | [], [], _, _ => rfl
  | [], _ :: _, _, h => h.elim
  | _ :: _, [], _, h => h.elim
  | p :: lv, q :: l, R, h => by
    obtain ⟨h1, R1, R2, _, _, h4⟩ := h
    simp [h1, se.keys h4]
theorem se.find {lv : List (κ × Value)} {l : List (κ × γ)} {R : List (Nat × Obj)} (h : se Q lv l R) (k : κ) : lv.findIdx? (fun p => beq k p.1) = l.findIdx? (fun p => beq k p.1) := by
  have h1 : (lv.map (·.1)).findIdx? (fun x => beq k x) = (l.map (·.1)).findIdx? (fun x => beq k x) := by rw [h.keys]
  rw [List.findIdx?_map, List.findIdx?_map] at h1
  exact h1
theorem se.get : ∀ {lv : List (κ × Value)} {l : List (κ × γ)} {R : List (Nat × Obj)}, se Q lv l R → ∀ (i : Nat) (k : κ) (x : γ), l[i]? = some (k, x) →
    ∃ v A R1 B, lv[i]? = some (k, v) ∧ R = A ++ (R1 ++ B) ∧ Q v x R1 ∧ ∀ k2 v2 x2 R2, Q v2 x2 R2 → se Q (lv.set i (k2, v2)) (l.set i (k2, x2)) (A ++ (R2 ++ B))
  | [], [], _, _, i, k, x, hi => by simp at hi
  | [], _ :: _, _, h, _, _, _, _ => h.elim
  | _ :: _, [], _, h, _, _, _, _ => h.elim
  | p :: lv, q :: l, R, h, 0, k, x, hi => by
    obtain ⟨h1, R1, R2, rfl, h3, h4⟩ := h
    simp at hi
    subst hi
    refine ⟨p.2, [], R1, R2, by simp only [List.getElem?_cons_zero]; exact congrArg some (Prod.ext h1 rfl), rfl, h3, fun k2 v2 x2 R2' hq => ⟨rfl, R2', R2, rfl, hq, h4⟩⟩
  | p :: lv, q :: l, R, h, i + 1, k, x, hi => by
    obtain ⟨h1, R1, R2, rfl, h3, h4⟩ := h
    simp at hi
    obtain ⟨v, A, R1', B, g1, rfl, g3, g4⟩ := se.get h4 i k x hi
    exact ⟨v, R1 ++ A, R1', B, by simpa using g1, by simp, g3, fun k2 v2 x2 R2' hq => ⟨h1, R1, A ++ (R2' ++ B), by simp, h3, g4 k2 v2 x2 R2' hq⟩⟩
theorem se.push : ∀ {lv : List (κ × Value)} {l : List (κ × γ)} {R : List (Nat × Obj)}, se Q lv l R → ∀ (k : κ) {v : Value} {x : γ} {R1 : List (Nat × Obj)}, Q v x R1 → se Q (lv ++ [(k, v)]) (l ++ [(k, x)]) (R ++ R1)
  | [], [], _, h, k, v, x, R1, hq => by
    have h' : _ = [] := h
    subst h'
    exact ⟨rfl, R1, [], by simp, hq, rfl⟩
  | [], _ :: _, _, h, _, _, _, _, _ => h.elim
  | _ :: _, [], _, h, _, _, _, _, _ => h.elim
  | p :: lv, q :: l, R, h, k, v, x, R1, hq => by
    obtain ⟨h1, Ra, Rb, rfl, h3, h4⟩ := h
    exact ⟨h1, Ra, Rb ++ R1, by simp, h3, se.push h4 k hq⟩
theorem eQ.found {mv : Value} {lv : List (κ × Value)} {l : List (κ × γ)} {R : List (Nat × Obj)} (hk : ∀ {x y : κ}, beq x y = true → x = y) (h : eQ kenc Q mv lv l R) {k : κ} {x : γ} (hx : cH beq l k = some x) :
    ∃ v A R1 B, cH beq lv k = some v ∧ R = A ++ (R1 ++ B) ∧ Q v x R1 ∧ (∀ x2 R2, Q v x2 R2 → eQ kenc Q mv lv (iG beq l k x2) (A ++ (R2 ++ B))) := by
  obtain ⟨Rm, Rv, rfl, h2, h3⟩ := h
  rw [qC] at hx
  cases hi : l.findIdx? (fun p => beq k p.1) with
  | none => rw [hi] at hx; cases hx
  | some i =>
    rw [hi] at hx
    obtain ⟨p, hp, hb⟩ := kY hi
    simp only [Option.bind_some, hp, Option.map_some, Option.some.injEq] at hx
    subst hx
    have hkk := hk hb
    obtain ⟨v, A, R1, B, g1, rfl, g3, g4⟩ := h3.get i p.1 p.2 hp
    have hi2 : lv.findIdx? (fun p => beq k p.1) = some i := by rw [h3.find k, hi]
    refine ⟨v, Rm ++ A, R1, B, by rw [qC, hi2]; simp [g1], by simp, g3, fun x2 R2 hq => ⟨Rm, A ++ (R2 ++ B), by simp, h2, ?_⟩⟩
    have hset := g4 k v x2 R2 hq
    have e : lv.set i (k, v) = lv := by
      apply List.ext_getElem?
      intro j
      rw [List.getElem?_set]
      split
      · rename_i hij
        subst hij
        rw [g1, hkk]
        simp [(List.getElem?_eq_some_iff.1 g1).1]
      · rfl
    rw [e] at hset
    rw [iG, hi]
    exact hset
theorem eQ.miss {mv : Value} {lv : List (κ × Value)} {l : List (κ × γ)} {R : List (Nat × Obj)} (h : eQ kenc Q mv lv l R) {k : κ} (hx : cH beq l k = none) : cH beq lv k = none := by
  obtain ⟨Rm, Rv, rfl, h2, h3⟩ := h
  rw [qC] at hx ⊢
  rw [h3.find k]
  cases hi : l.findIdx? (fun p => beq k p.1) with
  | none => rfl
  | some i =>
    rw [hi] at hx
    obtain ⟨p, hp, hb⟩ := kY hi
    simp [hp] at hx
def jL (beq : κ → κ → Bool) (lv : List (κ × Value)) (k : κ) (z : Value) : Value := (cH beq lv k).getD z
variable {P : Program} {W : World} {kt : TypeId} {E : Nat → Value} {d : Option Nat} {ty : TypeId} {pos : String} {af : Array Edge} {g : Option (Nat × Bool)} {F : Nat → Prop} {w : World} {μ : bD} {L : List (Nat × Obj)}
theorem j1 {t e : TypeId} {m x : Operand} {mv z : Value} {lv : List (κ × Value)} {l : List (κ × γ)} {R : List (Nat × Obj)} {k : κ} (K : jE P kt kenc beq) (ht : P.underlying t = some (.map kt e)) (hz : ∀ w, (zeroValue e).run P w = .ok z w)
    (hm : aS E m = mv) (hx : aS E x = kenc k) (hM : eQ kenc Q mv lv l R) (hR : ∀ b o, (b, o) ∈ R → W.heap[b]? = some o) : dW P E ⟨d, .lookup t m x false, ty, pos, af, g⟩ W (jL beq lv k z) W := by
  obtain ⟨Rm, Rv, rfl, h2, h3⟩ := hM
  have h4 := Em (d := d) (ty := ty) (pos := pos) (af := af) (g := g) K ht hz hm hx (h2.at (μ := hp W) (fun b o h => hR b o (List.mem_append_left _ h)))
  simpa [jL] using h4
variable {κ2 β : Type} {kenc2 : κ2 → Value} {vf : β → Value} {beq2 : κ2 → κ2 → Bool} {kt2 : TypeId}
theorem eQ.mapAt {mv : Value} {lv : List (κ × Value)} {l : List (κ × List (κ2 × β))} {R : List (Nat × Obj)} (hk : ∀ {x y : κ}, beq x y = true → x = y) (h : eQ kenc (dS kenc2 vf) mv lv l R) (k : κ) {μ : bD} (hR : ∀ b o, (b, o) ∈ R → μ b = some o) :
    rl kenc2 vf μ (jL beq lv k (.map none)) ((cH beq l k).getD []) := by
  cases hx : cH beq l k with
  | none => rw [jL, h.miss hx]; exact .inl ⟨rfl, rfl⟩
  | some x =>
    obtain ⟨v, A, R1, B, g1, rfl, g3, _⟩ := h.found hk hx
    rw [jL, g1]
    exact g3.at (fun b o hb => hR b o (by simp [hb]))
theorem eQ.isNil {mv : Value} {lv : List (κ × Value)} {l : List (κ × List (κ2 × β))} {R : List (Nat × Obj)} (hk : ∀ {x y : κ}, beq x y = true → x = y) (h : eQ kenc (dS kenc2 vf) mv lv l R) (k : κ) :
    ∃ r, jL beq lv k (.map none) = .map r ∧ r.isNone = (cH beq l k).isNone := by
  cases hx : cH beq l k with
  | none => rw [jL, h.miss hx]; exact ⟨none, rfl, rfl⟩
  | some x =>
    obtain ⟨v, A, R1, B, g1, rfl, g3, _⟩ := h.found hk hx
    obtain ⟨m, es, clock, rfl, _⟩ := g3
    rw [jL, g1]
    exact ⟨_, rfl, rfl⟩
def AH {κ κ2 β : Type} (beq : κ → κ → Bool) (beq2 : κ2 → κ2 → Bool) (l : List (κ × List (κ2 × β))) (k : κ) (k2 : κ2) (x : β) : Option (List (κ × List (κ2 × β))) := (cH beq l k).map fun l2 => iG beq l k (iG beq2 l2 k2 x)
def AV {κ γ : Type} (beq : κ → κ → Bool) (l : List (κ × γ)) (k : κ) (x : γ) : Option (List (κ × γ)) := if (cH beq l k).isNone then some (iG beq l k x) else none
theorem GC {Kk : Value → World → Prop} (X : List (Nat × Obj)) {Y R : List (Nat × Obj)} {t e : TypeId} {m x y : Operand} {mv : Value} {lv : List (κ × Value)} {l l' : List (κ × List (κ2 × β))} {k : κ} {k2 : κ2} {v : β} (hk : ∀ {x y : κ}, beq x y = true → x = y) (K : jE P kt2 kenc2 beq2) (ht : P.underlying t = some (.map kt2 e))
    (hST : ST dd F w W μ (X ++ (R ++ Y))) (h : eQ kenc (dS kenc2 vf) mv lv l R) (hm : aS E m = jL beq lv k (.map none)) (hx : aS E x = kenc2 k2) (hy : aS E y = vf v) (hl : AH beq beq2 l k k2 v = some l')
    (hK : ∀ W' R', ST dd F w W' μ (X ++ (R' ++ Y)) → eQ kenc (dS kenc2 vf) mv lv l' R' → Kk undef W') : gG P E ⟨d, .mapUpdate t m x y, ty, pos, af, g⟩ W Kk := by
  unfold AH at hl
  cases hg : cH beq l k with
  | none => rw [hg] at hl; cases hl
  | some l2 =>
    rw [hg] at hl
    cases hl
    obtain ⟨u, A, R1, B, g1, rfl, g3, g4⟩ := h.found hk hg
    have hm' : aS E m = u := by rw [hm, jL, g1]; rfl
    have hST' : ST dd F w W μ ((X ++ A) ++ (R1 ++ (B ++ Y))) := by simpa using hST
    refine xi (X ++ A) K ht hST' g3 hm' hx hy (fun W' R' h1 h2 => hK W' (A ++ (R' ++ B)) ?_ (g4 _ _ h2))
    simpa using h1
theorem GU {Kk : Value → World → Prop} (X : List (Nat × Obj)) {Y R R2 : List (Nat × Obj)} {t e : TypeId} {m x y : Operand} {mv : Value} {lv : List (κ × Value)} {l l' : List (κ × γ)} {k : κ} {u : Value} {z : γ} (K : jE P kt kenc beq) (ht : P.underlying t = some (.map kt e))
    (hST : ST dd F w W μ (X ++ (R ++ (R2 ++ Y)))) (h : eQ kenc Q mv lv l R) (hm : aS E m = mv) (hx : aS E x = kenc k) (hy : aS E y = u) (hq : Q u z R2) (hl : AV beq l k z = some l')
    (hK : ∀ W' R', ST dd F w W' μ (X ++ (R' ++ Y)) → eQ kenc Q mv (iG beq lv k u) l' R' → Kk undef W') : gG P E ⟨d, .mapUpdate t m x y, ty, pos, af, g⟩ W Kk := by
  unfold AV at hl
  cases hg : cH beq l k with
  | some l2 => rw [hg] at hl; cases hl
  | none =>
    rw [hg] at hl
    simp only [Option.isNone_none, if_true, Option.some.injEq] at hl
    subst hl
    have hn := h.miss hg
    obtain ⟨Rm, Rv, rfl, h2, h3⟩ := h
    have hST' : ST dd F w W μ (X ++ (Rm ++ (Rv ++ (R2 ++ Y)))) := by simpa using hST
    refine xi X K ht hST' h2 hm hx hy (fun W' R' g1 g2 => hK W' (R' ++ (Rv ++ R2)) (by simpa using g1) ⟨R', Rv ++ R2, rfl, g2, ?_⟩)
    have e1 : ∀ {δ : Type} (q : List (κ × δ)) (y : δ), cH beq q k = none → iG beq q k y = q ++ [(k, y)] := fun q y hq' => by
      rw [qC] at hq'
      rw [iG]
      cases hi : q.findIdx? (fun p => beq k p.1) with
      | none => rfl
      | some i =>
        obtain ⟨p, hp, _⟩ := kY hi
        rw [hi] at hq'
        simp [hp] at hq'
    rw [e1 lv u hn, e1 l z hg]
    exact h3.push k hq
theorem eQ.slAt {α : Type} {e : TypeId} {enc : α → List Value} {n : Nat} (hn : ∀ x, (enc x).length = n) {mv : Value} {lv : List (κ × Value)} {l : List (κ × List α)} {R : List (Nat × Obj)} (hk : ∀ {x y : κ}, beq x y = true → x = y) (h : eQ kenc (bI e enc n) mv lv l R) (k : κ) {μ : bD} (hR : ∀ b o, (b, o) ∈ R → μ b = some o) :
    Sl (Pl enc) n μ (jL beq lv k (.slice none 0 0)) ((cH beq l k).getD []) := by
  cases hx : cH beq l k with
  | none => rw [jL, h.miss hx]; exact ⟨none, 0, rfl, Nat.le_refl _, Nat.zero_le _, fun h => absurd h (Nat.lt_irrefl _)⟩
  | some x =>
    obtain ⟨v, A, R1, B, g1, rfl, g3, _⟩ := h.found hk hx
    rw [jL, g1]
    exact g3.sl hn (fun b o hb => hR b o (by simp [hb]))
end
end Go.Proofs.YtmlncblocfcmiaaGreat
namespace Go.Proofs.YtmlncblocfcmiaaGreat
open Go.RowKit
variable {dd : Bool}
section
variable {κ γ : Type} {Q : Value → γ → List (Nat × Obj) → Prop} {beq : κ → κ → Bool} {kenc : κ → Value}
theorem mF {δ : Type} {l : List (κ × δ)} {k : κ} {i : Nat} (h : l.findIdx? (fun p => beq k p.1) = some i) (x : δ) : iG beq l k x = l.set i (k, x) := by rw [iG, h]
theorem rb {δ : Type} {l : List (κ × δ)} {k : κ} (h : l.findIdx? (fun p => beq k p.1) = none) (x : δ) : iG beq l k x = l ++ [(k, x)] := by rw [iG, h]
theorem zc {δ : Type} {l : List (κ × δ)} {k : κ} (h : l.findIdx? (fun p => beq k p.1) = none) : cH beq l k = none := by rw [qC, h]; rfl
theorem yq {δ : Type} {l : List (κ × δ)} {k : κ} {i : Nat} {p : κ × δ} (h : l.findIdx? (fun p => beq k p.1) = some i) (hp : l[i]? = some p) : cH beq l k = some p.2 := by rw [qC, h]; simp [hp]
def FN (beq : κ → κ → Bool) (kenc : κ → Value) (Q : Value → γ → List (Nat × Obj) → Prop) (mv : Value) (lv : List (κ × Value)) (l : List (κ × γ)) (k : κ) (R : List (Nat × Obj)) : Prop :=
  ∃ Rm A B, R = Rm ++ (A ++ B) ∧ dS kenc (fun x => x) mv lv Rm ∧ ∀ v x R1, Q v x R1 → se Q (iG beq lv k v) (iG beq l k x) (A ++ (R1 ++ B))
theorem eQ.open (hk : ∀ {x y : κ}, beq x y = true → x = y) {mv z : Value} {x0 : γ} (hq0 : Q z x0 []) {lv : List (κ × Value)} {l : List (κ × γ)} {R : List (Nat × Obj)} (h : eQ kenc Q mv lv l R) (k : κ) :
    ∃ R' R1, R.Perm (R' ++ R1) ∧ Q (jL beq lv k z) ((cH beq l k).getD x0) R1 ∧ FN beq kenc Q mv lv l k R' := by
  obtain ⟨Rm, Rv, rfl, h2, h3⟩ := h
  have hf := h3.find (beq := beq) k
  cases hi : l.findIdx? (fun p => beq k p.1) with
  | none =>
    rw [hi] at hf
    refine ⟨Rm ++ Rv, [], by simp, ?_, Rm, Rv, [], by simp, h2, fun v x R1 hq => ?_⟩
    · rw [jL, zc hi, zc hf]; exact hq0
    · rw [rb hi, rb hf]; simpa using h3.push k hq
  | some i =>
    rw [hi] at hf
    obtain ⟨p, hp, hb⟩ := kY hi
    have hkk := hk hb
    obtain ⟨v, A, R1, B, g1, rfl, g3, g4⟩ := h3.get i p.1 p.2 hp
    refine ⟨Rm ++ (A ++ B), R1, ?_, ?_, Rm, A, B, rfl, h2, fun v2 x2 R2 hq => ?_⟩
    · rw [List.append_assoc, List.append_assoc]
      refine List.Perm.append_left _ (List.Perm.append_left _ List.perm_append_comm)
    · rw [jL, yq hi hp, yq hf g1]; exact g3
    · rw [mF hi, mF hf]; exact g4 k v2 x2 R2 hq
variable {P : Program} {W : World} {kt : TypeId} {E : Nat → Value} {d : Option Nat} {ty : TypeId} {pos : String} {af : Array Edge} {g : Option (Nat × Bool)} {F : Nat → Prop} {w : World} {μ : bD} {L : List (Nat × Obj)}
theorem JP {Kk : Value → World → Prop} (X : List (Nat × Obj)) {Y R R1 : List (Nat × Obj)} {t e : TypeId} {m x y : Operand} {mv : Value} {lv : List (κ × Value)} {l : List (κ × γ)} {k : κ} {u : Value} {z : γ} (K : jE P kt kenc beq) (ht : P.underlying t = some (.map kt e))
    (hST : ST dd F w W μ (X ++ (R ++ (R1 ++ Y)))) (h : FN beq kenc Q mv lv l k R) (hm : aS E m = mv) (hx : aS E x = kenc k) (hy : aS E y = u) (hq : Q u z R1)
    (hK : ∀ W' R', ST dd F w W' μ (X ++ (R' ++ Y)) → eQ kenc Q mv (iG beq lv k u) (iG beq l k z) R' → Kk undef W') : gG P E ⟨d, .mapUpdate t m x y, ty, pos, af, g⟩ W Kk := by
  obtain ⟨Rm, A, B, rfl, h2, h3⟩ := h
  have hST' : ST dd F w W μ (X ++ (Rm ++ (A ++ (B ++ (R1 ++ Y))))) := by simpa using hST
  refine xi X K ht hST' h2 hm hx hy (fun W' R' g1 g2 => hK W' (R' ++ (A ++ (R1 ++ B))) ?_ ⟨R', A ++ (R1 ++ B), rfl, g2, h3 u z R1 hq⟩)
  refine g1.perm ?_
  simp only [List.append_assoc]
  refine List.Perm.append_left _ (List.Perm.append_left _ (List.Perm.append_left _ ?_))
  rw [← List.append_assoc, ← List.append_assoc]
  exact List.Perm.append_right _ List.perm_append_comm
def Dl (beq : κ → κ → Bool) (kenc : κ → Value) (Q : Value → γ → List (Nat × Obj) → Prop) (mv : Value) (l : List (κ × γ)) (k : κ) (st : Nat) (R : List (Nat × Obj)) : Prop :=
  ∃ m es clock lv A B i e, mv = .map (some m) ∧ R = (m, .map es clock) :: (A ++ B) ∧ qH kenc (fun x => x) lv es clock ∧ es[i]? = some e ∧ e.born = st ∧ lv.findIdx? (fun p => beq k p.1) = some i ∧
    ∀ v x R1, Q v x R1 → se Q (iG beq lv k v) (iG beq l k x) (A ++ (R1 ++ B))
theorem CF {δ : Type} (hk : ∀ x : κ, beq x x = true) (lv : List (κ × δ)) (k : κ) (a b : δ) : iG beq (iG beq lv k a) k b = iG beq lv k b := by
  cases hi : lv.findIdx? (fun p => beq k p.1) with
  | none =>
    have h1 : (lv ++ [(k, a)]).findIdx? (fun p => beq k p.1) = some lv.length := by
      rw [List.findIdx?_append, hi]
      simp [List.findIdx?_cons, hk]
    rw [rb hi, rb hi, mF h1]
    simp
  | some i =>
    obtain ⟨p, hp, hb⟩ := kY hi
    have h1 : (lv.set i (k, a)).findIdx? (fun p => beq k p.1) = some i := by
      rw [List.findIdx?_eq_some_iff_getElem] at hi ⊢
      obtain ⟨h1, h2, h3⟩ := hi
      refine ⟨by simpa using h1, by simp [hk], fun j hj => ?_⟩
      rw [List.getElem_set_ne (by omega)]
      exact h3 j hj
    rw [mF hi, mF hi, mF h1]
    simp
end
end Go.Proofs.YtmlncblocfcmiaaGreat
namespace Go.Proofs.YtmlncblocfcmiaaGreat
open Go.RowKit
variable {dd : Bool}
section
variable {κ γ : Type} {Q : Value → γ → List (Nat × Obj) → Prop} {beq : κ → κ → Bool} {kenc : κ → Value}
variable {P : Program} {W : World} {kt : TypeId} {E : Nat → Value} {d : Option Nat} {ty : TypeId} {pos : String} {af : Array Edge} {g : Option (Nat × Bool)} {F : Nat → Prop} {w : World} {μ : bD} {L : List (Nat × Obj)}
theorem zw {es : Array MapEntry} {i : Nat} {f f' : MapEntry → MapEntry} (h : ∀ e, es[i]? = some e → f e = f' e) : es.modify i f = es.modify i f' := by
  apply Array.ext_getElem?
  intro j
  rw [Array.getElem?_modify, Array.getElem?_modify]
  split
  · rename_i hij
    subst hij
    cases he : es[i]? with
    | none => rfl
    | some e => simp [h e he]
  · rfl
theorem qH.val {lv : List (κ × Value)} {es : Array MapEntry} {clock : Nat} (h : qH kenc (fun x => x) lv es clock) {i : Nat} {e : MapEntry} (he : es[i]? = some e) : ∃ p, lv[i]? = some p ∧ e.key = kenc p.1 ∧ e.val = p.2 := by
  have hj := congrArg (fun q => q[i]?) h.pairs
  simp only [List.getElem?_map, Array.getElem?_toList, he, Option.map_some] at hj
  cases hp : lv[i]? with
  | none => rw [hp] at hj; cases hj
  | some p =>
    rw [hp] at hj
    simp only [Option.map_some, Option.some.injEq, Prod.mk.injEq] at hj
    exact ⟨p, rfl, hj.1, hj.2⟩
theorem FM {Kk : Value → World → Prop} (X : List (Nat × Obj)) {Y R : List (Nat × Obj)} {t e : TypeId} {m x : Operand} {mv z : Value} {x0 : γ} {lv : List (κ × Value)} {l : List (κ × γ)} {k : κ} (hk : ∀ {x y : κ}, beq x y = true ↔ x = y) (K : jE P kt kenc beq) (ht : P.underlying t = some (.map kt e))
    (hz : ∀ w, (zeroValue e).run P w = .ok z w) (hq0 : Q z x0 []) (hST : ST dd F w W μ (X ++ (R ++ Y))) (h : eQ kenc Q mv lv l R) (hm : aS E m = mv) (hx : aS E x = kenc k)
    (hK : ∀ W' v st R' R1, ST dd F w W' μ (X ++ (R' ++ (R1 ++ Y))) → Q v ((cH beq l k).getD x0) R1 → Dl beq kenc Q mv l k st R' → Kk (.tuple #[v, .int .i64 (st : Nat)]) W') : gG P E ⟨d, .mapEntry t m x, ty, pos, af, g⟩ W Kk := by
  obtain ⟨Rm, Rv, rfl, ⟨mb, es, clock, rfl, rfl, h2⟩, h3⟩ := h
  have hb : W.heap[mb]? = some (.map es clock) := (hST.box mb (.map es clock) (by simp)).1
  have h5 : ((getObj mb : Sem Obj)).run P W = .ok (.map es clock) W := by simp [getObj, Sem.run, hb]
  have h6 := K.find k _ _ h2.keys W
  rw [h2.get k] at h6
  have hf := h3.find (beq := beq) k
  have hrun : ∀ W' v, (Instr.mapEntry t (.map (some mb)) (kenc k)).run P W = .ok v W' → (execOp (aS E) ⟨d, .mapEntry t m x, ty, pos, af, g⟩).run P W = .ok (.value v) W' := by
    intro W' v hr
    show (do pure (.value (← Instr.mapEntry t (aS E m) (aS E x))) : Sem Next).run P W = _
    rw [hm, hx]
    simp [hr]
  have hST1 : ST dd F w W μ (X ++ (mb, .map es clock) :: (Rv ++ Y)) := by simpa using hST
  cases hi : lv.findIdx? (fun p => beq k p.1) with
  | none =>
    rw [hi] at h6 hf
    have hput := h2.put (beq := beq) k z
    rw [hi] at hput
    refine .inl ⟨_, ChangeMaps.setBlock W mb (.map (es.push { key := kenc k, val := z, born := clock }) (clock + 1)), hrun _ (.tuple #[z, .int .i64 (clock : Nat)]) ?_, hK _ z clock ((mb, .map (es.push { key := kenc k, val := z, born := clock }) (clock + 1)) :: (Rv ++ [])) [] ?_ ?_ ?_⟩
    · simp [Instr.mapEntry, run_underlying ht, h5, K.check, h6, ur hb, hz _, goInt]
    · have := hST1.setBlock (.map (es.push { key := kenc k, val := z, born := clock }) (clock + 1))
      simpa using this
    · rw [zc hf.symm]; exact hq0
    · refine ⟨mb, _, _, lv ++ [(k, z)], Rv, [], es.size, { key := kenc k, val := z, born := clock }, rfl, rfl, hput, by simp, rfl, ?_, fun v x R1 hq => ?_⟩
      · rw [List.findIdx?_append, hi]
        have hsz := h2.length
        simp [List.findIdx?_cons, hk, hsz]
      · rw [← rb hi, CF (fun x => hk.2 rfl), rb hi, rb hf.symm]
        simpa using h3.push k hq
  | some i =>
    rw [hi] at h6 hf
    obtain ⟨p, hp, hbq⟩ := kY hi
    obtain ⟨q, hqq, hbq2⟩ := kY hf.symm
    have hkq := hk.1 hbq2
    obtain ⟨v, A, R1, B, g1, rfl, g3, g4⟩ := h3.get i q.1 q.2 hqq
    have hpv : p.2 = v := by rw [g1] at hp; cases hp; rfl
    have hsz := h2.length
    have hil : i < lv.length := (List.getElem?_eq_some_iff.1 hp).1
    obtain ⟨en, hen⟩ : ∃ en, es[i]? = some en := ⟨es[i], Array.getElem?_eq_getElem (by omega)⟩
    obtain ⟨p', hp', hkey', hval'⟩ := h2.val hen
    rw [hp] at hp'
    cases hp'
    simp only [Option.bind_some, hp, Option.map_some] at h6
    have hput := h2.put (beq := beq) k v
    rw [hi] at hput
    have hkey : ((es[i]?).map (·.key)).getD (kenc k) = kenc k := by
      rw [hen]
      simp only [Option.map_some, Option.getD_some, hkey']
      exact K.eq k p.1 hbq
    have hmod : es.modify i (fun e => { e with key := kenc k }) = es.modify i (fun e => { e with key := kenc k, val := v }) := zw fun e he => by
      rw [hen] at he; cases he
      rw [← hpv, ← hval']
    refine .inl ⟨_, ChangeMaps.setBlock W mb (.map (es.modify i fun e => { e with key := kenc k, val := v }) clock), hrun _ (.tuple #[v, .int .i64 (en.born : Nat)]) ?_, hK _ v en.born ((mb, .map (es.modify i fun e => { e with key := kenc k, val := v }) clock) :: (A ++ B)) R1 ?_ ?_ ?_⟩
    · simp only [Instr.mapEntry, Sem.run_bind, run_underlying ht, h5, K.check, h6, Result.andThen_ok, hkey, Instr.keyThatStays, K.bits, if_true, Sem.run_pure]
      rw [ur hb, hmod]
      simp [hen, goInt, hpv]
    · have := hST1.setBlock (.map (es.modify i fun e => { e with key := kenc k, val := v }) clock)
      refine this.perm ?_
      simp only [List.append_assoc, List.cons_append]
      refine List.Perm.append_left _ (List.Perm.cons _ (List.Perm.append_left _ ?_))
      rw [← List.append_assoc, ← List.append_assoc]
      exact List.Perm.append_right _ List.perm_append_comm
    · rw [yq hf.symm hqq]; exact g3
    · refine ⟨mb, _, _, lv.set i (k, v), A, B, i, { en with key := kenc k, val := v }, rfl, rfl, hput, ?_, rfl, ?_, fun v2 x2 R2 hq => ?_⟩
      · rw [Array.getElem?_modify, if_pos rfl, hen]; rfl
      · rw [List.findIdx?_eq_some_iff_getElem] at hi ⊢
        obtain ⟨h1, h2, h3⟩ := hi
        refine ⟨by simpa using h1, by simp [hk], fun j hj => ?_⟩
        rw [List.getElem_set_ne (by omega)]
        exact h3 j hj
      · rw [← mF hi, CF (fun x => hk.2 rfl), mF hi, mF hf.symm]
        exact g4 k v2 x2 R2 hq
theorem G1 {es : Array MapEntry} (h : es.toList.Pairwise (fun a b => a.born < b.born)) {i : Nat} {e : MapEntry} (he : es[i]? = some e) : es.findIdx? (fun a => (a.born : Int) == (e.born : Int)) = some i := by
  rw [Array.findIdx?_eq_some_iff_getElem]
  obtain ⟨hl, hei⟩ := Array.getElem?_eq_some_iff.1 he
  refine ⟨hl, by rw [hei]; simp, fun j hj => ?_⟩
  have := List.pairwise_iff_getElem.1 h j i (by simpa using Nat.lt_trans hj hl) (by simpa using hl) hj
  simp only [Array.getElem_toList] at this
  rw [hei] at this
  simp
  omega
theorem D5 {Kk : Value → World → Prop} (X : List (Nat × Obj)) {Y R R1 : List (Nat × Obj)} {t e : TypeId} {m s y : Operand} {mv u : Value} {z : γ} {l : List (κ × γ)} {k : κ} {st : Nat} (hk : ∀ {x y : κ}, beq x y = true ↔ x = y) (K : jE P kt kenc beq)
    (hST : ST dd F w W μ (X ++ (R ++ (R1 ++ Y)))) (h : Dl beq kenc Q mv l k st R) (hm : aS E m = mv) (hs : aS E s = .int .i64 (st : Nat)) (hy : aS E y = u) (hq : Q u z R1)
    (hK : ∀ W' lv' R', ST dd F w W' μ (X ++ (R' ++ Y)) → eQ kenc Q mv lv' (iG beq l k z) R' → Kk undef W') : gG P E ⟨d, .entryStore t m s y, ty, pos, af, g⟩ W Kk := by
  obtain ⟨mb, es, clock, lv, A, B, i, en, rfl, rfl, h2, hen, hborn, hi, h3⟩ := h
  have hb : W.heap[mb]? = some (.map es clock) := (hST.box mb (.map es clock) (by simp)).1
  have h5 : ((getObj mb : Sem Obj)).run P W = .ok (.map es clock) W := by simp [getObj, Sem.run, hb]
  obtain ⟨p, hp, hbq⟩ := kY hi
  obtain ⟨p', hp', hkey', hval'⟩ := h2.val hen
  rw [hp] at hp'
  cases hp'
  have hput := h2.put (beq := beq) k u
  rw [hi] at hput
  have hmod : es.modify i (fun e => { e with val := u }) = es.modify i (fun e => { e with key := kenc k, val := u }) := zw fun e he => by
    rw [hen] at he; cases he
    have hen2 : en.key = kenc k := by rw [hkey']; exact K.eq k p.1 hbq
    rw [← hen2]
  have hfi := G1 h2.born hen
  rw [hborn] at hfi
  have hST1 : ST dd F w W μ (X ++ (mb, .map es clock) :: (A ++ (B ++ (R1 ++ Y)))) := by simpa using hST
  refine .inr (.inl ⟨ChangeMaps.setBlock W mb (.map (es.modify i fun e => { e with key := kenc k, val := u }) clock), ?_, hK _ (iG beq lv k u) ((mb, .map (es.modify i fun e => { e with key := kenc k, val := u }) clock) :: (A ++ (R1 ++ B))) ?_ ⟨[(mb, .map (es.modify i fun e => { e with key := kenc k, val := u }) clock)], A ++ (R1 ++ B), rfl, ⟨mb, _, _, rfl, rfl, ?_⟩, h3 u z R1 hq⟩⟩)
  · show (do Instr.entryStore t (aS E m) (aS E s) (aS E y); pure .skip : Sem Next).run P W = _
    rw [hm, hs, hy]
    simp only [Instr.entryStore, Sem.run_bind, h5, Result.andThen_ok, asInt, asIntOf, Sem.run_pure, hfi]
    rw [ur hb, hmod]
    rfl
  · have := hST1.setBlock (.map (es.modify i fun e => { e with key := kenc k, val := u }) clock)
    refine this.perm ?_
    simp only [List.append_assoc, List.cons_append]
    refine List.Perm.append_left _ (List.Perm.cons _ (List.Perm.append_left _ ?_))
    rw [← List.append_assoc, ← List.append_assoc]
    exact List.Perm.append_right _ List.perm_append_comm
  · rw [mF hi]; exact hput
end
end Go.Proofs.YtmlncblocfcmiaaGreat
namespace Go.Proofs.YtmlncblocfcmiaaGreat
open Go.RowKit
variable {dd : Bool}
section
variable {κ γ : Type} {Q : Value → γ → List (Nat × Obj) → Prop} {beq : κ → κ → Bool} {kenc : κ → Value}
def dX (kenc : κ → Value) (Q : Value → γ → List (Nat × Obj) → Prop) (v : Value) (l : List (κ × γ)) (R : List (Nat × Obj)) : Prop := ∃ lv, eQ kenc Q v lv l R
def mS (kenc : κ → Value) (Q : Value → γ → List (Nat × Obj) → Prop) (μ : bD) (v : Value) (l : List (κ × γ)) : Prop := ∃ lv R, eQ kenc Q v lv l R ∧ ∀ b o, (b, o) ∈ R → μ b = some o
theorem dX.at {v : Value} {l : List (κ × γ)} {R : List (Nat × Obj)} {μ : bD} (h : dX kenc Q v l R) (hR : ∀ b o, (b, o) ∈ R → μ b = some o) : mS kenc Q μ v l := let ⟨lv, h⟩ := h; ⟨lv, R, h, hR⟩
theorem mS.mono {v : Value} {l : List (κ × γ)} {μ μ' : bD} (h : mS kenc Q μ v l) (hs : bE μ μ') : mS kenc Q μ' v l := let ⟨lv, R, h, hR⟩ := h; ⟨lv, R, h, fun b o hb => hs _ _ (hR b o hb)⟩
theorem eQ.form {v : Value} {lv : List (κ × Value)} {l : List (κ × γ)} {R : List (Nat × Obj)} (h : eQ kenc Q v lv l R) : ∃ m, v = .map (some m) := let ⟨_, _, _, h, _⟩ := h; h.form
theorem eQ.e {v : Value} {lv : List (κ × Value)} {l : List (κ × γ)} {R : List (Nat × Obj)} (h : eQ kenc Q v lv l R) : dX kenc Q v l R := ⟨lv, h⟩
theorem dX.form {v : Value} {l : List (κ × γ)} {R : List (Nat × Obj)} (h : dX kenc Q v l R) : ∃ m, v = .map (some m) := let ⟨_, h⟩ := h; h.form
theorem dX.new {v : Value} {R : List (Nat × Obj)} (h : dS (β := Value) kenc (fun x => x) v [] R) : dX kenc Q v [] R := ⟨[], R, [], (List.append_nil R).symm, h, rfl⟩
theorem eQ.rowAt {α : Type} {e : TypeId} {enc : α → List Value} {n : Nat} {mv : Value} {lv : List (κ × Value)} {l : List (κ × List α)} {R : List (Nat × Obj)} (hk : ∀ {x y : κ}, beq x y = true → x = y) (h : eQ kenc (bI e enc n) mv lv l R) (k : κ) :
    ∃ R1, bI e enc n (jL beq lv k (.slice none 0 0)) ((cH beq l k).getD []) R1 ∧ ∀ b o, (b, o) ∈ R1 → (b, o) ∈ R := by
  cases hx : cH beq l k with
  | none => refine ⟨[], ?_, fun b o h => by cases h⟩; rw [jL, h.miss hx]; exact .inl ⟨rfl, rfl, rfl⟩
  | some x =>
    obtain ⟨v, A, R1, B, g1, rfl, g3, _⟩ := h.found hk hx
    refine ⟨R1, ?_, fun b o hb => by simp [hb]⟩
    rw [jL, g1]; exact g3
theorem bI.slL {α : Type} {e : TypeId} {enc : α → List Value} {k : Nat} {v : Value} {l : List α} {R : List (Nat × Obj)} (h : bI e enc k v l R) (hk : ∀ x, (enc x).length = k) : Sl (Pl enc) k (xm R) v l := by
  refine h.sl hk (fun b o hb => ?_)
  rcases h with ⟨rfl, rfl, rfl⟩ | ⟨g, cap, cur, rfl, rfl, _⟩
  · cases hb
  · simp at hb; obtain ⟨rfl, rfl⟩ := hb; simp [xm]
end
theorem iA.hp (W : World) : iA (hp W) [] W := ⟨fun _ _ h => h, fun _ _ h => by cases h⟩
section
variable {P : Program} {W : World} {E : Nat → Value} {d : Option Nat} {ty : TypeId} {pos : String} {af : Array Edge} {g : Option (Nat × Bool)} {F : Nat → Prop} {w : World} {μ : bD} {L : List (Nat × Obj)}
theorem Bn {t k e : TypeId} (dd : Nat) (ht : P.underlying t = some (.map k e)) (a : Option Nat) (W : World) : (Op.equalIn (dd + 1) t (.map a) (.map none)).run P W = .ok a.isNone W := by
  cases a <;> simp [Op.equalIn, run_underlying ht]
theorem Fk {tx tv k e : TypeId} {x y : Operand} {r : Option Nat} {b : Bool} (ht : P.underlying tx = some (.map k e)) (hx : aS E x = .map r) (hy : aS E y = .map none) (hb : r.isNone = b) :
    dW P E ⟨d, .binOp .eql tx x y tv, ty, pos, af, g⟩ W (.bool b) W := by
  subst hb
  show (do let r ← (do eqGuard .eql tx x y (aS E x) (aS E y); binOp .eql tx (aS E x) (aS E y)); pure (.value r) : Sem Next).run P W = _
  rw [hx, hy]
  have h0 := Bn 9999 ht r W
  simp [eqGuard, binOp, Op.equal, show Op.maxDepth = 9999 + 1 from rfl, h0]
theorem Ew {κ κ2 β : Type} {kenc : κ → Value} {kenc2 : κ2 → Value} {vf : β → Value} {beq : κ → κ → Bool} {tx tv kt e : TypeId} {x y : Operand} {mv : Value} {lv : List (κ × Value)} {l : List (κ × List (κ2 × β))} {R : List (Nat × Obj)} {k : κ} (hk : ∀ {x y : κ}, beq x y = true → x = y)
    (ht : P.underlying tx = some (.map kt e)) (h : eQ kenc (dS kenc2 vf) mv lv l R) (hx : aS E x = jL beq lv k (.map none)) (hy : aS E y = .map none) :
    dW P E ⟨d, .binOp .eql tx x y tv, ty, pos, af, g⟩ W (.bool (cH beq l k).isNone) W := by
  obtain ⟨r, h1, h2⟩ := h.isNil hk k
  exact Fk ht (hx.trans h1) hy h2
theorem xX {κ γ : Type} {Kk : Value → World → Prop} {t : TypeId} (kenc : κ → Value) (Q : Value → γ → List (Nat × Obj) → Prop) (hST : ST dd F w W μ L) (hK : ∀ W' v R, ST dd F w W' μ (R ++ L) → dX kenc Q v [] R → Kk v W') : gG P E ⟨d, .makeMap t none, ty, pos, af, g⟩ W Kk :=
  Cw kenc (fun x : Value => x) hST (fun W' v R h1 h2 => hK W' v R h1 (dX.new h2))
end
def lJ {α : Type} (e : TypeId) (enc : α → List Value) (k : Nat) (v : Value) (l : List α) (R : List (Nat × Obj)) : Prop :=
  (v = .slice none 0 0 ∧ l = [] ∧ R = []) ∨
  ∃ g off cap cur, v = .slice (some ⟨g, off, none⟩) l.length cap ∧ R = [(g, .cells cur e (0, 0))] ∧ l.length ≤ cap ∧ cap ≤ maxLen ∧ off + cap * k ≤ cur.size ∧ (cur.toList.drop off).take (l.length * k) = (l.map enc).flatten
section
variable {α : Type} {e : TypeId} {enc : α → List Value} {k : Nat} {v : Value} {l : List α} {R : List (Nat × Obj)}
theorem lJ.nil (e : TypeId) (enc : α → List Value) (k : Nat) : lJ e enc k (.slice none 0 0) [] [] := .inl ⟨rfl, rfl, rfl⟩
theorem bI.que (h : bI e enc k v l R) : lJ e enc k v l R := by
  rcases h with h | ⟨g, cap, cur, h1, h2, h3, h4, h5, h6⟩
  · exact .inl h
  · exact .inr ⟨g, 0, cap, cur, h1, h2, h3, h4, by omega, by simpa using h6⟩
theorem lJ.len (h : lJ e enc k v l R) : l.length ≤ 9223372036854775807 := by
  rcases h with ⟨rfl, rfl, rfl⟩ | ⟨g, off, cap, cur, rfl, rfl, h1, h2, _⟩
  · simp
  · unfold maxLen at h2; omega
theorem lJ.form (h : lJ e enc k v l R) : ∃ A c, v = .slice A l.length c := by
  rcases h with ⟨rfl, rfl, rfl⟩ | ⟨g, off, cap, cur, rfl, rfl, _⟩
  · exact ⟨_, _, rfl⟩
  · exact ⟨_, _, rfl⟩
theorem lJ.slL (h : lJ e enc k v l R) (hk : ∀ x, (enc x).length = k) : Sl (Pl enc) k (xm R) v l := by
  rcases h with ⟨rfl, rfl, rfl⟩ | ⟨g, off, cap, cur, rfl, rfl, h1, h2, h3, h4⟩
  · exact Sl.nil _ _ _
  · refine ⟨_, cap, rfl, h1, h2, fun _ => ⟨g, off, cur, e, (0, 0), rfl, by simp [xm], fun i x hx => ⟨enc x, hk x, rfl, fun j y hy => ?_⟩⟩⟩
    have := sx hk l i x hx j y hy
    rw [← h4] at this
    have hlt : i * k + j < l.length * k := by
      have := (List.getElem?_eq_some_iff.1 this).1
      simp at this; omega
    rw [List.getElem?_take_of_lt hlt, List.getElem?_drop] at this
    simpa [Nat.add_assoc] using this
variable {P : Program} {W : World} {E : Nat → Value} {d : Option Nat} {ty : TypeId} {pos : String} {af : Array Edge} {g : Option (Nat × Bool)} {F : Nat → Prop} {w : World} {μ : bD} {L : List (Nat × Obj)}
theorem Hd {x : Operand} {t e2 : TypeId} (ht : P.underlying t = some (.slice e2)) (hx : aS E x = v) (h : lJ e enc k v l R) : dW P E ⟨d, .call ⟨.builtin .len, #[x], #[t]⟩, ty, pos, af, g⟩ W (.int .i64 l.length) W := by
  obtain ⟨A, c, rfl⟩ := h.form
  exact xP ht hx
theorem FR {t e2 : TypeId} {x il : Operand} {ik : IntKind} {i : Int} (ht : P.underlying t = some (.slice e2)) (he : ∀ w, (sizeOf e2).run P w = .ok k w) (hx : aS E x = v) (hi : aS E il = .int ik i) (hk : ∀ x, (enc x).length = k) (h : lJ e enc k v l R) (h0 : 0 ≤ i) (hl : i ≤ l.length) :
    ∃ u, lJ e enc k u (l.drop i.toNat) R ∧ ∀ W, dW P E ⟨d, .slice t x (some il) none none, ty, pos, af, g⟩ W u W := by
  rcases h with ⟨rfl, rfl, rfl⟩ | ⟨g', off, cap, cur, rfl, rfl, h1, h2, h3, h4⟩
  · have : i = 0 := by simp at hl; omega
    subst this
    refine ⟨.slice none 0 0, by simpa using lJ.nil e enc k, fun W => ?_⟩
    show (do pure (.value (← Instr.sliceAt t (aS E x) (some (aS E il)) none none)) : Sem Next).run P W = _
    rw [hx, hi]
    simp [Instr.sliceAt, Instr.slice, Instr.sliceBounds, Instr.sliceBound, asIntOf, run_underlying ht, he W]
  · refine ⟨.slice (some (if cap = i.toNat then ⟨g', off, none⟩ else (Addr.add ⟨g', off, none⟩ (i.toNat * k)))) (l.length - i.toNat) (cap - i.toNat), .inr ?_, fun W => ?_⟩
    · have hll : (l.drop i.toNat).length = l.length - i.toNat := by simp
      have hmap : (l.map enc).flatten.drop (i.toNat * k) = ((l.drop i.toNat).map enc).flatten := by
        have h5 : l = l.take i.toNat ++ l.drop i.toNat := (List.take_append_drop _ _).symm
        have h6 : ((l.take i.toNat).map enc).flatten.length = i.toNat * k := by rw [kV hk, List.length_take, Nat.min_eq_left (by omega)]
        conv => lhs; rw [h5, List.map_append, List.flatten_append]
        rw [← h6, List.drop_left]
      by_cases hc : cap = i.toNat
      · rw [if_pos hc]
        have hn : l.drop i.toNat = [] := List.drop_eq_nil_of_le (by omega)
        refine ⟨g', off, cap - i.toNat, cur, by rw [hn]; simp; omega, rfl, by rw [hn]; simp, by omega, by have : (cap - i.toNat) * k ≤ cap * k := Nat.mul_le_mul_right _ (by omega); omega, by rw [hn]; simp⟩
      · rw [if_neg hc]
        refine ⟨g', off + i.toNat * k, cap - i.toNat, cur, by rw [hll, Addr.add_lit], rfl, by rw [hll]; omega, by omega, ?_, ?_⟩
        · have : i.toNat * k + (cap - i.toNat) * k = cap * k := by rw [← Nat.add_mul]; congr 1; omega
          omega
        · rw [hll, ← hmap, ← h4, List.drop_take, List.drop_drop, Nat.sub_mul]
    · show (do pure (.value (← Instr.sliceAt t (aS E x) (some (aS E il)) none none)) : Sem Next).run P W = _
      rw [hx, hi]
      have hb : 0 ≤ i ∧ i ≤ (l.length : Int) := ⟨h0, hl⟩
      simp [Instr.sliceAt, Instr.slice, Instr.sliceBounds, Instr.sliceBound, asIntOf, run_underlying ht, he W, hb]
      split <;> rfl
theorem EK {K : Value → World → Prop} {t : TypeId} {by_ : Nat} {z vs : Value} {m r : List α} (X : List (Nat × Obj)) {Y : List (Nat × Obj)} {x y : Operand} {i : TypeInfo}
    (hST : ST dd F w W μ (X ++ (R ++ Y))) (hk : ∀ x, (enc x).length = k) (hk0 : 0 < k) (h1 : ∀ x, ∀ u ∈ enc x, u.oneCell' = true) (ht : P.underlying t = some (.slice e)) (hi : P.info? e = some i) (hz : i.zero = some z) (hzs : z.cells.size = k) (hsz : i.size = k) (hby : i.bytes = by_)
    (hx : aS E x = v) (hy : aS E y = vs) (hR : lJ e enc k v l R) (hs : Sl (Pl enc) k (hp W) vs m) (hb : fK by_ l m = some r)
    (h : ∀ W' v' R', ST dd F w W' μ (X ++ (R' ++ Y)) → lJ e enc k v' r R' → K v' W') : gG P E ⟨d, .call ⟨.builtin .append, #[x, y], #[t, t]⟩, ty, pos, af, g⟩ W K := by
  rcases hR with ⟨rfl, rfl, rfl⟩ | ⟨g', off, cap, cur, rfl, rfl, h2, h3, h4, h5⟩
  · exact D1 X hST hk hk0 h1 ht hi hz hzs hsz hby hx hy (bI.nil e enc k) hs hb (fun W' v' R' a b => h W' v' R' a b.que)
  unfold fK at hb
  split at hb
  case isFalse => cases hb
  rename_i hbb
  cases hb
  have hrun : ∀ (V : Value) (W' : World), (Builtin.append_ #[t, t] ty #[.slice (some ⟨g', off, none⟩) l.length cap, vs]).run P W = .ok V W' → (execOp (aS E) ⟨d, .call ⟨.builtin .append, #[x, y], #[t, t]⟩, ty, pos, af, g⟩).run P W = .ok (.value V) W' := by
    intro V W' hV
    show (do let d ← resolve (aS E) ⟨.builtin .append, #[x, y], #[t, t]⟩ ty; invoke d.target d.args : Sem Next).run P W = _
    simp [resolve, invoke, builtin, hx, hy, hV]
  obtain ⟨A, c, rfl, hc1, hc2, hc3⟩ := hs
  have hST0 : ST dd F w W μ (X ++ (g', .cells cur e (0, 0)) :: Y) := by simpa using hST
  have hg : W.heap[g']? = some (.cells cur e (0, 0)) := (hST0.box g' _ (by simp)).1
  have hfl := kV hk l
  have hone : ∀ u ∈ (m.map enc).flatten, u.oneCell' = true := by
    intro u hu
    obtain ⟨ys, hys, hu'⟩ := List.mem_flatten.1 hu
    obtain ⟨x, _, rfl⟩ := List.mem_map.1 hys
    exact h1 x u hu'
  have hsrc : Src P i.size t (.slice A m.length c) m.length ((m.map enc).flatten) W := by
    rw [hsz]
    rcases Nat.eq_zero_or_pos m.length with h0 | h0
    · have hm : m = [] := List.eq_nil_of_length_eq_zero h0
      subst hm
      cases A with
      | none => exact Src.ofNil W ht c
      | some ad => exact Src.ofSlice W ht ad 0 c [] (by simp) (fun j u hu => by simp at hu) (fun u hu => by cases hu)
    · obtain ⟨b, o, cs, T, fr, rfl, h6, h7⟩ := hc3 h0
      refine Src.ofSlice W ht _ _ c _ (kV hk m) (fun j u hu => ?_) hone
      obtain ⟨i, x, q, h8, h9, rfl⟩ := AI hk m j u hu
      obtain ⟨ys, _, h11, h12⟩ := h7 i x h8
      cases h11
      rw [Addr.add_lit, cell_of_row W b (o + (i * k + q)) cs T fr h6, ← Nat.add_assoc]
      exact h12 q u h9
  have hfml := kV hk m
  have hfin : ((l ++ m).map enc).flatten = (l.map enc).flatten ++ (m.map enc).flatten := by simp
  generalize (m.map enc).flatten = fm at hsrc hone hfml hfin
  subst hsz
  have hlk : l.length * i.size ≤ cap * i.size := Nat.mul_le_mul_right _ h2
  by_cases hroom : l.length + m.length ≤ cap
  · have hmk : l.length * i.size + m.length * i.size ≤ cap * i.size := by rw [← Nat.add_mul]; exact Nat.mul_le_mul_right _ hroom
    have hst := run_storeCells_at (P := P) g' (off + l.length * i.size) e fm 0 cur W hg (by rw [hfml]; omega) hone
    have happ : (Builtin.append_ #[t, t] ty #[.slice (some ⟨g', off, none⟩) l.length cap, .slice A m.length c]).run P W = .ok (.slice (some ⟨g', off, none⟩) (l.length + m.length) cap) (W.setRow g' (cur.toList.take (off + l.length * i.size) ++ fm ++ cur.toList.drop (off + l.length * i.size + fm.length)).toArray) := by
      simp [Builtin.append_, run_underlying ht, sizeOf, typeInfo, hi, hsrc.len, hroom, hsrc.cells, Addr.add_lit]
      simp only [Nat.add_zero] at hst
      rw [hst]
      simp
    refine .inl ⟨_, _, hrun _ _ happ, h _ _ [(g', _)] (by simpa using hST0.store _) (.inr ⟨g', off, cap, _, by rw [List.length_append], rfl, by simpa using hroom, h3, ?_, ?_⟩)⟩
    · simp only [List.size_toArray, List.length_append, List.length_take, List.length_drop, Array.length_toList, hfml]
      rw [Nat.min_eq_left (by omega)]
      omega
    · have hA : (cur.toList.take (off + l.length * i.size)).length = off + l.length * i.size := by simp; omega
      show ((cur.toList.take (off + l.length * i.size) ++ (fm ++ cur.toList.drop (off + l.length * i.size + fm.length))).drop off).take ((l ++ m).length * i.size) = _
      rw [hfin, List.drop_append, List.drop_take, hA, show off - (off + l.length * i.size) = 0 by omega, List.drop_zero, show off + l.length * i.size - off = l.length * i.size by omega, h5]
      rw [List.length_append, Nat.add_mul, List.take_append, List.take_append, hfl, hfml, List.take_of_length_le (by rw [hfl]; omega), show l.length * i.size + m.length * i.size - l.length * i.size = m.length * i.size by omega, List.take_of_length_le (by rw [hfml]; omega)]
      simp
  · have hold : (Builtin.firstCells i.size l.length (.slice (some ⟨g', off, none⟩) l.length cap)).run P W.drew = .ok ((l.map enc).flatten).toArray W.drew := by
      refine run_firstCells_some W.drew i.size l.length ⟨g', off, none⟩ l.length cap _ hfl (fun j u hu => ?_)
      rw [Addr.add_lit]
      show W.cell? ⟨g', off + j, none⟩ = some u
      rw [cell_of_row W g' (off + j) cur e (0, 0) hg]
      rw [← h5] at hu
      have hj : j < l.length * i.size := by have := (List.getElem?_eq_some_iff.1 hu).1; simp at this; omega
      rw [List.getElem?_take_of_lt hj, List.getElem?_drop] at hu
      simpa using hu
    have hlen : (l ++ m).length = l.length + m.length := List.length_append
    have hge := grownCap_ge W (l.length + m.length) cap e
    have hcm := grownCap_le_maxLen W (l.length + m.length) cap e hbb.2
    have happ := run_append_grow_src (P := P) W t t ty e i z ht hi hz (some ⟨g', off, none⟩) l.length cap ((l.map enc).flatten) hold _ m.length _ hsrc (by omega) (by have := hbb.2; unfold maxLen at this; omega) (growslice_fits (by omega) (by rw [hby]; exact hbb.1))
    have h6 := hST0.drew.alloc (.cells (((l.map enc).flatten ++ fm).toArray ++ Builtin.zeroCells z.cells (grownCap W (l.length + m.length) cap e - (l.length + m.length))) e (0, 0))
    have h7 := (ST.drop (A := (W.drew.heap.size, _) :: X) h6).perm (L' := X ++ ([(W.heap.size, _)] ++ Y)) (by simpa using (List.perm_middle (a := (W.heap.size, _)) (l₁ := X) (l₂ := Y)).symm)
    refine .inl ⟨_, _, hrun _ _ happ, h _ _ _ h7 (bI.que (.inr ⟨W.heap.size, grownCap W (l.length + m.length) cap e, _, by rw [hlen], rfl, by rw [hlen]; exact hge, hcm, ?_, ?_⟩))⟩
    · rw [Array.size_append, size_zeroCells, hzs]
      simp only [List.size_toArray, List.length_append, hfl, hfml]
      rw [← Nat.add_mul, ← Nat.add_mul]
      congr 1
      omega
    · rw [Array.toList_append, List.toList_toArray, hlen, hfin, List.take_append_of_le_length (by simp only [List.length_append, hfl, hfml]; rw [Nat.add_mul]; exact Nat.le_refl _), List.take_of_length_le (by simp only [List.length_append, hfl, hfml]; rw [Nat.add_mul]; exact Nat.le_refl _)]
end
end Go.Proofs.YtmlncblocfcmiaaGreat
namespace Go.Proofs.YtmlncblocfcmiaaGreat
open Go.RowKit
section
variable {P : Program} {ops : Array Oper} {Q : Exit → Act → World → Prop} {S : Array Bool → World → Prop}
def tq (ops : Array Oper) (l : Array Bool) : Prop := ∀ j o, ops[j]? = some o → l.getD j true = true → ∀ e ∈ o.after, Region.binds .any e = true → l.getD e.on true = true
def Bh (ops : Array Oper) : Nat → List Nat → Bool
  | _, [] => true
  | j, k :: r => (match ops[j]? with | some o => o.after.any (fun e => Region.binds .any e && e.on == k) | none => false) && Bh ops k r
theorem Bb {l : Array Bool} (hc : tq ops l) : ∀ (r : List Nat) (j i : Nat), Bh ops j r = true → (j :: r).getLast? = some i → l.getD j true = true → l.getD i true = true
  | [], j, i, _, h, hj => by simp at h; subst h; exact hj
  | k :: r, j, i, h, hl, hj => by
    simp only [Bh, Bool.and_eq_true] at h
    obtain ⟨h1, h2⟩ := h
    cases ho : ops[j]? with
    | none => rw [ho] at h1; cases h1
    | some o =>
      rw [ho] at h1
      simp only [Array.any_eq_true] at h1
      obtain ⟨n, hn, h1⟩ := h1
      simp only [Bool.and_eq_true, beq_iff_eq] at h1
      have := hc j o ho hj o.after[n] (Array.getElem_mem hn) h1.1
      rw [h1.2] at this
      exact Bb hc r k i h2 (by simpa [List.getLast?_cons_cons] using hl) this
def AN (ops : Array Oper) (i : Nat) (l : Array Bool) : Prop := tq ops l ∧ l.getD i true = false
theorem AN.bar {l : Array Bool} {i : Nat} (h : AN ops i l) (j : Nat) (r : List Nat) (hc : Bh ops j r = true) (hl : (j :: r).getLast? = some i) : l.getD j true = false := by
  cases hj : l.getD j true with
  | false => rfl
  | true => have := Bb h.1 r j i hc hl hj; rw [h.2] at this; cases this
theorem tq.start (n : Nat) (h : n = ops.size) : tq ops (Array.replicate n false) := by
  subst h
  intro j o ho hj
  have hlt : j < ops.size := (Array.getElem?_eq_some_iff.1 ho).1
  simp [hlt] at hj
theorem tq.set {l : Array Bool} {i : Nat} (h : tq ops l) (hr : i ∈ Region.ready .any ops l) : tq ops (l.setIfInBounds i true) := by
  intro j o ho hj e he hb
  have up : ∀ {k : Nat}, l.getD k true = true → (l.setIfInBounds i true).getD k true = true := fun {k} hk => by
    by_cases hik : i = k
    · subst hik
      by_cases hs : i < l.size
      · simp [hs]
      · simp [hs]
    · rw [getD_set_ne true hik]; exact hk
  by_cases hij : i = j
  · subst hij
    obtain ⟨_, o', ho', hall⟩ := mem_ready.1 hr
    rw [ho] at ho'
    cases ho'
    refine up ?_
    have := hall e he hb
    by_cases hs : e.on < l.size
    · simp [hs] at this ⊢; exact this
    · simp [hs]
  · rw [getD_set_ne true hij] at hj
    exact up (h j o ho hj e he hb)
def xt (P : Program) (ops : Array Oper) (S : Array Bool → World → Prop) (i : Nat) (o : Oper) (v : Value) (a : Act) : Prop :=
  (Region.wanted o (yielded ops a.tmps) = true ∧ ∀ l w, AN ops i l → S l w → (execOp a.eval o).run P w = .ok (.value v) w) ∨
  (Region.wanted o (yielded ops a.tmps) = false ∧ v = undef)
theorem xt.if_ {i : Nat} {o : Oper} {v : Value} {a : Act} {l : Array Bool} (h : xt P ops S i o v a) (hp : AN ops i l) : YieldsIf P ops (S l) o v a :=
  h.imp (fun ⟨h1, h2⟩ => ⟨h1, fun w hw => h2 l w hp hw⟩) id
def E4 (P : Program) (ops : Array Oper) (Q : Exit → Act → World → Prop) (S : Array Bool → World → Prop) : Nat → Array Bool → Act → World → Prop
  | 0, l, a, w => Region.ready .any ops l = [] ∧ Q .normal a w
  | n + 1, l, a, w => (Region.ready .any ops l = [] → Q .normal a w) ∧
    ∀ i ∈ Region.ready .any ops l, wpOp P ops Q i (fun a' w' => S (l.setIfInBounds i true) w' ∧ E4 P ops Q S n (l.setIfInBounds i true) a' w') a w
theorem E8 : ∀ (n : Nat) (l : Array Bool) (a : Act) (w : World), E4 P ops Q S n l a w → wpAny P .any ops Q n l a w
  | 0, _, _, _, h => h
  | n + 1, _, _, _, h => ⟨h.1, fun i hi => wpOp_mono (fun a' w' h' => E8 n _ a' w' h'.2) (h.2 i hi)⟩
theorem GP {i j : Nat} {oi oj : Oper} {v : Value} (hj : ops[j]? = some oj) (hap : oi.apart ops oj = true) (hsi : ∀ cs b, oi.op ≠ .select cs b) (hsj : ∀ cs b, oj.op ≠ .select cs b)
    (hQ : ∀ c a w, Q (.panic c) (a.put oi.dst v) w → Q (.panic c) a w) {K : Act → World → Prop} {a : Act} {w : World} (hy : xt P ops S i oi v a) (h : wpOp P ops Q j K (a.put oi.dst v) w) :
    wpOp P ops Q j (fun a' w' => xt P ops S i oi v a' ∧ K (a'.put oi.dst v) w') a w := by
  have h1 : YieldsIf P ops (fun w => ∃ l, AN ops i l ∧ S l w) oi v a := hy.imp (fun ⟨h1, h2⟩ => ⟨h1, fun w ⟨l, hp, hw⟩ => h2 l w hp hw⟩) id
  refine wpOp_mono (fun a' w' h' => ⟨h'.1.imp (fun ⟨h1, h2⟩ => ⟨h1, fun l w hp hw => h2 w ⟨l, hp, hw⟩⟩) id, h'.2⟩) (wpOp_putIf (S := fun w => ∃ l, AN ops i l ∧ S l w) hj hap hsi hsj hQ h1 h)
theorem CO {i : Nat} {oi : Oper} {v : Value} (hi : ops[i]? = some oi) (hsel : ∀ (j : Nat) (o : Oper) cs b, ops[j]? = some o → o.op ≠ .select cs b) (hQ : ∀ c a w, Q (.panic c) (a.put oi.dst v) w → Q (.panic c) a w)
    (hm : ∀ l w, S (l.setIfInBounds i true) w → S l w) :
    ∀ (n : Nat) (l : Array Bool) (a : Act) (w : World), (∀ j oj, ops[j]? = some oj → j ≠ i → l.getD j true = false → (∀ e ∈ oj.after, Region.binds .any e = true → e.on ≠ i) → oi.apart ops oj = true) →
      tq ops l → i ∈ Region.ready .any ops l → xt P ops S i oi v a → S (l.setIfInBounds i true) w → E4 P ops Q S n (l.setIfInBounds i true) (a.put oi.dst v) w → E4 P ops Q S (n + 1) l a w := by
  intro n
  induction n with
  | zero =>
    intro l a w _ hc hr hy hS H
    refine ⟨fun h => (by rw [h] at hr; cases hr), fun j hj => ?_⟩
    by_cases hji : j = i
    · subst hji
      exact (hy.if_ ⟨hc, (mem_ready.1 hr).1⟩).wpOp hi (hm l w hS) ⟨hS, H⟩
    · have := ready_mono hj hji
      rw [H.1] at this
      cases this
  | succ n ih =>
    intro l a w hfree hc hr hy hS H
    refine ⟨fun h => (by rw [h] at hr; cases hr), fun j hj => ?_⟩
    by_cases hji : j = i
    · subst hji
      exact (hy.if_ ⟨hc, (mem_ready.1 hr).1⟩).wpOp hi (hm l w hS) ⟨hS, H⟩
    have h1 := H.2 j (ready_mono hj hji)
    obtain ⟨hjun, oj, hoj, hall⟩ := mem_ready.1 hj
    have hnot : ∀ e ∈ oj.after, Region.binds .any e = true → e.on ≠ i := fun e he hb heq => by
      have h2 := hall e he hb
      have h0 := (mem_ready.1 hr).1
      rw [heq] at h2
      rcases Nat.lt_or_ge i l.size with h' | h'
      · simp [h'] at h0 h2; rw [h0] at h2; cases h2
      · simp [Array.getElem?_eq_none h'] at h2
    have h2 := GP hoj (hfree j oj hoj hji hjun hnot) (fun cs b => hsel i oi cs b hi) (fun cs b => hsel j oj cs b hoj) hQ hy h1
    have hfree' : ∀ k ok, ops[k]? = some ok → k ≠ i → (l.setIfInBounds j true).getD k true = false → (∀ e ∈ ok.after, Region.binds .any e = true → e.on ≠ i) → oi.apart ops ok = true := fun k ok hk hki hun hno => by
      refine hfree k ok hk hki ?_ hno
      by_cases hjk : j = k
      · subst hjk; exact hjun
      · rw [getD_set_ne true hjk] at hun; exact hun
    have hcomm : (l.setIfInBounds i true).setIfInBounds j true = (l.setIfInBounds j true).setIfInBounds i true := Array.setIfInBounds_comm _ _ (Ne.symm hji)
    refine wpOp_mono (fun a' w' h3 => ?_) h2
    have h4 : S ((l.setIfInBounds j true).setIfInBounds i true) w' := by rw [← hcomm]; exact h3.2.1
    refine ⟨hm _ w' h4, ih (l.setIfInBounds j true) a' w' hfree' (hc.set hj) (ready_mono hr (Ne.symm hji)) h3.1 h4 ?_⟩
    rw [← hcomm]
    exact h3.2.2
end
def PX (P : Program) (n : Nat) (ops : Array Oper) (Q : mP) (S : Array Bool → World → Prop) (fuel : Nat) (listed : Array Bool) (E : Nat → Value) (W : World) : Prop :=
  tq ops listed → ∀ a, Ag n a E → E4 P ops (lift n Q) S fuel listed a W
section
variable {P : Program} {n : Nat} {Q : mP} {E : Nat → Value} {W : World} {ops : Array Oper} {S : Array Bool → World → Prop} {fuel : Nat} {listed : Array Bool}
theorem DN {id : Nat} {l : List Oper} (S : Array Bool → World → Prop) (hm : P.follows .mixedOrders = true) (h : PX P n l.toArray Q S l.length (Array.replicate l.length false) E W.drew) : CW P n (.region id l.toArray true) Q E W := fun a ha =>
  wp_region_any hm (E8 _ _ _ _ (h (tq.start _ (by simp)) a ha))
def wD (ops : Array Oper) (listed : Array Bool) (i : Nat) : Bool := Region.noSelect ops && Region.free .any ops listed i && (Region.ready .any ops listed).contains i
theorem cN {o : Oper} {dd : Nat} {v : Value} (i : Nat) (hi : ops[i]? = some o) (hk : wD ops listed i = true) (hw : nK n ops E o) (hd : o.dst = some dd) (hn : dd < n) (hm : ∀ l w, S (l.setIfInBounds i true) w → S l w) (hS : S (listed.setIfInBounds i true) W)
    (hy : ∀ l W, AN ops i l → S l W → dW P E o W v W) (h : PX P n ops Q S fuel (listed.setIfInBounds i true) (lR E dd v) W) : PX P n ops Q S (fuel + 1) listed E W := fun hc a ha => by
  simp only [wD, Bool.and_eq_true] at hk
  have hr : i ∈ Region.ready .any ops listed := by simpa using hk.2
  exact CO hi (Region.noSelect_spec hk.1.1) (fun _ _ _ h => h) hm fuel listed a W (Region.free_spec hi hk.1.2) hc hr (.inl ⟨hw.of ha, fun l w hp hw' => by rw [ha.eval]; exact hy l w hp hw'⟩) hS (by rw [hd]; exact h (hc.set hr) _ (ha.put hn v))
theorem pB {A : Value → Prop} {o : Oper} {dd : Nat} (i : Nat) (hi : ops[i]? = some o) (hk : wD ops listed i = true) (hw : nK n ops E o) (hd : o.dst = some dd) (hn : dd < n) (hm : ∀ l w, S (l.setIfInBounds i true) w → S l w) (hS : S (listed.setIfInBounds i true) W)
    (hy : ∃ p, A p ∧ ∀ W, dW P E o W p W) (h : ∀ p, A p → PX P n ops Q S fuel (listed.setIfInBounds i true) (lR E dd p) W) : PX P n ops Q S (fuel + 1) listed E W := by
  obtain ⟨p, h1, h2⟩ := hy
  exact cN i hi hk hw hd hn hm hS (fun _ W _ _ => h2 W) (h p h1)
theorem E6 {o : Oper} {dd : Nat} (i : Nat) (hi : ops[i]? = some o) (hk : wD ops listed i = true) (hw : ∀ a, Ag n a E → Region.wanted o (yielded ops a.tmps) = false) (hd : o.dst = some dd) (hn : dd < n) (hm : ∀ l w, S (l.setIfInBounds i true) w → S l w) (hS : S (listed.setIfInBounds i true) W)
    (h : PX P n ops Q S fuel (listed.setIfInBounds i true) (lR E dd undef) W) : PX P n ops Q S (fuel + 1) listed E W := fun hc a ha => by
  simp only [wD, Bool.and_eq_true] at hk
  have hr : i ∈ Region.ready .any ops listed := by simpa using hk.2
  exact CO hi (Region.noSelect_spec hk.1.1) (fun _ _ _ h => h) hm fuel listed a W (Region.free_spec hi hk.1.2) hc hr (.inr ⟨hw a ha, rfl⟩) hS (by rw [hd]; exact h (hc.set hr) _ (ha.put hn _))
theorem Kj {o : Oper} {dd j t : Nat} {want : Bool} (i : Nat) (hi : ops[i]? = some o) (hk : wD ops listed i = true) (hg : o.guard = some (j, want)) (hj : (ops[j]?).bind (·.dst) = some t) (ht : t < n) (hE : E t = .bool (!want)) (hd : o.dst = some dd) (hn : dd < n)
    (hm : ∀ l w, S (l.setIfInBounds i true) w → S l w) (hS : S (listed.setIfInBounds i true) W) (h : PX P n ops Q S fuel (listed.setIfInBounds i true) (lR E dd undef) W) : PX P n ops Q S (fuel + 1) listed E W :=
  E6 i hi hk (fun a ha => by have hy := ha.yield hj ht hE; simp [Region.wanted, hg, hy]) hd hn hm hS h
theorem Jn {o : Oper} {dd j t : Nat} {want : Bool} (i : Nat) (hi : ops[i]? = some o) (hk : wD ops listed i = true) (hg : o.guard = some (j, want)) (hj : (ops[j]?).bind (·.dst) = some t) (ht : t < n) (hE : E t = undef) (hd : o.dst = some dd) (hn : dd < n)
    (hm : ∀ l w, S (l.setIfInBounds i true) w → S l w) (hS : S (listed.setIfInBounds i true) W) (h : PX P n ops Q S fuel (listed.setIfInBounds i true) (lR E dd undef) W) : PX P n ops Q S (fuel + 1) listed E W :=
  E6 i hi hk (fun a ha => by have hy := ha.yield_none hj ht hE; simp [Region.wanted, hg, hy]) hd hn hm hS h
theorem JF {o : Oper} {dd : Nat} (i : Nat) (hi : ops[i]? = some o) (hr : Region.ready .any ops listed = [i]) (hw : nK n ops E o) (hd : o.dst = some dd) (hn : dd < n)
    (h : gG P E o W fun v W' => S (listed.setIfInBounds i true) W' ∧ PX P n ops Q S fuel (listed.setIfInBounds i true) (lR E dd v) W') : PX P n ops Q S (fuel + 1) listed E W := fun hc a ha => by
  have hmem : i ∈ Region.ready .any ops listed := by rw [hr]; simp
  refine ⟨fun h0 => (by rw [h0] at hr; cases hr), fun j hj => ?_⟩
  rw [hr] at hj
  obtain rfl := List.mem_singleton.1 hj
  unfold wpOp
  simp only [hi]
  rw [if_pos (hw.of ha)]
  refine .inl ?_
  unfold Oper.wp
  rw [ha.eval]
  rcases h with ⟨v, W', h1, h2⟩ | ⟨W', h1, h2⟩ | ⟨f, args, h1, h2⟩
  · rw [h1, Oper.upon_value]; exact ⟨h2.1, by rw [hd]; exact h2.2 (hc.set hmem) _ (ha.put hn v)⟩
  · rw [h1, Oper.upon_skip]; exact ⟨h2.1, by rw [hd]; exact h2.2 (hc.set hmem) _ (ha.put hn _)⟩
  · rw [h1, Oper.upon_enter]
    refine Calls.mono h2 ?_
    rintro e w' ⟨v, rfl, hl⟩
    exact ⟨hl.1, by simp only [hd]; exact hl.2 (hc.set hmem) _ (ha.put hn v)⟩
theorem Kh {o : Oper} (i : Nat) (hi : ops[i]? = some o) (hr : Region.ready .any ops listed = [i]) (hw : nK n ops E o) (hd : o.dst = none)
    (h : gG P E o W fun _ W' => S (listed.setIfInBounds i true) W' ∧ PX P n ops Q S fuel (listed.setIfInBounds i true) E W') : PX P n ops Q S (fuel + 1) listed E W := fun hc a ha => by
  have hmem : i ∈ Region.ready .any ops listed := by rw [hr]; simp
  refine ⟨fun h0 => (by rw [h0] at hr; cases hr), fun j hj => ?_⟩
  rw [hr] at hj
  obtain rfl := List.mem_singleton.1 hj
  unfold wpOp
  simp only [hi]
  rw [if_pos (hw.of ha)]
  refine .inl ?_
  unfold Oper.wp
  rw [ha.eval]
  rcases h with ⟨v, W', h1, h2⟩ | ⟨W', h1, h2⟩ | ⟨f, args, h1, h2⟩
  · rw [h1, Oper.upon_value, hd]; exact ⟨h2.1, h2.2 (hc.set hmem) _ (ha.put_none _)⟩
  · rw [h1, Oper.upon_skip, hd]; exact ⟨h2.1, h2.2 (hc.set hmem) _ (ha.put_none _)⟩
  · rw [h1, Oper.upon_enter]
    refine Calls.mono h2 ?_
    rintro e w' ⟨v, rfl, hl⟩
    simp only [hd]
    exact ⟨hl.1, hl.2 (hc.set hmem) _ (ha.put_none _)⟩
theorem dB (hr : Region.ready .any ops listed = []) (h : Q .normal E W) : PX P n ops Q S fuel listed E W := fun _ a ha => by
  cases fuel with
  | zero => exact ⟨hr, E, ha, h⟩
  | succ f => exact ⟨fun _ => ⟨E, ha, h⟩, fun i hi => by rw [hr] at hi; cases hi⟩
theorem vh {p : Prop} {b : Bool} (hb : b = true) (h : b = false) : p := by rw [hb] at h; cases h
theorem cV {l' : Array Bool} (hl : listed = l') (h : PX P n ops Q S fuel l' E W) : PX P n ops Q S fuel listed E W := by rw [hl]; exact h
theorem kX {o o' : Oper} {d d' : Nat} (i j : Nat) (hi : ops[i]? = some o) (hj : ops[j]? = some o') (hr : Region.ready .any ops listed = [i, j]) (hw : nK n ops E o) (hw' : nK n ops E o') (hd : o.dst = some d) (hd' : o'.dst = some d') (hn : d < n) (hn' : d' < n)
    (h : gG P E o W fun v W' => S (listed.setIfInBounds i true) W' ∧ PX P n ops Q S fuel (listed.setIfInBounds i true) (lR E d v) W')
    (h' : gG P E o' W fun v W' => S (listed.setIfInBounds j true) W' ∧ PX P n ops Q S fuel (listed.setIfInBounds j true) (lR E d' v) W') : PX P n ops Q S (fuel + 1) listed E W := fun hc a ha => by
  have key : ∀ (k : Nat) (q : Oper) (e : Nat), ops[k]? = some q → k ∈ Region.ready .any ops listed → nK n ops E q → q.dst = some e → e < n → (gG P E q W fun v W' => S (listed.setIfInBounds k true) W' ∧ PX P n ops Q S fuel (listed.setIfInBounds k true) (lR E e v) W') →
      wpOp P ops (lift n Q) k (fun a' w' => S (listed.setIfInBounds k true) w' ∧ E4 P ops (lift n Q) S fuel (listed.setIfInBounds k true) a' w') a W := by
    intro k q e hk hmem hw hd hn h
    unfold wpOp
    simp only [hk]
    rw [if_pos (hw.of ha)]
    refine .inl ?_
    unfold Oper.wp
    rw [ha.eval]
    rcases h with ⟨v, W', h1, h2⟩ | ⟨W', h1, h2⟩ | ⟨f, args, h1, h2⟩
    · rw [h1, Oper.upon_value]; exact ⟨h2.1, by rw [hd]; exact h2.2 (hc.set hmem) _ (ha.put hn v)⟩
    · rw [h1, Oper.upon_skip]; exact ⟨h2.1, by rw [hd]; exact h2.2 (hc.set hmem) _ (ha.put hn _)⟩
    · rw [h1, Oper.upon_enter]
      refine Calls.mono h2 ?_
      rintro e w' ⟨v, rfl, hl⟩
      exact ⟨hl.1, by simp only [hd]; exact hl.2 (hc.set hmem) _ (ha.put hn v)⟩
  refine ⟨fun h0 => (by rw [h0] at hr; cases hr), fun k hk => ?_⟩
  rw [hr] at hk
  rcases List.mem_cons.1 hk with rfl | hk
  · exact key _ o d hi (by rw [hr]; simp) hw hd hn h
  · obtain rfl := List.mem_singleton.1 hk
    exact key _ o' d' hj (by rw [hr]; simp) hw' hd' hn' h'
theorem dG {l : Array Bool} {i j : Nat} {A : Prop} (hij : Nat.beq i j = false) (h : (l.setIfInBounds i true).getD j true = false → A) : l.getD j true = false → A := fun h0 => h (by
  rw [getD_set_ne true (fun e => by subst e; simp at hij)]; exact h0)
end
theorem wl.at {α : Type} {e : TypeId} {enc : α → List Value} {k : Nat} {v : Value} {l : List α} {R : List (Nat × Obj)} (h : bI e enc k v l R) (hk : ∀ x, (enc x).length = k) {p : Value} {i : Nat} (hp : wl R k p i) {x : α} (hl : l[i]? = some x) : At (xm R) p (enc x) := by
  obtain ⟨g', cur, cap, rfl, rfl, _, _, _, _, rfl, h5⟩ := wu h hk hp hl
  exact ⟨g', i * k, cur, e, (0, 0), rfl, by simp [xm], h5⟩
theorem rl.form {κ β : Type} {kenc : κ → Value} {vf : β → Value} {μ : bD} {v : Value} {l : List (κ × β)} (h : rl kenc vf μ v l) : ∃ r, v = .map r := by
  rcases h with ⟨h, _⟩ | ⟨m, es, clock, h, _⟩
  · exact ⟨_, h⟩
  · exact ⟨_, h⟩
noncomputable def Be {β : Type} (l : List (ByteArray × β)) : Option (List ByteArray) :=
  open Classical in if (l.map (·.1)).Nodup ∧ (∀ p ∈ l, p.1.size ≤ maxLen) ∧ l.length * 16 ≤ 140737488355328 then some (qL (l.map (·.1))) else none
def Gu {κ κ2 β α : Type} (by_ : Nat) (mk : κ → κ2 → α) (l : List (κ × List (κ2 × β))) : Option (List α) :=
  if (l.flatMap (fun p => p.2.map (fun q => mk p.1 q.1))).length * by_ ≤ 140737488355328 ∧ (l.flatMap (fun p => p.2.map (fun q => mk p.1 q.1))).length ≤ maxLen then some (l.flatMap (fun p => p.2.map (fun q => mk p.1 q.1))) else none
end Go.Proofs.YtmlncblocfcmiaaGreat
namespace Go.Proofs.YtmlncblocfcmiaaGreat
open Go.RowKit
section
variable {P : Program} {n : Nat} {Q : mP} {E : Nat → Value} {W : World} {ops : Array Oper} {rest : List Oper}
variable {dd : Bool} {α : Type} {enc : α → List Value} {k : Nat} {μ : bD} {v : Value}
variable {d : Option Nat} {ty : TypeId} {pos : String} {af : Array Edge} {g : Option (Nat × Bool)} {F : Nat → Prop} {w : World} {L : List (Nat × Obj)}
def DC (enc : α → List Value) (k : Nat) : jX (List α) := fun μ ys x => ∃ v, ys = [v] ∧ Sl (Pl enc) k μ v x
theorem DC.mono (enc : α → List Value) (k : Nat) : Br (DC enc k) := fun _ _ _ _ hs ⟨v, h1, h2⟩ => ⟨v, h1, h2.mono (Pl.mono _) hs⟩
inductive wP (enc : α → List Value) (k : Nat) (μ : bD) : List Value → List (List α) → Prop
  | nil : wP enc k μ [] []
  | cons {v : Value} {x : List α} {vs : List Value} {l : List (List α)} : Sl (Pl enc) k μ v x → wP enc k μ vs l → wP enc k μ (v :: vs) (x :: l)
theorem wP.length {vs : List Value} {l : List (List α)} (h : wP enc k μ vs l) : vs.length = l.length := by
  induction h with
  | nil => rfl
  | cons _ _ ih => simp [ih]
theorem wP.get {vs : List Value} {l : List (List α)} (h : wP enc k μ vs l) : ∀ (i : Nat) (x : List α), l[i]? = some x → ∃ v, vs[i]? = some v ∧ Sl (Pl enc) k μ v x := by
  induction h with
  | nil => intro i x hx; simp at hx
  | cons h1 _ ih =>
    intro i x hx
    cases i with
    | zero => simp at hx; subst hx; exact ⟨_, rfl, h1⟩
    | succ i => simpa using ih i x (by simpa using hx)
theorem DC.lit {b m : Nat} {vs : List Value} {e : TypeId} {l : List (List α)} (hm : l.length = m) (hM : m ≤ maxLen) (hb : μ b = some (.cells vs.toArray e (0, 0))) (h : wP enc k μ vs l) : Sl (DC enc k) 1 μ (.slice (some ⟨b, 0, none⟩) m m) l := by
  subst hm
  refine ⟨_, _, rfl, Nat.le_refl _, hM, fun _ => ⟨b, 0, _, _, _, rfl, hb, fun i x hx => ?_⟩⟩
  obtain ⟨v, h1, h2⟩ := h.get i x hx
  refine ⟨[v], rfl, ⟨v, rfl, h2⟩, fun j y hy => ?_⟩
  cases j with
  | zero => simp at hy; subst hy; simpa using h1
  | succ j => simp at hy
theorem HG {k2 : Nat} {t e : TypeId} {x ix : Operand} {ik : IntKind} {i : Int} {l : List (List α)} {x0 : List α}
    (ht : P.underlying t = some (.slice e)) (he : ∀ w, (sizeOf e).run P w = .ok 1 w) (hx : aS E x = v) (hi : aS E ix = .int ik i) (hs : Sl (DC enc k2) 1 μ v l) (h0 : 0 ≤ i) (hl : l[i.toNat]? = some x0) :
    ∃ p, (∃ v0, At μ p [v0] ∧ Sl (Pl enc) k2 μ v0 x0) ∧ ∀ W, dW P E ⟨d, .indexAddr t x ix, ty, pos, af, g⟩ W p W := by
  obtain ⟨p, ys, h1, ⟨v0, rfl, h2⟩, h3, h4⟩ := B3 (d := d) (ty := ty) (pos := pos) (af := af) (g := g) ht he hx hi hs h0 hl
  exact ⟨p, ⟨v0, h3, h2⟩, h4⟩
theorem JB {x y : Operand} {ats : Array TypeId} {k : IntKind} {a b : Int} (hx : aS E x = .int k a) (hy : aS E y = .int k b) :
    dW P E ⟨d, .call ⟨.builtin .max, #[x, y], ats⟩, ty, pos, af, g⟩ W (.int k (if b > a then b else a)) W := by
  show (do let d ← resolve (aS E) ⟨.builtin .max, #[x, y], ats⟩ ty; invoke d.target d.args : Sem Next).run P W = _
  simp [resolve, invoke, hx, hy, builtin, Builtin.max_, Builtin.max2]
end
end Go.Proofs.YtmlncblocfcmiaaGreat
namespace Go.Proofs.YtmlncblocfcmiaaGreat
open Go.RowKit
theorem KQ {p : Prop} [Decidable p] {u : Unit} (h : nQ (decide p) = some u) : p := of_decide_eq_true (AM h)
end Go.Proofs.YtmlncblocfcmiaaGreat
namespace Go.Proofs.YtmlncblocfcmiaaGreat
open Go.RowKit
variable {dd : Bool}
section
variable {κ α : Type} {beq : κ → κ → Bool} {kenc : κ → Value} {t : TypeId} {enc : α → List Value}
variable {P : Program} {W : World} {kt : TypeId} {E : Nat → Value} {d : Option Nat} {ty : TypeId} {pos : String} {af : Array Edge} {g : Option (Nat × Bool)} {F : Nat → Prop} {w : World} {μ : bD} {L : List (Nat × Obj)}
theorem Ez {γ δ : Type} {l : List (κ × γ)} {m : List (κ × δ)} {k : κ} (h : l.findIdx? (fun p => beq k p.1) = m.findIdx? (fun p => beq k p.1)) : (cH beq l k).isSome = (cH beq m k).isSome := by
  rw [qC, qC, h]
  cases hi : m.findIdx? (fun p => beq k p.1) with
  | none => rfl
  | some i =>
    obtain ⟨p, hp, _⟩ := kY hi
    rw [hi] at h
    obtain ⟨q, hq, _⟩ := kY h
    simp [hp, hq]
theorem Cf {γ : Type} {Q : Value → γ → List (Nat × Obj) → Prop} {t e : TypeId} {m x : Operand} {mv z : Value} {lv : List (κ × Value)} {l : List (κ × γ)} {R : List (Nat × Obj)} {k : κ} (K : jE P kt kenc beq) (ht : P.underlying t = some (.map kt e)) (hz : ∀ w, (zeroValue e).run P w = .ok z w)
    (hm : aS E m = mv) (hx : aS E x = kenc k) (hM : eQ kenc Q mv lv l R) (hR : ∀ b o, (b, o) ∈ R → W.heap[b]? = some o) : dW P E ⟨d, .lookup t m x true, ty, pos, af, g⟩ W (.tuple #[jL beq lv k z, .bool (cH beq l k).isSome]) W := by
  obtain ⟨Rm, Rv, rfl, h2, h3⟩ := hM
  have h4 := F4 (d := d) (ty := ty) (pos := pos) (af := af) (g := g) K ht hz hm hx (h2.at (μ := hp W) (fun b o h => hR b o (List.mem_append_left _ h)))
  rw [Ez (h3.find k)] at h4
  exact h4
end
section
variable {P : Program} {fn : Func} {R : Ending → World → Prop} {E : Nat → Value} {W : World}
theorem rK {r0 : Tmp} {t0 : TypeId} {a0 : Addr} {v0 : Value} {r1 : Tmp} {v1 : Value} (hr : fn.results = #[.cell r0 t0, .tmp r1]) (h0 : E r0 = .pointer (some a0)) (l0 : (Instr.loadAt t0 (.pointer (some a0))).run P W = .ok v0 W) (h1 : E r1 = v1) (h : R (.returned (.tuple #[v0, v1])) W) : wX P fn R .ret E W :=
  ⟨.tuple #[v0, v1], fun tmps ht => by
    have q0 : (loadVar t0 a0).run P W = .ok v0 W := by simpa [Instr.loadAt, Instr.sureAddr] using l0
    simp [results, hr, ht, asAddr, h0, q0, h1], h⟩
end
end Go.Proofs.YtmlncblocfcmiaaGreat
namespace Go.Proofs.YtmlncblocfcmiaaGreat
open Go.RowKit
section
variable {x y : Nat × Obj} {A B C L R S : List (Nat × Obj)}
theorem Pz : (x :: A).Perm (x :: A) := .refl _
theorem Pb (h : A.Perm (x :: B)) : (y :: A).Perm (x :: y :: B) := (h.cons y).trans (.swap ..)
theorem Pr (h : A.Perm (x :: B)) : (S ++ A).Perm (x :: (S ++ B)) := (h.append_left S).trans List.perm_middle
theorem Qz : (R ++ A).Perm (R ++ A) := .refl _
theorem Qb (h : A.Perm (R ++ B)) : (y :: A).Perm (R ++ (y :: B)) := (h.cons y).trans List.perm_middle.symm
theorem Qr (h : A.Perm (R ++ B)) : (S ++ A).Perm (R ++ (S ++ B)) := (h.append_left S).trans (List.perm_append_comm_assoc S R B)
def fF (L L' : List (Nat × Obj)) : Prop := ∃ M, L.Perm (L' ++ M)
theorem Sn : fF L [] := ⟨L, .refl _⟩
theorem St : fF L L := ⟨[], by rw [List.append_nil]⟩
theorem Sb (h : L.Perm (x :: A)) (k : fF A B) : fF L (x :: B) := let ⟨M, m⟩ := k; ⟨M, h.trans (m.cons x)⟩
theorem Sr (h : L.Perm (R ++ A)) (k : fF A B) : fF L (R ++ B) := let ⟨M, m⟩ := k; ⟨M, by rw [List.append_assoc]; exact h.trans (m.append_left R)⟩
theorem Kb (k : fF A B) : fF (x :: A) (x :: B) := Sb Pz k
theorem Kr (k : fF A B) : fF (R ++ A) (R ++ B) := Sr Qz k
theorem Db (k : fF A B) : fF (x :: A) B := let ⟨M, m⟩ := k; ⟨x :: M, (m.cons x).trans List.perm_middle.symm⟩
theorem Dr (k : fF A B) : fF (R ++ A) B := let ⟨M, m⟩ := k; ⟨R ++ M, (m.append_left R).trans (List.perm_append_comm_assoc R B M)⟩
theorem fF.mem (s : fF L A) : ∀ p, p ∈ A → p ∈ L := fun p hp => let ⟨M, m⟩ := s; m.mem_iff.2 (List.mem_append_left _ hp)
theorem ST.sel {dd : Bool} {F : Nat → Prop} {w W : World} {μ : bD} (h : ST dd F w W μ L) (s : fF L A) : ST dd F w W μ A := let ⟨M, m⟩ := s; (h.perm m).sublist (List.sublist_append_left A M)
theorem iA.sel {μ : bD} {W : World} (h : iA μ L W) (s : fF L A) : iA μ A W := h.sub (bE.refl _) s.mem
theorem iA.selS {μ μ' : bD} {W : World} (h : iA μ L W) (hs : bE μ' μ) (s : fF L A) : iA μ' A W := h.sub hs s.mem
theorem Cn : L.Perm ([] ++ L) := .refl _
theorem Cb (h : L.Perm (x :: A)) (k : A.Perm (B ++ C)) : L.Perm ((x :: B) ++ C) := h.trans (k.cons x)
theorem Cr (h : L.Perm (R ++ A)) (k : A.Perm (B ++ C)) : L.Perm ((R ++ B) ++ C) := by rw [List.append_assoc]; exact h.trans (k.append_left R)
theorem C0 (k : L.Perm (B ++ C)) : L.Perm (([] ++ B) ++ C) := k
theorem Tn : ([] ++ A).Perm A := .refl _
theorem Tb (h : (A ++ B).Perm C) : ((x :: A) ++ B).Perm (x :: C) := h.cons x
theorem Tr (h : (A ++ B).Perm C) : ((R ++ A) ++ B).Perm (R ++ C) := by rw [List.append_assoc]; exact h.append_left R
theorem Nb (h : L.Perm (x :: A)) (k : A.Perm B) : L.Perm (x :: B) := h.trans (k.cons x)
theorem Nr (h : L.Perm (R ++ A)) (k : A.Perm B) : L.Perm (R ++ B) := h.trans (k.append_left R)
theorem Nz : L.Perm L := .refl _
theorem Lc {R' R1 : List (Nat × Obj)} (hp : R.Perm (R' ++ R1)) : (R ++ A).Perm (R' ++ (R1 ++ A)) := by rw [← List.append_assoc]; exact hp.append_right A
theorem Mh : x ∈ x :: A := .head _
theorem Mt (h : x ∈ A) : x ∈ y :: A := .tail _ h
theorem Ma (h : x ∈ A) : x ∈ R ++ A := List.mem_append_right _ h
theorem Ml (h : x ∈ R) : x ∈ R ++ A := List.mem_append_left _ h
end
section
variable {dd : Bool} {F : Nat → Prop} {w W : World} {μ : bD} {L L0 L1 Y R : List (Nat × Obj)}
theorem ST.bkL (h : ST dd dC w W μ L) (s : fF L L1) : rc dd [] L1 w W := let ⟨_, m⟩ := s; (h.perm m).backL
theorem ST.bkM (h : ST dd (keys L0) w W μ L) (s : fF L L1) : rc dd L0 L1 w W := let ⟨_, m⟩ := s; (h.perm m).backM
theorem ST.pubAll : ∀ {R : List (Nat × Obj)} {μ : bD}, ST dd F w W μ (R ++ Y) → ∃ μ', ST dd F w W μ' Y ∧ bE μ μ' ∧ Lo F w μ μ' ∧ ∀ b o, (b, o) ∈ R → μ' b = some o
  | [], μ, h => ⟨μ, h, bE.refl _, Lo.refl, fun _ _ h => by cases h⟩
  | (g, o) :: R, μ, h => by
    have h' : ST dd F w W μ ([] ++ (g, o) :: (R ++ Y)) := h
    obtain ⟨μ', a1, a2, a3, a4⟩ := ST.pubAll (R := R) (ST.publish (A := []) h')
    refine ⟨μ', a1, (ST.pub_sub (A := []) h').trans a2, (ST.lo_pub (A := []) h').trans a3, fun b o' hb => ?_⟩
    rcases List.mem_cons.1 hb with hb | hb
    · cases hb; exact a2 _ _ (if_pos rfl)
    · exact a4 b o' hb
theorem ST.pub1 {α : Type} {e' : TypeId} {enc : α → List Value} {k : Nat} {v : Value} {l : List α} (hST : ST dd F w W μ (R ++ Y)) (h : bI e' enc k v l R) (hk : ∀ x, (enc x).length = k) : ∃ μ', ST dd F w W μ' Y ∧ bE μ μ' ∧ Lo F w μ μ' ∧ Sl (Pl enc) k μ' v l := by
  obtain ⟨μ', a1, a2, a3, a4⟩ := ST.pubAll hST
  exact ⟨μ', a1, a2, a3, h.sl hk a4⟩
section
variable {P : Program} {n : Nat} {Q : mP} {E : Nat → Value} {V : World} {id : Nat} {l : List Oper} {A B C : List (Nat × Obj)}
theorem cX (h0 : iA μ A V.drew) (hm : P.follows .mixedOrders = true) (h : PX P n l.toArray Q (fun _ W => iA μ A W) l.length (Array.replicate l.length false) E V.drew) : CW P n (.region id l.toArray true) Q E V := DN _ hm h
theorem qY (i : Nat) (h0 : iA μ A V.drew) (h1 : iA μ B V.drew) (hm : P.follows .mixedOrders = true) (h : PX P n l.toArray Q (fun l W => iA μ A W ∧ (l.getD i true = false → iA μ B W)) l.length (Array.replicate l.length false) E V.drew) : CW P n (.region id l.toArray true) Q E V := DN _ hm h
end
structure jU (μ : bD) (L0 : List (Nat × Obj)) (w : World) : Prop where
  H : yV L0 w
  N : (L0.map (·.1)).Nodup
  S : bE μ (rp w L0)
theorem ST.startE (h : jU μ L0 w) : ST dd (keys L0) w w μ L0 := (ST.startM h.H h.N).weak h.S
end
section
variable {dd : Bool} {P : Program} {E : Nat → Value} {W : World} {d : Option Nat} {ty : TypeId} {pos : String} {af : Array Edge} {g : Option (Nat × Bool)} {F : Nat → Prop} {w : World} {μ : bD} {L : List (Nat × Obj)}
theorem bH {K : Value → World → Prop} {B : List (Nat × Obj)} {t : TypeId} {x y : Operand} (v : Value) {b off : Nat} {cs : Array Value} {T : TypeId} (cs' : Array Value) (hST : ST dd F w W μ ((b, .cells cs T (0, 0)) :: B))
    (hx : aS E x = .pointer (some ⟨b, off, none⟩)) (hy : aS E y = v) (hS : ∀ w, (sizeOf t).run P w = .ok v.cells.size w)
    (h1 : ∀ u ∈ v.cells.toList, u.oneCell' = true) (hl : off + v.cells.size ≤ cs.size) (hc : (cs.toList.take off ++ v.cells.toList ++ cs.toList.drop (off + v.cells.size)).toArray = cs')
    (h : ∀ W', ST dd F w W' μ ((b, .cells cs' T (0, 0)) :: B) → K undef W') : gG P E ⟨d, .store t x y, ty, pos, af, g⟩ W K := Iq [] v cs' hST hx hy hS h1 hl hc h
end
section
variable {dd : Bool}
variable {P : Program} {n : Nat} {Q : mP} {E : Nat → Value} {W : World} {ops : Array Oper} {rest : List Oper}
  {d : Option Nat} {ty : TypeId} {pos : String} {af : Array Edge} {g : Option (Nat × Bool)}
  {F : Nat → Prop} {w : World} {μ : bD} {L : List (Nat × Obj)}
theorem kG {K : Value → World → Prop} {α : Type} {e t : TypeId} {enc : α → List Value} {k by_ : Nat} {z v vs : Value} {l m r : List α} {R : List (Nat × Obj)} {Y : List (Nat × Obj)} {x y : Operand} {i : TypeInfo} (hST : ST dd F w W μ (R ++ Y)) (hk : ∀ x, (enc x).length = k) (hk0 : 0 < k) (h1 : ∀ x, ∀ u ∈ enc x, u.oneCell' = true) (ht : P.underlying t = some (.slice e)) (hi : P.info? e = some i) (hz : i.zero = some z) (hzs : z.cells.size = k) (hsz : i.size = k) (hby : i.bytes = by_) (hx : aS E x = v) (hy : aS E y = vs) (hR : bI e enc k v l R) (hs : Sl (Pl enc) k (hp W) vs m) (hb : fK by_ l m = some r) (h : ∀ W' v' R', ST dd F w W' μ (R' ++ Y) → bI e enc k v' r R' → K v' W') : gG P E ⟨d, .call ⟨.builtin .append, #[x, y], #[t, t]⟩, ty, pos, af, g⟩ W K :=
  D1 [] hST hk hk0 h1 ht hi hz hzs hsz hby hx hy hR hs hb h
end
section
variable {dd : Bool}
variable {P : Program} {E : Nat → Value} {W : World} {d : Option Nat} {ty : TypeId} {pos : String} {af : Array Edge} {g : Option (Nat × Bool)}
  {F : Nat → Prop} {w : World} {μ : bD} {L : List (Nat × Obj)}
theorem Fm {K : Value → World → Prop} {α : Type} {e : TypeId} {enc : α → List Value} {k : Nat} {l : List α} {f : FuncId} {fv : Operand} {ax : Array Operand} {ats : Array TypeId} {caps : Array Value} {args : List Value} (Y : List (Nat × Obj)) (hST : ST dd F w W μ Y) (hf : aS E fv = .func (.func f) #[] caps) (he : ∀ args w, (callFunc f args).run P w = .ok (.enter f args) w) (ha : ax.map (aS E) ++ caps = args.toArray) (hc : gQ dd P f args W e enc k l) (h : ∀ W' v μ' R, ST dd F w W' μ' (R ++ Y) → bE μ μ' → Lo F w μ μ' → bI e enc k v l R → K v W') : gG P E ⟨d, .call ⟨.value fv, ax, ats⟩, ty, pos, af, g⟩ W K :=
  FU [] Y hST hf he ha hc h
end
section
variable {dd : Bool}
variable {P : Program} {E : Nat → Value} {W : World} {d : Option Nat} {ty : TypeId} {pos : String} {af : Array Edge} {g : Option (Nat × Bool)}
  {F : Nat → Prop} {w : World} {μ : bD} {L : List (Nat × Obj)} {α : Type} {e' : TypeId} {enc : α → List Value} {k : Nat} {v : Value} {l : List α} {R : List (Nat × Obj)}
theorem vH {K : Value → World → Prop} {Y : List (Nat × Obj)} {t : TypeId} {x y : Operand} {p u : Value} {i : Nat} {x0 x1 : α} (hST : ST dd F w W μ (R ++ Y)) (h : bI e' enc k v l R) (hk : ∀ x, (enc x).length = k) (h1 : ∀ x, ∀ u ∈ enc x, u.oneCell' = true) (hx : aS E x = p) (hy : aS E y = u) (hu : u.cells = (enc x1).toArray) (hp : wl R k p i) (hl : l[i]? = some x0) (hS : ∀ w, (sizeOf t).run P w = .ok k w) (hK : ∀ W' R', ST dd F w W' μ (R' ++ Y) → bI e' enc k v (l.set i x1) R' → K undef W') : gG P E ⟨d, .store t x y, ty, pos, af, g⟩ W K :=
  F5 [] hST h hk h1 hx hy hu hp hl hS hK
end
section
variable {dd : Bool}
variable {P : Program} {E : Nat → Value} {W : World} {d : Option Nat} {ty : TypeId} {pos : String} {af : Array Edge} {g : Option (Nat × Bool)}
  {F : Nat → Prop} {w : World} {μ : bD} {L : List (Nat × Obj)} {α : Type} {e' : TypeId} {enc : α → List Value} {k : Nat} {v : Value} {l : List α} {R : List (Nat × Obj)}
theorem xj {K : Value → World → Prop} (z : α) {Y : List (Nat × Obj)} {t e : TypeId} {x : Operand} {u zv : Value} {i : Nat} (hST : ST dd F w W μ (R ++ Y)) (h : bI e' enc k v l R) (hk : ∀ x, (enc x).length = k) (h1 : ∀ x, ∀ u ∈ enc x, u.oneCell' = true) (ht : P.underlying t = some (.slice e)) (hz : ∀ w, (zeroValue e).run P w = .ok zv w) (hu : vB k v i u) (hc : zv.cells = (enc z).toArray) (hx : aS E x = u) (hK : ∀ W' R', ST dd F w W' μ (R' ++ Y) → bI e' enc k v (iT l i z) R' → K (.tuple #[]) W') : gG P E ⟨d, .call ⟨.builtin .clear, #[x], #[t]⟩, ty, pos, af, g⟩ W K :=
  Eu z [] hST h hk h1 ht hz hu hc hx hK
end
section
variable {dd : Bool}
variable {κ γ : Type} {Q : Value → γ → List (Nat × Obj) → Prop} {beq : κ → κ → Bool} {kenc : κ → Value}
variable {P : Program} {W : World} {kt : TypeId} {E : Nat → Value} {d : Option Nat} {ty : TypeId} {pos : String} {af : Array Edge} {g : Option (Nat × Bool)} {F : Nat → Prop} {w : World} {μ : bD} {L : List (Nat × Obj)}
variable {κ2 β : Type} {kenc2 : κ2 → Value} {vf : β → Value} {beq2 : κ2 → κ2 → Bool} {kt2 : TypeId}
theorem GJ {Kk : Value → World → Prop} {Y R : List (Nat × Obj)} {t e : TypeId} {m x y : Operand} {mv : Value} {lv : List (κ × Value)} {l l' : List (κ × List (κ2 × β))} {k : κ} {k2 : κ2} {v : β} (hk : ∀ {x y : κ}, beq x y = true → x = y) (K : jE P kt2 kenc2 beq2) (ht : P.underlying t = some (.map kt2 e)) (hST : ST dd F w W μ (R ++ Y)) (h : eQ kenc (dS kenc2 vf) mv lv l R) (hm : aS E m = jL beq lv k (.map none)) (hx : aS E x = kenc2 k2) (hy : aS E y = vf v) (hl : AH beq beq2 l k k2 v = some l') (hK : ∀ W' R', ST dd F w W' μ (R' ++ Y) → eQ kenc (dS kenc2 vf) mv lv l' R' → Kk undef W') : gG P E ⟨d, .mapUpdate t m x y, ty, pos, af, g⟩ W Kk :=
  GC [] hk K ht hST h hm hx hy hl hK
end
section
variable {dd : Bool}
variable {κ γ : Type} {Q : Value → γ → List (Nat × Obj) → Prop} {beq : κ → κ → Bool} {kenc : κ → Value}
variable {P : Program} {W : World} {kt : TypeId} {E : Nat → Value} {d : Option Nat} {ty : TypeId} {pos : String} {af : Array Edge} {g : Option (Nat × Bool)} {F : Nat → Prop} {w : World} {μ : bD} {L : List (Nat × Obj)}
variable {κ2 β : Type} {kenc2 : κ2 → Value} {vf : β → Value} {beq2 : κ2 → κ2 → Bool} {kt2 : TypeId}
theorem Gl {Kk : Value → World → Prop} {Y R R2 : List (Nat × Obj)} {t e : TypeId} {m x y : Operand} {mv : Value} {lv : List (κ × Value)} {l l' : List (κ × γ)} {k : κ} {u : Value} {z : γ} (K : jE P kt kenc beq) (ht : P.underlying t = some (.map kt e)) (hST : ST dd F w W μ (R ++ (R2 ++ Y))) (h : eQ kenc Q mv lv l R) (hm : aS E m = mv) (hx : aS E x = kenc k) (hy : aS E y = u) (hq : Q u z R2) (hl : AV beq l k z = some l') (hK : ∀ W' R', ST dd F w W' μ (R' ++ Y) → eQ kenc Q mv (iG beq lv k u) l' R' → Kk undef W') : gG P E ⟨d, .mapUpdate t m x y, ty, pos, af, g⟩ W Kk :=
  GU [] K ht hST h hm hx hy hq hl hK
end
section
variable {dd : Bool}
variable {κ γ : Type} {Q : Value → γ → List (Nat × Obj) → Prop} {beq : κ → κ → Bool} {kenc : κ → Value}
variable {P : Program} {W : World} {kt : TypeId} {E : Nat → Value} {d : Option Nat} {ty : TypeId} {pos : String} {af : Array Edge} {g : Option (Nat × Bool)} {F : Nat → Prop} {w : World} {μ : bD} {L : List (Nat × Obj)}
theorem Je {Kk : Value → World → Prop} {Y R R1 : List (Nat × Obj)} {t e : TypeId} {m x y : Operand} {mv : Value} {lv : List (κ × Value)} {l : List (κ × γ)} {k : κ} {u : Value} {z : γ} (K : jE P kt kenc beq) (ht : P.underlying t = some (.map kt e)) (hST : ST dd F w W μ (R ++ (R1 ++ Y))) (h : FN beq kenc Q mv lv l k R) (hm : aS E m = mv) (hx : aS E x = kenc k) (hy : aS E y = u) (hq : Q u z R1) (hK : ∀ W' R', ST dd F w W' μ (R' ++ Y) → eQ kenc Q mv (iG beq lv k u) (iG beq l k z) R' → Kk undef W') : gG P E ⟨d, .mapUpdate t m x y, ty, pos, af, g⟩ W Kk :=
  JP [] K ht hST h hm hx hy hq hK
end
section
variable {dd : Bool}
variable {κ γ : Type} {Q : Value → γ → List (Nat × Obj) → Prop} {beq : κ → κ → Bool} {kenc : κ → Value}
variable {P : Program} {W : World} {kt : TypeId} {E : Nat → Value} {d : Option Nat} {ty : TypeId} {pos : String} {af : Array Edge} {g : Option (Nat × Bool)} {F : Nat → Prop} {w : World} {μ : bD} {L : List (Nat × Obj)}
theorem Fl {Kk : Value → World → Prop} {Y R : List (Nat × Obj)} {t e : TypeId} {m x : Operand} {mv z : Value} {x0 : γ} {lv : List (κ × Value)} {l : List (κ × γ)} {k : κ} (hk : ∀ {x y : κ}, beq x y = true ↔ x = y) (K : jE P kt kenc beq) (ht : P.underlying t = some (.map kt e)) (hz : ∀ w, (zeroValue e).run P w = .ok z w) (hq0 : Q z x0 []) (hST : ST dd F w W μ (R ++ Y)) (h : eQ kenc Q mv lv l R) (hm : aS E m = mv) (hx : aS E x = kenc k) (hK : ∀ W' v st R' R1, ST dd F w W' μ (R' ++ (R1 ++ Y)) → Q v ((cH beq l k).getD x0) R1 → Dl beq kenc Q mv l k st R' → Kk (.tuple #[v, .int .i64 (st : Nat)]) W') : gG P E ⟨d, .mapEntry t m x, ty, pos, af, g⟩ W Kk :=
  FM [] hk K ht hz hq0 hST h hm hx hK
end
section
variable {dd : Bool}
variable {κ γ : Type} {Q : Value → γ → List (Nat × Obj) → Prop} {beq : κ → κ → Bool} {kenc : κ → Value}
variable {P : Program} {W : World} {kt : TypeId} {E : Nat → Value} {d : Option Nat} {ty : TypeId} {pos : String} {af : Array Edge} {g : Option (Nat × Bool)} {F : Nat → Prop} {w : World} {μ : bD} {L : List (Nat × Obj)}
theorem DH {Kk : Value → World → Prop} {Y R R1 : List (Nat × Obj)} {t e : TypeId} {m s y : Operand} {mv u : Value} {z : γ} {l : List (κ × γ)} {k : κ} {st : Nat} (hk : ∀ {x y : κ}, beq x y = true ↔ x = y) (K : jE P kt kenc beq) (hST : ST dd F w W μ (R ++ (R1 ++ Y))) (h : Dl beq kenc Q mv l k st R) (hm : aS E m = mv) (hs : aS E s = .int .i64 (st : Nat)) (hy : aS E y = u) (hq : Q u z R1) (hK : ∀ W' lv' R', ST dd F w W' μ (R' ++ Y) → eQ kenc Q mv lv' (iG beq l k z) R' → Kk undef W') : gG P E ⟨d, .entryStore t m s y, ty, pos, af, g⟩ W Kk :=
  D5 (e := e) [] hk K hST h hm hs hy hq hK
end
section
variable {dd : Bool}
variable {α : Type} {e : TypeId} {enc : α → List Value} {k : Nat} {v : Value} {l : List α} {R : List (Nat × Obj)}
variable {P : Program} {W : World} {E : Nat → Value} {d : Option Nat} {ty : TypeId} {pos : String} {af : Array Edge} {g : Option (Nat × Bool)} {F : Nat → Prop} {w : World} {μ : bD} {L : List (Nat × Obj)}
theorem EE {K : Value → World → Prop} {t : TypeId} {by_ : Nat} {z vs : Value} {m r : List α} {Y : List (Nat × Obj)} {x y : Operand} {i : TypeInfo} (hST : ST dd F w W μ (R ++ Y)) (hk : ∀ x, (enc x).length = k) (hk0 : 0 < k) (h1 : ∀ x, ∀ u ∈ enc x, u.oneCell' = true) (ht : P.underlying t = some (.slice e)) (hi : P.info? e = some i) (hz : i.zero = some z) (hzs : z.cells.size = k) (hsz : i.size = k) (hby : i.bytes = by_) (hx : aS E x = v) (hy : aS E y = vs) (hR : lJ e enc k v l R) (hs : Sl (Pl enc) k (hp W) vs m) (hb : fK by_ l m = some r) (h : ∀ W' v' R', ST dd F w W' μ (R' ++ Y) → lJ e enc k v' r R' → K v' W') : gG P E ⟨d, .call ⟨.builtin .append, #[x, y], #[t, t]⟩, ty, pos, af, g⟩ W K :=
  EK [] hST hk hk0 h1 ht hi hz hzs hsz hby hx hy hR hs hb h
end
end Go.Proofs.YtmlncblocfcmiaaGreat
namespace Go.Proofs.YtmlncblocfcmiaaGreat
open Go.RowKit
section
variable {P : Program} {n : Nat} {Q : mP} {E : Nat → Value} {W : World} {ops : Array Oper} {rest : List Oper}
variable {d j t : Nat} {want : Bool} {v : Value} {ins : Go.Op} {ty : TypeId} {pos : String} {af : Array Edge} {A : Value → Prop}
theorem V (hr : dW P E ⟨some d, ins, ty, pos, af, none⟩ W v W) (h : LW P n ops Q rest (lR E d v) W) (hn : d < n := by decide) : LW P n ops Q (⟨some d, ins, ty, pos, af, none⟩ :: rest) E W := Ca (.inl rfl) rfl hn hr h
theorem VE (h : gG P E ⟨some d, ins, ty, pos, af, none⟩ W fun v W' => LW P n ops Q rest (lR E d v) W') (hn : d < n := by decide) : LW P n ops Q (⟨some d, ins, ty, pos, af, none⟩ :: rest) E W := JC (.inl rfl) rfl hn h
theorem VO (h : gG P E ⟨none, ins, ty, pos, af, none⟩ W fun _ W' => LW P n ops Q rest E W') : LW P n ops Q (⟨none, ins, ty, pos, af, none⟩ :: rest) E W := Kd (.inl rfl) rfl h
theorem VQ (hr : ∃ p, A p ∧ ∀ W, dW P E ⟨some d, ins, ty, pos, af, none⟩ W p W) (h : ∀ p, A p → LW P n ops Q rest (lR E d p) W) (hn : d < n := by decide) : LW P n ops Q (⟨some d, ins, ty, pos, af, none⟩ :: rest) E W := KC (.inl rfl) rfl hn hr h
theorem Vg (hj : (ops[j]?).bind (·.dst) = some t) (hE : E t = .bool want) (hr : dW P E ⟨some d, ins, ty, pos, af, some (j, want)⟩ W v W) (h : LW P n ops Q rest (lR E d v) W) (ht : t < n := by decide) (hn : d < n := by decide) : LW P n ops Q (⟨some d, ins, ty, pos, af, some (j, want)⟩ :: rest) E W := Ca (.inr ⟨j, want, t, rfl, hj, ht, hE⟩) rfl hn hr h
theorem oO (hj : (ops[j]?).bind (·.dst) = some t) (hE : E t = .bool want) (h : gG P E ⟨some d, ins, ty, pos, af, some (j, want)⟩ W fun v W' => LW P n ops Q rest (lR E d v) W') (ht : t < n := by decide) (hn : d < n := by decide) : LW P n ops Q (⟨some d, ins, ty, pos, af, some (j, want)⟩ :: rest) E W := JC (.inr ⟨j, want, t, rfl, hj, ht, hE⟩) rfl hn h
theorem Vn (hj : (ops[j]?).bind (·.dst) = some t) (hE : E t = .bool (!want)) (h : LW P n ops Q rest (lR E d undef) W) (ht : t < n := by decide) (hn : d < n := by decide) : LW P n ops Q (⟨some d, ins, ty, pos, af, some (j, want)⟩ :: rest) E W := Kl rfl hn rfl hj ht hE h
end
section
variable {P : Program} {n : Nat} {Q : mP} {E : Nat → Value} {W : World} {ops : Array Oper} {S : Array Bool → World → Prop} {fuel : Nat} {listed : Array Bool} {μ : bD} {B : List (Nat × Obj)}
variable {d j t : Nat} {want : Bool} {v : Value} {ins : Go.Op} {ty : TypeId} {pos : String} {af : Array Edge} {A : Value → Prop}
theorem X (i : Nat) (hi : ops[i]? = some ⟨some d, ins, ty, pos, af, none⟩) (hS : S (listed.setIfInBounds i true) W) (hy : ∀ {W}, dW P E ⟨some d, ins, ty, pos, af, none⟩ W v W) (h : PX P n ops Q S fuel (listed.setIfInBounds i true) (lR E d v) W)
    (hk : wD ops listed i = true := by kernel_rfl) (hm : ∀ l w, S (l.setIfInBounds i true) w → S l w := by exact fun _ _ h => h) (hn : d < n := by decide) : PX P n ops Q S (fuel + 1) listed E W := cN i hi hk (.inl rfl) rfl hn hm hS (fun _ _ _ _ => hy) h
theorem XH (i : Nat) (hi : ops[i]? = some ⟨some d, ins, ty, pos, af, none⟩) (hS : iA μ B W) (hy : ∀ W, iA μ B W → dW P E ⟨some d, ins, ty, pos, af, none⟩ W v W) (h : PX P n ops Q (fun _ W => iA μ B W) fuel (listed.setIfInBounds i true) (lR E d v) W)
    (hk : wD ops listed i = true := by kernel_rfl) (hn : d < n := by decide) : PX P n ops Q (fun _ W => iA μ B W) (fuel + 1) listed E W := cN i hi hk (.inl rfl) rfl hn (fun _ _ h => h) hS (fun _ W _ h => hy W h) h
theorem XQ (i : Nat) (hi : ops[i]? = some ⟨some d, ins, ty, pos, af, none⟩) (hS : S (listed.setIfInBounds i true) W) (hy : ∃ p, A p ∧ ∀ W, dW P E ⟨some d, ins, ty, pos, af, none⟩ W p W) (h : ∀ p, A p → PX P n ops Q S fuel (listed.setIfInBounds i true) (lR E d p) W)
    (hk : wD ops listed i = true := by kernel_rfl) (hm : ∀ l w, S (l.setIfInBounds i true) w → S l w := by exact fun _ _ h => h) (hn : d < n := by decide) : PX P n ops Q S (fuel + 1) listed E W := pB i hi hk (.inl rfl) rfl hn hm hS hy h
theorem XE (i : Nat) (hi : ops[i]? = some ⟨some d, ins, ty, pos, af, none⟩) (h : gG P E ⟨some d, ins, ty, pos, af, none⟩ W fun v W' => S (listed.setIfInBounds i true) W' ∧ PX P n ops Q S fuel (listed.setIfInBounds i true) (lR E d v) W')
    (hr : Region.ready .any ops listed = [i] := by kernel_rfl) (hn : d < n := by decide) : PX P n ops Q S (fuel + 1) listed E W := JF i hi hr (.inl rfl) rfl hn h
theorem XO (i : Nat) (hi : ops[i]? = some ⟨none, ins, ty, pos, af, none⟩) (h : gG P E ⟨none, ins, ty, pos, af, none⟩ W fun _ W' => S (listed.setIfInBounds i true) W' ∧ PX P n ops Q S fuel (listed.setIfInBounds i true) E W')
    (hr : Region.ready .any ops listed = [i] := by kernel_rfl) : PX P n ops Q S (fuel + 1) listed E W := Kh i hi hr (.inl rfl) rfl h
theorem Xg (i : Nat) (hi : ops[i]? = some ⟨some d, ins, ty, pos, af, some (j, want)⟩) (hj : (ops[j]?).bind (·.dst) = some t) (hE : E t = .bool want) (hS : S (listed.setIfInBounds i true) W) (hy : ∀ {W}, dW P E ⟨some d, ins, ty, pos, af, some (j, want)⟩ W v W) (h : PX P n ops Q S fuel (listed.setIfInBounds i true) (lR E d v) W)
    (hk : wD ops listed i = true := by kernel_rfl) (hm : ∀ l w, S (l.setIfInBounds i true) w → S l w := by exact fun _ _ h => h) (ht : t < n := by decide) (hn : d < n := by decide) : PX P n ops Q S (fuel + 1) listed E W := cN i hi hk (.inr ⟨j, want, t, rfl, hj, ht, hE⟩) rfl hn hm hS (fun _ _ _ _ => hy) h
theorem oN (i : Nat) (hi : ops[i]? = some ⟨some d, ins, ty, pos, af, some (j, want)⟩) (hj : (ops[j]?).bind (·.dst) = some t) (hE : E t = .bool want) (hS : iA μ B W) (hy : ∀ W, iA μ B W → dW P E ⟨some d, ins, ty, pos, af, some (j, want)⟩ W v W) (h : PX P n ops Q (fun _ W => iA μ B W) fuel (listed.setIfInBounds i true) (lR E d v) W)
    (hk : wD ops listed i = true := by kernel_rfl) (ht : t < n := by decide) (hn : d < n := by decide) : PX P n ops Q (fun _ W => iA μ B W) (fuel + 1) listed E W := cN i hi hk (.inr ⟨j, want, t, rfl, hj, ht, hE⟩) rfl hn (fun _ _ h => h) hS (fun _ W _ h => hy W h) h
theorem vm (i : Nat) (hi : ops[i]? = some ⟨some d, ins, ty, pos, af, some (j, want)⟩) (hj : (ops[j]?).bind (·.dst) = some t) (hE : E t = .bool want) (h : gG P E ⟨some d, ins, ty, pos, af, some (j, want)⟩ W fun v W' => S (listed.setIfInBounds i true) W' ∧ PX P n ops Q S fuel (listed.setIfInBounds i true) (lR E d v) W')
    (hr : Region.ready .any ops listed = [i] := by kernel_rfl) (ht : t < n := by decide) (hn : d < n := by decide) : PX P n ops Q S (fuel + 1) listed E W := JF i hi hr (.inr ⟨j, want, t, rfl, hj, ht, hE⟩) rfl hn h
theorem Xn (i : Nat) (hi : ops[i]? = some ⟨some d, ins, ty, pos, af, some (j, want)⟩) (hj : (ops[j]?).bind (·.dst) = some t) (hE : E t = .bool (!want)) (hS : S (listed.setIfInBounds i true) W) (h : PX P n ops Q S fuel (listed.setIfInBounds i true) (lR E d undef) W)
    (hk : wD ops listed i = true := by kernel_rfl) (hm : ∀ l w, S (l.setIfInBounds i true) w → S l w := by exact fun _ _ h => h) (ht : t < n := by decide) (hn : d < n := by decide) : PX P n ops Q S (fuel + 1) listed E W := Kj i hi hk rfl hj ht hE rfl hn hm hS h
theorem Xu (i : Nat) (hi : ops[i]? = some ⟨some d, ins, ty, pos, af, some (j, want)⟩) (hj : (ops[j]?).bind (·.dst) = some t) (hE : E t = undef) (hS : S (listed.setIfInBounds i true) W) (h : PX P n ops Q S fuel (listed.setIfInBounds i true) (lR E d undef) W)
    (hk : wD ops listed i = true := by kernel_rfl) (hm : ∀ l w, S (l.setIfInBounds i true) w → S l w := by exact fun _ _ h => h) (ht : t < n := by decide) (hn : d < n := by decide) : PX P n ops Q S (fuel + 1) listed E W := Jn i hi hk rfl hj ht hE rfl hn hm hS h
end
end Go.Proofs.YtmlncblocfcmiaaGreat
namespace Go.Proofs.YtmlncblocfcmiaaGreat
open Go.RowKit
section
variable {α β γ : Type}
inductive kA (Q : α → β → Prop) : List α → List β → Prop
  | nil : kA Q [] []
  | cons {a : α} {b : β} {l : List α} {m : List β} : Q a b → kA Q l m → kA Q (a :: l) (b :: m)
namespace kA
variable {Q Q' : α → β → Prop}
theorem length {l : List α} {m : List β} (h : kA Q l m) : l.length = m.length := by
  induction h with
  | nil => rfl
  | cons _ _ ih => simp [ih]
theorem imp {l : List α} {m : List β} (h : kA Q l m) (hq : ∀ a b, Q a b → Q' a b) : kA Q' l m := by
  induction h with
  | nil => exact .nil
  | cons h1 _ ih => exact .cons (hq _ _ h1) ih
theorem get {l : List α} {m : List β} (h : kA Q l m) : ∀ {i : Nat} {b : β}, m[i]? = some b → ∃ a, l[i]? = some a ∧ Q a b := by
  induction h with
  | nil => intro i b hb; simp at hb
  | cons h1 _ ih =>
    intro i b hb
    cases i with
    | zero => simp at hb; subst hb; exact ⟨_, rfl, h1⟩
    | succ i => simpa using ih (by simpa using hb)
theorem append {l l' : List α} {m m' : List β} (h : kA Q l m) (h' : kA Q l' m') : kA Q (l ++ l') (m ++ m') := by
  induction h with
  | nil => exact h'
  | cons h1 _ ih => exact .cons h1 ih
theorem set {l : List α} {m : List β} (h : kA Q l m) {a : α} {b : β} (hq : Q a b) : ∀ i : Nat, kA Q (l.set i a) (m.set i b) := by
  induction h with
  | nil => intro i; exact .nil
  | cons h1 h2 ih =>
    intro i
    cases i with
    | zero => exact .cons hq h2
    | succ i => exact .cons h1 (ih i)
theorem take {l : List α} {m : List β} (h : kA Q l m) : ∀ i : Nat, kA Q (l.take i) (m.take i) := by
  induction h with
  | nil => intro i; simp; exact .nil
  | cons h1 _ ih =>
    intro i
    cases i with
    | zero => exact .nil
    | succ i => exact .cons h1 (ih i)
theorem drop {l : List α} {m : List β} (h : kA Q l m) : ∀ i : Nat, kA Q (l.drop i) (m.drop i) := by
  induction h with
  | nil => intro i; simp; exact .nil
  | cons h1 h2 ih =>
    intro i
    cases i with
    | zero => exact .cons h1 h2
    | succ i => exact ih i
end kA
theorem xq {P : Nat → β → α → Prop} : ∀ {m : List β} (o : Nat), (∀ (i : Nat) (b : β), m[i]? = some b → ∃ a, P (o + i) b a) → ∃ l : List α, l.length = m.length ∧ ∀ (i : Nat) (b : β), m[i]? = some b → ∃ a, l[i]? = some a ∧ P (o + i) b a
  | [], _, _ => ⟨[], rfl, fun i b h => by simp at h⟩
  | b :: m, o, h => by
    obtain ⟨a, ha⟩ := h 0 b rfl
    obtain ⟨l, h1, h2⟩ := xq (m := m) (o + 1) (fun i b hb => by
      obtain ⟨a, ha⟩ := h (i + 1) b (by simpa using hb)
      exact ⟨a, by rw [show o + 1 + i = o + (i + 1) by omega]; exact ha⟩)
    refine ⟨a :: l, by simp [h1], fun i c hc => ?_⟩
    cases i with
    | zero => simp at hc; subst hc; exact ⟨a, rfl, ha⟩
    | succ i =>
      obtain ⟨x, hx, hp⟩ := h2 i c (by simpa using hc)
      exact ⟨x, by simpa using hx, by rw [show o + (i + 1) = o + 1 + i by omega]; exact hp⟩
theorem kA.of_get {Q : α → β → Prop} : ∀ {l : List α} {m : List β}, l.length = m.length → (∀ (i : Nat) (a : α) (b : β), l[i]? = some a → m[i]? = some b → Q a b) → kA Q l m
  | [], [], _, _ => .nil
  | [], _ :: _, h, _ => by cases h
  | _ :: _, [], h, _ => by cases h
  | a :: l, b :: m, h, hq => .cons (hq 0 a b rfl rfl) (kA.of_get (by simpa using h) (fun i x y hx hy => hq (i + 1) x y (by simpa using hx) (by simpa using hy)))
end
structure Deep {β : Type} (R : jX β) (k : Nat) : Prop where
  mono : Br R
  len : ∀ {μ ys x}, R μ ys x → ys.length = k
  one : ∀ {μ ys x}, R μ ys x → ∀ u ∈ ys, u.oneCell' = true
abbrev sT (k : Nat) := {ys : List Value // ys.length = k ∧ ∀ u ∈ ys, u.oneCell' = true}
def rj {k : Nat} (c : sT k) : List Value := c.1
theorem vw {k : Nat} (x : sT k) : (rj x).length = k := x.2.1
theorem Hq {k : Nat} (x : sT k) : ∀ u ∈ rj x, u.oneCell' = true := x.2.2
theorem Sl.cell1 {α : Type} {R : jX α} {k : Nat} {μ : bD} {v : Value} {l : List α} (h : Sl R k μ v l) : v.oneCell' = true := by
  obtain ⟨A, c, rfl, _⟩ := h; rfl
section
variable {β : Type} {Rl : jX β} {k : Nat} {μ μ' : bD} {v : Value} {l : List β}
def Deep.cell (hD : Deep Rl k) {ys : List Value} {x : β} (h : Rl μ ys x) : sT k := ⟨ys, hD.len h, hD.one h⟩
theorem Sl.raw (hD : Deep Rl k) (h : Sl Rl k μ v l) : ∃ cl : List (sT k), Sl (Pl rj) k μ v cl ∧ kA (fun c x => Rl μ c.1 x) cl l := by
  obtain ⟨A, c, rfl, h1, h2, h3⟩ := h
  cases l with
  | nil => exact ⟨[], ⟨A, c, rfl, h1, h2, fun h => absurd h (by simp)⟩, .nil⟩
  | cons x0 l =>
    obtain ⟨b, off, cs, T, fr, rfl, hb, h4⟩ := h3 (by simp)
    obtain ⟨cl, e1, e2⟩ := xq (P := fun i x (c : sT k) => Rl μ c.1 x ∧ ∀ j y, c.1[j]? = some y → cs[off + i * k + j]? = some y) (m := x0 :: l) 0 (fun i x hx => by
      obtain ⟨ys, _, h6, h7⟩ := h4 i x hx
      exact ⟨hD.cell h6, h6, by rw [Nat.zero_add]; exact h7⟩)
    refine ⟨cl, ⟨_, c, by rw [e1], by omega, h2, fun _ => ⟨b, off, cs, T, fr, rfl, hb, fun i c hc => ?_⟩⟩, kA.of_get e1 (fun i c x hc hx => ?_)⟩
    · have hi : i < (x0 :: l).length := by rw [← e1]; exact (List.getElem?_eq_some_iff.1 hc).1
      obtain ⟨c', hc', _, h7⟩ := e2 i _ (List.getElem?_eq_getElem hi)
      rw [hc] at hc'; cases hc'
      exact ⟨c.1, c.2.1, rfl, by rw [Nat.zero_add] at h7; exact h7⟩
    · obtain ⟨c', hc', h6, _⟩ := e2 i x hx
      rw [hc] at hc'; cases hc'
      exact h6
theorem Sl.of_raw {cl : List (sT k)} (h : Sl (Pl rj) k μ v cl) (hs : bE μ μ') (ha : kA (fun c x => Rl μ' c.1 x) cl l) : Sl Rl k μ' v l := by
  obtain ⟨A, c, rfl, h1, h2, h3⟩ := h
  have e1 := ha.length
  refine ⟨A, c, by rw [e1], by omega, h2, fun hl => ?_⟩
  obtain ⟨b, off, cs, T, fr, rfl, hb, h4⟩ := h3 (by omega)
  refine ⟨b, off, cs, T, fr, rfl, hs _ _ hb, fun i x hx => ?_⟩
  obtain ⟨c, hc, hq⟩ := ha.get hx
  obtain ⟨ys, e2, e3, e4⟩ := h4 i c hc
  cases e3
  exact ⟨rj c, e2, hq, e4⟩
def yD (Rl : jX β) (k : Nat) (μ : bD) (W : World) (v : Value) (l : List β) : Prop := ∃ cl : List (sT k), Sl (Pl rj) k (hp W) v cl ∧ kA (fun c x => Rl μ c.1 x) cl l
theorem yD.sl (hD : Deep Rl k) {W : World} (h : Sl Rl k μ v l) (hs : bE μ (hp W)) : yD Rl k μ W v l := by
  obtain ⟨cl, h1, h2⟩ := h.raw hD
  exact ⟨cl, h1.mono (Pl.mono _) hs, h2⟩
theorem Sl.litCells {b m : Nat} {cl : List (sT k)} {cs : Array Value} {e : TypeId} (hm : cl.length = m) (hM : m ≤ maxLen) (hc : cs.toList = (cl.map rj).flatten) (hb : μ b = some (.cells cs e (0, 0))) : Sl (Pl rj) k μ (.slice (some ⟨b, 0, none⟩) m m) cl := by
  subst hm
  refine ⟨_, _, rfl, Nat.le_refl _, hM, fun _ => ⟨b, 0, _, _, _, rfl, hb, fun i x hx => ⟨rj x, vw x, rfl, fun j y hy => ?_⟩⟩⟩
  have := sx vw cl i x hx j y hy
  rw [← hc] at this
  simpa using this
inductive yn (Rl : jX β) (k : Nat) (μ : bD) : List Value → List β → Prop
  | nil : yn Rl k μ [] []
  | cons {ys zs : List Value} {x : β} {l : List β} : Rl μ ys x → yn Rl k μ zs l → yn Rl k μ (ys ++ zs) (x :: l)
theorem yn.cells (hD : Deep Rl k) {ys : List Value} (h : yn Rl k μ ys l) : ∃ cl : List (sT k), (cl.map rj).flatten = ys ∧ kA (fun c x => Rl μ c.1 x) cl l := by
  induction h with
  | nil => exact ⟨[], rfl, .nil⟩
  | cons h1 _ ih =>
    obtain ⟨cl, e, h2⟩ := ih
    exact ⟨hD.cell h1 :: cl, by rw [List.map_cons, List.flatten_cons, e]; rfl, .cons h1 h2⟩
theorem yD.lit (hD : Deep Rl k) {W : World} {b m : Nat} {ys : List Value} {e : TypeId} (h : yn Rl k μ ys l) (hm : l.length = m) (hM : m ≤ maxLen) (hb : W.heap[b]? = some (.cells ys.toArray e (0, 0))) : yD Rl k μ W (.slice (some ⟨b, 0, none⟩) m m) l := by
  obtain ⟨cl, e1, h2⟩ := h.cells hD
  exact ⟨cl, Sl.litCells (by rw [h2.length]; exact hm) hM e1.symm hb, h2⟩
theorem Sl.imp {R R' : jX β} (h : Sl R k μ v l) (hi : ∀ ys x, R μ ys x → R' μ ys x) : Sl R' k μ v l := by
  obtain ⟨A, c, rfl, h1, h2, h3⟩ := h
  refine ⟨A, c, rfl, h1, h2, fun hl => ?_⟩
  obtain ⟨b, off, cs, T, fr, rfl, hb, h4⟩ := h3 hl
  exact ⟨b, off, cs, T, fr, rfl, hb, fun i x hx => let ⟨ys, h5, h6, h7⟩ := h4 i x hx; ⟨ys, h5, hi _ _ h6, h7⟩⟩
theorem yZ : ∀ (l : List Nat) (n : Nat), n ∈ l → n ≤ l.foldr max 0
  | [], n, h => by cases h
  | a :: l, n, h => by
    rcases List.mem_cons.1 h with rfl | h
    · exact Nat.le_max_left _ _
    · exact Nat.le_trans (yZ l n h) (Nat.le_max_right _ _)
theorem Sl.bound {R : jX β} {Rn : Nat → jX β} (h : Sl R k μ v l) (hR : ∀ ys x, R μ ys x → ∃ n, Rn n μ ys x) (up : ∀ n m ys x, n ≤ m → Rn n μ ys x → Rn m μ ys x) : ∃ n, Sl (Rn n) k μ v l := by
  obtain ⟨A, c, rfl, h1, h2, h3⟩ := h
  by_cases hl : 0 < l.length
  · obtain ⟨b, off, cs, T, fr, rfl, hb, h4⟩ := h3 hl
    obtain ⟨ps, e1, e2⟩ := xq (P := fun i x (p : Nat × List Value) => p.2.length = k ∧ Rn p.1 μ p.2 x ∧ ∀ j y, p.2[j]? = some y → cs[off + i * k + j]? = some y) (m := l) 0 (fun i x hx => by
      obtain ⟨ys, h5, h6, h7⟩ := h4 i x hx
      obtain ⟨n, hn⟩ := hR _ _ h6
      exact ⟨(n, ys), h5, hn, by rw [Nat.zero_add]; exact h7⟩)
    refine ⟨(ps.map (·.1)).foldr max 0, _, c, rfl, h1, h2, fun _ => ⟨b, off, cs, T, fr, rfl, hb, fun i x hx => ?_⟩⟩
    obtain ⟨p, hp, h5, h6, h7⟩ := e2 i x hx
    exact ⟨p.2, h5, up _ _ _ _ (yZ _ _ (List.mem_map.2 ⟨p, List.mem_of_getElem? hp, rfl⟩)) h6, by rw [Nat.zero_add] at h7; exact h7⟩
  · exact ⟨0, A, c, rfl, h1, h2, fun h => absurd h hl⟩
def bG (e : TypeId) (Rl : jX β) (k : Nat) (μ : bD) (v : Value) (l : List β) (B : List (Nat × Obj)) : Prop := ∃ cl : List (sT k), bI e rj k v cl B ∧ kA (fun c x => Rl μ c.1 x) cl l
variable {e : TypeId} {B : List (Nat × Obj)}
theorem bG.mono (hD : Deep Rl k) (h : bG e Rl k μ v l B) (hs : bE μ μ') : bG e Rl k μ' v l B := by
  obtain ⟨cl, h1, h2⟩ := h
  exact ⟨cl, h1, h2.imp (fun _ _ h => hD.mono _ _ _ _ hs h)⟩
theorem bG.nil (e : TypeId) (Rl : jX β) (k : Nat) (μ : bD) : bG e Rl k μ (.slice none 0 0) [] [] := ⟨[], bI.nil _ _ _, .nil⟩
theorem bG.lit (hD : Deep Rl k) {b m : Nat} {ys : List Value} (h : yn Rl k μ ys l) (hm : l.length = m) (hM : m ≤ maxLen) (hs : ys.length = m * k) : bG e Rl k μ (.slice (some ⟨b, 0, none⟩) m m) l [(b, .cells ys.toArray e (0, 0))] := by
  obtain ⟨cl, e1, h2⟩ := h.cells hD
  exact ⟨cl, bI.lit (by rw [h2.length]; exact hm) hM e1.symm (by simpa using hs), h2⟩
theorem bG.form (h : bG e Rl k μ v l B) : ∃ A c, v = .slice A l.length c := by
  obtain ⟨cl, h1, h2⟩ := h
  rw [← h2.length]; exact h1.form
theorem bG.len (h : bG e Rl k μ v l B) : l.length ≤ 9223372036854775807 := by
  obtain ⟨cl, h1, h2⟩ := h
  rw [← h2.length]; exact h1.len
theorem bG.nd (h : bG e Rl k μ v l B) : (B.map (·.1)).Nodup := let ⟨_, h1, _⟩ := h; h1.nd
theorem bG.isNil {n c : Nat} (h : bG e Rl k μ (.slice none n c) l B) : l = [] := by
  obtain ⟨cl, h1, h2⟩ := h
  have := h2.length
  rw [h1.isNil] at this
  exact List.eq_nil_of_length_eq_zero this.symm
theorem bG.sl (h : bG e Rl k μ v l B) (hD : Deep Rl k) (hs : bE μ μ') (hm : ∀ b o, (b, o) ∈ B → μ' b = some o) : Sl Rl k μ' v l := by
  obtain ⟨cl, h1, h2⟩ := h
  exact Sl.of_raw (h1.sl vw hm) (bE.refl _) (h2.imp (fun _ _ h => hD.mono _ _ _ _ hs h))
end
section
variable {β : Type} {Rl : jX β} {k : Nat} {μ : bD} {v : Value} {l : List β} {e : TypeId} {B : List (Nat × Obj)}
variable {dd : Bool} {F : Nat → Prop} {w W : World} {L : List (Nat × Obj)}
theorem bG.frM (h : bG e Rl k μ v l B) (hST : ST dd dC w W μ L) (hR : ∀ p, p ∈ B → p ∈ L) : Fr w.heap.size v := let ⟨_, h1, _⟩ := h; h1.frM hST hR
theorem ST.pubD {Y : List (Nat × Obj)} (hD : Deep Rl k) (hST : ST dd F w W μ (B ++ Y)) (h : bG e Rl k μ v l B) : ∃ μ', ST dd F w W μ' Y ∧ bE μ μ' ∧ Lo F w μ μ' ∧ Sl Rl k μ' v l := by
  obtain ⟨cl, h1, h2⟩ := h
  obtain ⟨μ', a1, a2, a4, a3⟩ := ST.pub1 hST h1 vw
  exact ⟨μ', a1, a2, a4, Sl.of_raw a3 (bE.refl _) (h2.imp (fun _ _ h => hD.mono _ _ _ _ a2 h))⟩
variable {P : Program} {E : Nat → Value} {d : Option Nat} {ty : TypeId} {pos : String} {af : Array Edge} {g : Option (Nat × Bool)}
theorem eV {t e' : TypeId} {x ix : Operand} {ik : IntKind} {i : Int} {x0 : β} {A : List Value → Prop} (ho : ∀ {ys}, Rl μ ys x0 → A ys)
    (ht : P.underlying t = some (.slice e')) (he : ∀ w, (sizeOf e').run P w = .ok k w) (hx : aS E x = v) (hi : aS E ix = .int ik i) (hs : Sl Rl k μ v l) (h0 : 0 ≤ i) (hl : l[i.toNat]? = some x0) :
    ∃ p, (∃ ys, A ys ∧ At μ p ys) ∧ ∀ W, dW P E ⟨d, .indexAddr t x ix, ty, pos, af, g⟩ W p W := by
  obtain ⟨p, ys, _, h2, h3, h4⟩ := B3 (d := d) (ty := ty) (pos := pos) (af := af) (g := g) ht he hx hi hs h0 hl
  exact ⟨p, ⟨ys, ho h2, h3⟩, h4⟩
theorem tX {x : Operand} {t e' : TypeId} (ht : P.underlying t = some (.slice e')) (hx : aS E x = v) (h : bG e Rl k μ v l B) : dW P E ⟨d, .call ⟨.builtin .len, #[x], #[t]⟩, ty, pos, af, g⟩ W (.int .i64 l.length) W := by
  obtain ⟨A, c, rfl⟩ := h.form
  exact xP ht hx
theorem dD {t e' : TypeId} {x ix : Operand} {ik : IntKind} {i : Int} {x0 : β} {A : List Value → Prop} (ho : ∀ {ys}, Rl μ ys x0 → A ys)
    (ht : P.underlying t = some (.slice e')) (he : ∀ w, (sizeOf e').run P w = .ok k w) (hx : aS E x = v) (hi : aS E ix = .int ik i) (h : bG e Rl k μ v l B) (h0 : 0 ≤ i) (hl : l[i.toNat]? = some x0) :
    ∃ p, (∃ ys, A ys ∧ At (xm B) p ys ∧ wl B k p i.toNat) ∧ ∀ W, dW P E ⟨d, .indexAddr t x ix, ty, pos, af, g⟩ W p W := by
  obtain ⟨cl, h1, h2⟩ := h
  obtain ⟨c, hc, hq⟩ := h2.get hl
  obtain ⟨p, h3, h4⟩ := lA (d := d) (ty := ty) (pos := pos) (af := af) (g := g) ht he hx hi h1 h0 hc
  exact ⟨p, ⟨c.1, ho hq, h3.at h1 vw hc, h3⟩, h4⟩
theorem Hg {α α' : Type} {by_ : Nat} {l m r : List α} {l' m' : List α'} (h : fK by_ l m = some r) (h1 : l'.length = l.length) (h2 : m'.length = m.length) : fK by_ l' m' = some (l' ++ m') ∧ r = l ++ m := by
  unfold fK at h ⊢
  rw [h1, h2]
  split at h
  · rename_i hh; cases h; rw [if_pos hh]; exact ⟨rfl, rfl⟩
  · cases h
theorem sw {K : Value → World → Prop} {t : TypeId} {by_ : Nat} {z vs : Value} {m r : List β} {Y : List (Nat × Obj)} {x y : Operand} {i : TypeInfo} (hD : Deep Rl k) (hST : ST dd F w W μ (B ++ Y)) (hk0 : 0 < k)
    (ht : P.underlying t = some (.slice e)) (hi : P.info? e = some i) (hz : i.zero = some z) (hzs : z.cells.size = k) (hsz : i.size = k) (hby : i.bytes = by_) (hx : aS E x = v) (hy : aS E y = vs)
    (hR : bG e Rl k μ v l B) (hs : yD Rl k μ W vs m) (hb : fK by_ l m = some r)
    (h : ∀ W' v' R', ST dd F w W' μ (R' ++ Y) → bG e Rl k μ v' r R' → K v' W') : gG P E ⟨d, .call ⟨.builtin .append, #[x, y], #[t, t]⟩, ty, pos, af, g⟩ W K := by
  obtain ⟨cl, h1, h2⟩ := hR
  obtain ⟨cm, h3, h4⟩ := hs
  obtain ⟨hb', rfl⟩ := Hg hb h2.length h4.length
  exact kG hST vw hk0 Hq ht hi hz hzs hsz hby hx hy h1 h3 hb' (fun W' v' R' a1 a2 => h W' v' R' a1 ⟨_, a2, h2.append h4⟩)
theorem lV {K : Value → World → Prop} {Y : List (Nat × Obj)} {t : TypeId} {x y : Operand} {p : Value} {i : Nat} {x0 x1 : β} {ys : List Value} (hD : Deep Rl k) (hST : ST dd F w W μ (B ++ Y)) (h : bG e Rl k μ v l B) (hx : aS E x = p) (hy : aS E y = .agg ys.toArray) (hr : Rl μ ys x1) (hp : wl B k p i) (hl : l[i]? = some x0)
    (hS : ∀ w, (sizeOf t).run P w = .ok k w) (hK : ∀ W' R', ST dd F w W' μ (R' ++ Y) → bG e Rl k μ v (l.set i x1) R' → K undef W') : gG P E ⟨d, .store t x y, ty, pos, af, g⟩ W K := by
  obtain ⟨cl, h1, h2⟩ := h
  obtain ⟨c, hc, _⟩ := h2.get hl
  exact vH (x1 := hD.cell hr) hST h1 vw Hq hx hy rfl hp hc hS (fun W' R' a1 a2 => hK W' R' a1 ⟨_, a2, h2.set hr i⟩)
end
end Go.Proofs.YtmlncblocfcmiaaGreat
