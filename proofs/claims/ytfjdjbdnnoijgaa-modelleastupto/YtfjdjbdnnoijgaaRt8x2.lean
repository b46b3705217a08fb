/- a part of a proof of ModelLeast -/
import Derived.Test.YtfjdjbdnnoijgaaRt7x2
set_option linter.all false
namespace Go.Proofs.Ytfjdjbdnnoijgaa
open Go.RowKit
variable {dd : Bool}
def keys (L : List (Nat × Obj)) : Nat → Prop := fun b => ∃ o, (b, o) ∈ L
structure ExF (dd : Bool) (F : Nat → Prop) (w W : World) : Prop where
  os : W.os = w.os
  tape : W.tape = w.tape
  output : W.output = w.output
  drawn : Low dd w.drawn W.drawn
  size : w.heap.size ≤ W.heap.size
  old : ∀ b, b < w.heap.size → ¬ F b → W.heap[b]? = w.heap[b]?
def Held (L : List (Nat × Obj)) (W : World) : Prop := ∀ b o, (b, o) ∈ L → W.heap[b]? = some o
structure Back (dd : Bool) (L0 L1 : List (Nat × Obj)) (w w' : World) : Prop where
  ex : ExF dd (keys L0) w w'
  held : ∀ b o, (b, o) ∈ L1 → w'.heap[b]? = some o ∧ (w.heap.size ≤ b ∨ keys L0 b)
  nd : (L1.map (·.1)).Nodup
open Classical in
noncomputable def hpx (w : World) (L : List (Nat × Obj)) : Mem := fun b => if keys L b then none else w.heap[b]?
open Classical in
noncomputable def growX (μ : Mem) (W W' : World) (L1 : List (Nat × Obj)) : Mem := fun b => if b < W.heap.size then μ b else if keys L1 b then none else W'.heap[b]?
section
variable {F : Nat → Prop} {w W W' : World} {μ μ' : Mem} {L L0 L1 : List (Nat × Obj)}
theorem ST.startM (hh : Held L0 w) (hn : (L0.map (·.1)).Nodup) : ST dd (keys L0) w w (hpx w L0) L0 :=
  ⟨rfl, rfl, rfl, Low.of (Nat.le_refl _), Nat.le_refl _, fun _ _ _ => rfl, fun b o h => by
    unfold hpx at h; split at h
    · cases h
    · exact h, fun b o h => ⟨hh b o h, by unfold hpx; rw [if_pos ⟨o, h⟩], .inr ⟨o, h⟩⟩, hn⟩
theorem nd_disj {A B : List (Nat × Obj)} (h : ((A ++ B).map (·.1)).Nodup) {b : Nat} {o : Obj} (hb : (b, o) ∈ B) : ¬ keys A b := by
  rintro ⟨o', ho⟩
  rw [List.map_append] at h
  exact (List.nodup_append.1 h).2.2 b (List.mem_map.2 ⟨_, ho, rfl⟩) b (List.mem_map.2 ⟨_, hb, rfl⟩) rfl
theorem ST.back (h : ST dd F w W μ (L0 ++ L)) (hb : Back dd L0 L1 W W') : ST dd F w W' (growX μ W W' L1) (L1 ++ L) := by
  have hk : ∀ b, keys L0 b → b < W.heap.size ∧ μ b = none ∧ (w.heap.size ≤ b ∨ F b) := fun b ⟨o, ho⟩ => by
    obtain ⟨h1, h2, h3⟩ := h.box b o (List.mem_append_left _ ho)
    exact ⟨lt_of_heap h1, h2, h3⟩
  refine ⟨hb.ex.os.trans h.os, hb.ex.tape.trans h.tape, hb.ex.output.trans h.output, Low.trans h.drawn hb.ex.drawn, Nat.le_trans h.size hb.ex.size, fun b hlt hF => ?_, fun b o ho => ?_, fun b o ho => ?_, ?_⟩
  · rw [hb.ex.old b (Nat.lt_of_lt_of_le hlt h.size) (fun hkb => by
      rcases (hk b hkb).2.2 with h | h
      · omega
      · exact hF h)]
    exact h.old b hlt hF
  · unfold growX at ho
    split at ho
    · rename_i hlt
      rw [hb.ex.old b hlt (fun hkb => by rw [(hk b hkb).2.1] at ho; cases ho)]
      exact h.mem b o ho
    · split at ho
      · cases ho
      · exact ho
  · rcases List.mem_append.1 ho with ho | ho
    · obtain ⟨h1, h2⟩ := hb.held b o ho
      refine ⟨h1, ?_, ?_⟩
      · unfold growX
        split
        · rename_i hlt
          rcases h2 with h2 | h2
          · omega
          · exact (hk b h2).2.1
        · rw [if_pos ⟨o, ho⟩]
      · rcases h2 with h2 | h2
        · exact .inl (Nat.le_trans h.size h2)
        · exact (hk b h2).2.2
    · obtain ⟨h1, h2, h3⟩ := h.box b o (List.mem_append_right _ ho)
      refine ⟨?_, ?_, h3⟩
      · rw [hb.ex.old b (lt_of_heap h1) (nd_disj h.nd ho)]; exact h1
      · unfold growX; rw [if_pos (lt_of_heap h1)]; exact h2
  · rw [List.map_append]
    have hL : (L.map (·.1)).Nodup := by have := h.nd; rw [List.map_append] at this; exact (List.nodup_append.1 this).2.1
    refine List.nodup_append.2 ⟨hb.nd, hL, fun a ha c hc e => ?_⟩
    subst e
    obtain ⟨⟨b, o⟩, ho, rfl⟩ := List.mem_map.1 ha
    obtain ⟨⟨b', o'⟩, ho', e⟩ := List.mem_map.1 hc
    simp at e; subst e
    have hlt := h.box_lt (List.mem_append_right _ ho')
    rcases (hb.held b' o ho).2 with h2 | h2
    · omega
    · exact nd_disj h.nd ho' h2
theorem ST.growX_sub (h : ST dd F w W μ L) (W' : World) (L1 : List (Nat × Obj)) : Sub μ (growX μ W W' L1) := fun b o hb => by
  unfold growX; rw [if_pos (h.mu_lt hb)]; exact hb
theorem ST.sub_hpx (h : ST dd F w W μ L) (hL : ∀ p, p ∈ L0 → p ∈ L) : Sub μ (hpx W L0) := fun b o hb => by
  unfold hpx
  rw [if_neg]
  · exact h.mem b o hb
  · rintro ⟨o', ho⟩
    rw [(h.box b o' (hL _ ho)).2.1] at hb
    cases hb
theorem Back.of_ex (h : Ex dd w W) (hh : ∀ b o, (b, o) ∈ L1 → W.heap[b]? = some o ∧ w.heap.size ≤ b) (hn : (L1.map (·.1)).Nodup) : Back dd [] L1 w W :=
  ⟨⟨h.os, h.tape, h.output, h.drawn, h.size, fun b hb _ => h.old b hb⟩, fun b o hb => ⟨(hh b o hb).1, .inl (hh b o hb).2⟩, hn⟩
end
def GivesM (dd : Bool) (P : Program) (f : FuncId) (args : List Value) (w : World) (L0 : List (Nat × Obj)) (K : Value → List (Nat × Obj) → World → Prop) : Prop :=
  Calls P f args.toArray w fun e w' => ∃ v L1, e = .returned v ∧ Back dd L0 L1 w w' ∧ K v L1 w'
def GivesRow (dd : Bool) {α : Type} (P : Program) (f : FuncId) (args : List Value) (w : World) (e : TypeId) (enc : α → List Value) (k : Nat) (l : List α) : Prop :=
  GivesM dd P f args w [] fun v R _ => Row e enc k v l R
theorem Back.weak {L0 L1 : List (Nat × Obj)} {w w' : World} (h : Back true L0 L1 w w') : Back dd L0 L1 w w' := ⟨⟨h.ex.os, h.ex.tape, h.ex.output, Low.of (h.ex.drawn rfl), h.ex.size, h.ex.old⟩, h.held, h.nd⟩
theorem Gives.weak {P : Program} {f : FuncId} {args : List Value} {w : World} {v : Value} (h : Gives true P f args w v) : Gives dd P f args w v := Calls.mono h fun _ _ h => ⟨h.1, h.2.weak⟩
theorem GivesM.weak {P : Program} {f : FuncId} {args : List Value} {w : World} {L0 : List (Nat × Obj)} {K : Value → List (Nat × Obj) → World → Prop} (h : GivesM true P f args w L0 K) : GivesM dd P f args w L0 K := Calls.mono h fun _ _ ⟨v, L1, h1, h2, h3⟩ => ⟨v, L1, h1, h2.weak, h3⟩
theorem GivesRow.weak {α : Type} {P : Program} {f : FuncId} {args : List Value} {w : World} {e : TypeId} {enc : α → List Value} {k : Nat} {l : List α} (h : GivesRow true P f args w e enc k l) : GivesRow dd P f args w e enc k l := GivesM.weak h
theorem GivesSl.weak {α : Type} {P : Program} {f : FuncId} {args : List Value} {w : World} {R : Rep α} {k : Nat} {l : List α} (h : GivesSl true P f args w R k l) : GivesSl dd P f args w R k l := Calls.mono h fun _ _ ⟨v, h1, h2, h3⟩ => ⟨v, h1, h2.weak, h3⟩
section
variable {P : Program} {E : Nat → Value} {W : World} {d : Option Nat} {ty : TypeId} {pos : String} {af : Array Edge} {g : Option (Nat × Bool)}
  {F : Nat → Prop} {w : World} {μ : Mem} {L : List (Nat × Obj)}
theorem E_givesM {K : Value → World → Prop} {K' : Value → List (Nat × Obj) → World → Prop} {f : FuncId} {fv : Operand} {as : Array Operand} {ats : Array TypeId} {caps : Array Value} {args : List Value} (L0 L2 : List (Nat × Obj)) (hST : ST dd F w W μ L) (hL : L.Perm (L0 ++ L2))
    (hf : evE E fv = .func (.func f) #[] caps) (he : ∀ args w, (callFunc f args).run P w = .ok (.enter f args) w) (ha : as.map (evE E) ++ caps = args.toArray) (hc : GivesM dd P f args W L0 K')
    (h : ∀ W' v μ' L1, ST dd F w W' μ' (L1 ++ L2) → Sub μ μ' → K' v L1 W' → K v W') : Eff P E ⟨d, .call ⟨.value fv, as, ats⟩, ty, pos, af, g⟩ W K :=
  E_calls hf he ha (Calls.mono hc (fun _ W' ⟨v, L1, h1, h2, h3⟩ => ⟨v, h1, h W' v _ L1 ((hST.perm hL).back h2) ((hST.perm hL).growX_sub W' L1) h3⟩))
theorem E_givesRow {K : Value → World → Prop} {α : Type} {e : TypeId} {enc : α → List Value} {k : Nat} {l : List α} {f : FuncId} {fv : Operand} {as : Array Operand} {ats : Array TypeId} {caps : Array Value} {args : List Value} (X Y : List (Nat × Obj)) (hST : ST dd F w W μ (X ++ Y))
    (hf : evE E fv = .func (.func f) #[] caps) (he : ∀ args w, (callFunc f args).run P w = .ok (.enter f args) w) (ha : as.map (evE E) ++ caps = args.toArray) (hc : GivesRow dd P f args W e enc k l)
    (h : ∀ W' v μ' R, ST dd F w W' μ' (X ++ (R ++ Y)) → Sub μ μ' → Row e enc k v l R → K v W') : Eff P E ⟨d, .call ⟨.value fv, as, ats⟩, ty, pos, af, g⟩ W K :=
  E_givesM [] (X ++ Y) hST (.refl _) hf he ha hc (fun W' v μ' L1 h1 h2 h3 => h W' v μ' L1 (h1.perm (by rw [← List.append_assoc, ← List.append_assoc]; exact List.perm_append_comm.append_right Y)) h2 h3)
end
theorem ST.backRow {w W : World} {μ : Mem} {L R : List (Nat × Obj)} (h : ST dd NoF w W μ L) (hR : ∀ p, p ∈ R → p ∈ L) (hn : (R.map (·.1)).Nodup) : Back dd [] R w W :=
  Back.of_ex h.ex (fun b o hb => ⟨(h.box b o (hR _ hb)).1, by
    rcases (h.box b o (hR _ hb)).2.2 with h | h
    · exact h
    · exact h.elim⟩) hn
theorem R_lenRow {P : Program} {E : Nat → Value} {W : World} {d : Option Nat} {ty : TypeId} {pos : String} {af : Array Edge} {g : Option (Nat × Bool)} {α : Type} {e' : TypeId} {enc : α → List Value} {k : Nat} {v : Value} {l : List α} {R : List (Nat × Obj)} {x : Operand} {t e : TypeId} (ht : P.underlying t = some (.slice e)) (hx : evE E x = v) (h : Row e' enc k v l R) : Runs P E ⟨d, .call ⟨.builtin .len, #[x], #[t]⟩, ty, pos, af, g⟩ W (.int .i64 l.length) W := by
  obtain ⟨A, c, rfl⟩ := h.form
  exact R_lenSl ht hx
section
variable {α : Type} {e : TypeId} {enc : α → List Value} {k : Nat} {v : Value} {l : List α} {R : List (Nat × Obj)}
theorem Row.nd (h : Row e enc k v l R) : (R.map (·.1)).Nodup := by
  rcases h with ⟨rfl, rfl, rfl⟩ | ⟨g, cap, cur, rfl, rfl, _⟩ <;> simp
end
end Go.Proofs.Ytfjdjbdnnoijgaa
