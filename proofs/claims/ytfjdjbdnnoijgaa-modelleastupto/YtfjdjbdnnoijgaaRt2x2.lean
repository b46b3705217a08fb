/- a part of a proof of ModelLeast -/
import Derived.Test.YtfjdjbdnnoijgaaRtx2
set_option linter.all false
namespace Go.Proofs.Ytfjdjbdnnoijgaa
open Go.RowKit
variable {dd : Bool}
abbrev Mem := Nat → Option Obj
def hp (W : World) : Mem := fun b => W.heap[b]?
def Low (dd : Bool) (a b : Nat) : Prop := dd = true → a ≤ b
theorem Low.of {dd : Bool} {a b : Nat} (h : a ≤ b) : Low dd a b := fun _ => h
theorem Low.trans {dd : Bool} {a b c : Nat} (h : Low dd a b) (k : Low dd b c) : Low dd a c := fun e => Nat.le_trans (h e) (k e)
structure Ex (dd : Bool) (w W : World) : Prop where
  os : W.os = w.os
  tape : W.tape = w.tape
  output : W.output = w.output
  drawn : Low dd w.drawn W.drawn
  size : w.heap.size ≤ W.heap.size
  old : ∀ b, b < w.heap.size → W.heap[b]? = w.heap[b]?
theorem Ex.refl (w : World) : Ex dd w w := ⟨rfl, rfl, rfl, Low.of (Nat.le_refl _), Nat.le_refl _, fun _ _ => rfl⟩
theorem Ex.trans {a b c : World} (h : Ex dd a b) (k : Ex dd b c) : Ex dd a c :=
  ⟨k.os.trans h.os, k.tape.trans h.tape, k.output.trans h.output, Low.trans h.drawn k.drawn, Nat.le_trans h.size k.size, fun i hi => (k.old i (Nat.lt_of_lt_of_le hi h.size)).trans (h.old i hi)⟩
theorem Ex.drew (w : World) : Ex dd w w.drew := ⟨rfl, rfl, rfl, Low.of (Nat.le_succ _), Nat.le_refl _, fun _ _ => rfl⟩
theorem Ex.alloc (w : World) (o : Obj) : Ex dd w (w.alloc o) := ⟨rfl, rfl, rfl, Low.of (Nat.le_refl _), by show w.heap.size ≤ (w.heap.push o).size; simp, fun k hk => Below.heap_alloc w o k hk⟩
theorem Ex.weak {w W : World} (h : Ex true w W) : Ex dd w W := ⟨h.os, h.tape, h.output, Low.of (h.drawn rfl), h.size, h.old⟩
def Sub (μ μ' : Mem) : Prop := ∀ b o, μ b = some o → μ' b = some o
theorem Sub.refl (μ : Mem) : Sub μ μ := fun _ _ h => h
theorem Sub.trans {a b c : Mem} (h : Sub a b) (k : Sub b c) : Sub a c := fun x o hx => k x o (h x o hx)
structure ST (dd : Bool) (F : Nat → Prop) (w W : World) (μ : Mem) (L : List (Nat × Obj)) : Prop where
  os : W.os = w.os
  tape : W.tape = w.tape
  output : W.output = w.output
  drawn : Low dd w.drawn W.drawn
  size : w.heap.size ≤ W.heap.size
  old : ∀ b, b < w.heap.size → ¬ F b → W.heap[b]? = w.heap[b]?
  mem : ∀ b o, μ b = some o → W.heap[b]? = some o
  box : ∀ b o, (b, o) ∈ L → W.heap[b]? = some o ∧ μ b = none ∧ (w.heap.size ≤ b ∨ F b)
  nd : (L.map (·.1)).Nodup
def NoF : Nat → Prop := fun _ => False
theorem ST.start (w : World) : ST dd NoF w w (hp w) [] :=
  ⟨rfl, rfl, rfl, Low.of (Nat.le_refl _), Nat.le_refl _, fun _ _ _ => rfl, fun _ _ h => h, fun _ _ h => (by cases h), by simp⟩
section
variable {F : Nat → Prop} {w W W' : World} {μ μ' : Mem} {L L' : List (Nat × Obj)}
theorem ST.ex (h : ST dd NoF w W μ L) : Ex dd w W := ⟨h.os, h.tape, h.output, h.drawn, h.size, fun b hb => h.old b hb (fun x => x)⟩
theorem heap_new (W : World) (o : Obj) : (W.alloc o).heap[W.heap.size]? = some o := heap_alloc_new W o
theorem lt_of_heap {W : World} {b : Nat} {o : Obj} (h : W.heap[b]? = some o) : b < W.heap.size := (Array.getElem?_eq_some_iff.1 h).1
theorem ST.drew (h : ST dd F w W μ L) : ST dd F w W.drew μ L :=
  ⟨h.os, h.tape, h.output, Low.trans h.drawn (Low.of (Nat.le_succ _)), h.size, h.old, h.mem, h.box, h.nd⟩
theorem ST.box_lt (h : ST dd F w W μ L) {b : Nat} {o : Obj} (hb : (b, o) ∈ L) : b < W.heap.size := lt_of_heap (h.box b o hb).1
theorem ST.alloc (h : ST dd F w W μ L) (o : Obj) : ST dd F w (W.alloc o) μ ((W.heap.size, o) :: L) := by
  refine ⟨h.os, h.tape, h.output, h.drawn, Nat.le_trans h.size (Ex.alloc (dd := true) W o).size, fun b hb hF => ?_, fun b o' hb => ?_, fun b o' hb => ?_, ?_⟩
  · rw [(Ex.alloc (dd := true) W o).old b (Nat.lt_of_lt_of_le hb h.size)]; exact h.old b hb hF
  · have := h.mem b o' hb
    rw [(Ex.alloc (dd := true) W o).old b (lt_of_heap this)]; exact this
  · rcases List.mem_cons.1 hb with e | hb
    · cases e
      refine ⟨heap_new W o, ?_, .inl h.size⟩
      cases hm : μ W.heap.size with
      | none => rfl
      | some x => have := lt_of_heap (h.mem _ _ hm); omega
    · obtain ⟨h1, h2, h3⟩ := h.box b o' hb
      exact ⟨by rw [(Ex.alloc (dd := true) W o).old b (lt_of_heap h1)]; exact h1, h2, h3⟩
  · simp only [List.map_cons, List.nodup_cons]
    refine ⟨fun hm => ?_, h.nd⟩
    obtain ⟨⟨b, o'⟩, hb, e⟩ := List.mem_map.1 hm
    have := h.box_lt hb
    simp at e
    omega
theorem ST.put {A B : List (Nat × Obj)} {b : Nat} {o o' : Obj} (h : ST dd F w W μ (A ++ (b, o) :: B)) (hW : W'.os = W.os ∧ W'.tape = W.tape ∧ W'.output = W.output ∧ W.drawn ≤ W'.drawn ∧ W'.heap.size = W.heap.size)
    (hs : ∀ k, k ≠ b → W'.heap[k]? = W.heap[k]?) (hb : W'.heap[b]? = some o') : ST dd F w W' μ (A ++ (b, o') :: B) := by
  obtain ⟨h1, h2, h3, h4, h5⟩ := hW
  have hb0 := h.box b o (by simp)
  have hnd := h.nd
  simp only [List.map_append, List.map_cons] at hnd
  have hnA : ∀ x o, (x, o) ∈ A → x ≠ b := fun x o hx e => by
    subst e
    have := (List.nodup_append.1 hnd).2.2 x (List.mem_map.2 ⟨_, hx, rfl⟩) x (by simp)
    exact this rfl
  have hnB : ∀ x o, (x, o) ∈ B → x ≠ b := fun x o hx e => by
    subst e
    have := (List.nodup_cons.1 (List.nodup_append.1 hnd).2.1).1
    exact this (List.mem_map.2 ⟨_, hx, rfl⟩)
  refine ⟨h1.trans h.os, h2.trans h.tape, h3.trans h.output, Low.trans h.drawn (Low.of h4), by rw [h5]; exact h.size, fun k hk hF => ?_, fun k x hk => ?_, fun k x hk => ?_, by simpa using hnd⟩
  · rw [hs k (fun e => by subst e; rcases hb0.2.2 with h | h; omega; exact hF h)]
    exact h.old k hk hF
  · rw [hs k (fun e => by subst e; rw [hb0.2.1] at hk; cases hk)]
    exact h.mem k x hk
  · rcases List.mem_append.1 hk with hk | hk
    · rw [hs k (hnA k x hk)]; exact h.box k x (by simp [hk])
    · rcases List.mem_cons.1 hk with e | hk
      · cases e; exact ⟨hb, hb0.2⟩
      · rw [hs k (hnB k x hk)]; exact h.box k x (by simp [hk])
def grow (μ : Mem) (W W' : World) : Mem := fun b => if b < W.heap.size then μ b else W'.heap[b]?
theorem ST.mu_lt (h : ST dd F w W μ L) {b : Nat} {o : Obj} (hb : μ b = some o) : b < W.heap.size := lt_of_heap (h.mem b o hb)
theorem ST.call (h : ST dd F w W μ L) (hx : Ex dd W W') : ST dd F w W' (grow μ W W') L := by
  refine ⟨hx.os.trans h.os, hx.tape.trans h.tape, hx.output.trans h.output, Low.trans h.drawn hx.drawn, Nat.le_trans h.size hx.size, fun b hb hF => ?_, fun b o hb => ?_, fun b o hb => ?_, h.nd⟩
  · rw [hx.old b (Nat.lt_of_lt_of_le hb h.size)]; exact h.old b hb hF
  · unfold grow at hb
    split at hb
    · rename_i hlt; rw [hx.old b hlt]; exact h.mem b o hb
    · exact hb
  · obtain ⟨h1, h2, h3⟩ := h.box b o hb
    exact ⟨by rw [hx.old b (lt_of_heap h1)]; exact h1, by unfold grow; rw [if_pos (lt_of_heap h1)]; exact h2, h3⟩
theorem ST.grow_sub (h : ST dd F w W μ L) (W' : World) : Sub μ (grow μ W W') := fun b o hb => by
  unfold grow; rw [if_pos (h.mu_lt hb)]; exact hb
theorem ST.weak (h : ST dd F w W μ' L) (hs : Sub μ μ') : ST dd F w W μ L :=
  ⟨h.os, h.tape, h.output, h.drawn, h.size, h.old, fun b o hb => h.mem b o (hs b o hb), fun b o hb => by
    obtain ⟨h1, h2, h3⟩ := h.box b o hb
    refine ⟨h1, ?_, h3⟩
    cases hm : μ b with
    | none => rfl
    | some x => (have := hs b x hm; rw [h2] at this; cases this), h.nd⟩
theorem ST.call0 (h : ST dd F w W μ L) (hx : Ex dd W W') : ST dd F w W' μ L := (h.call hx).weak (h.grow_sub W')
theorem ST.sub_hp (h : ST dd F w W μ L) : Sub μ (hp W) := h.mem
def pub (μ : Mem) (b : Nat) (o : Obj) : Mem := fun k => if k = b then some o else μ k
theorem ST.publish {A B : List (Nat × Obj)} {b : Nat} {o : Obj} (h : ST dd F w W μ (A ++ (b, o) :: B)) : ST dd F w W (pub μ b o) (A ++ B) := by
  have hb0 := h.box b o (by simp)
  have hnd := h.nd
  simp only [List.map_append, List.map_cons] at hnd
  have hne : ∀ x y, (x, y) ∈ A ++ B → x ≠ b := fun x y hx e => by
    subst e
    rcases List.mem_append.1 hx with hx | hx
    · exact (List.nodup_append.1 hnd).2.2 x (List.mem_map.2 ⟨_, hx, rfl⟩) x (by simp) rfl
    · exact (List.nodup_cons.1 (List.nodup_append.1 hnd).2.1).1 (List.mem_map.2 ⟨_, hx, rfl⟩)
  refine ⟨h.os, h.tape, h.output, h.drawn, h.size, h.old, fun k x hk => ?_, fun k x hk => ?_, ?_⟩
  · unfold pub at hk
    split at hk
    · rename_i e; cases hk; rw [e]; exact hb0.1
    · exact h.mem k x hk
  · have hk' : (k, x) ∈ A ++ (b, o) :: B := by
      rcases List.mem_append.1 hk with h | h <;> simp [h]
    obtain ⟨h1, h2, h3⟩ := h.box k x hk'
    exact ⟨h1, by unfold pub; rw [if_neg (hne k x hk)]; exact h2, h3⟩
  · have : (A ++ B).Sublist (A ++ (b, o) :: B) := List.Sublist.append (List.Sublist.refl A) (List.sublist_cons_self _ _)
    exact List.Nodup.sublist (this.map _) h.nd
theorem ST.pub_sub {A B : List (Nat × Obj)} {b : Nat} {o : Obj} (h : ST dd F w W μ (A ++ (b, o) :: B)) : Sub μ (pub μ b o) := fun k x hk => by
  unfold pub
  split
  · rename_i e; subst e; rw [(h.box k o (by simp)).2.1] at hk; cases hk
  · exact hk
theorem ST.drop {A B : List (Nat × Obj)} {p : Nat × Obj} (h : ST dd F w W μ (A ++ p :: B)) : ST dd F w W μ (A ++ B) :=
  (h.publish (b := p.1) (o := p.2)).weak h.pub_sub
end
abbrev Rep (α : Type) := Mem → List Value → α → Prop
def Sl {α : Type} (R : Rep α) (k : Nat) (μ : Mem) (v : Value) (l : List α) : Prop :=
  ∃ A c, v = .slice A l.length c ∧ l.length ≤ c ∧ c ≤ maxLen ∧ (0 < l.length → ∃ b off cs T fr, A = some ⟨b, off, none⟩ ∧ μ b = some (.cells cs T fr) ∧
    ∀ i x, l[i]? = some x → ∃ ys, ys.length = k ∧ R μ ys x ∧ ∀ j y, ys[j]? = some y → cs[off + i * k + j]? = some y)
def At (μ : Mem) (v : Value) (ys : List Value) : Prop :=
  ∃ b off cs T fr, v = .pointer (some ⟨b, off, none⟩) ∧ μ b = some (.cells cs T fr) ∧ ∀ j y, ys[j]? = some y → cs[off + j]? = some y
def Fr (B : Nat) (v : Value) : Prop := ∀ b, v.ownBlock = some b → B ≤ b
def MonoR {α : Type} (R : Rep α) : Prop := ∀ μ μ' ys x, Sub μ μ' → R μ ys x → R μ' ys x
def Pl {α : Type} (enc : α → List Value) : Rep α := fun _ ys x => ys = enc x
theorem Pl.mono {α : Type} (enc : α → List Value) : MonoR (Pl enc) := fun _ _ _ _ _ h => h
theorem Sl.mono {α : Type} {R : Rep α} (hR : MonoR R) {k : Nat} {μ μ' : Mem} {v : Value} {l : List α} (h : Sl R k μ v l) (hs : Sub μ μ') : Sl R k μ' v l := by
  obtain ⟨A, c, h1, h2, h3, h4⟩ := h
  refine ⟨A, c, h1, h2, h3, fun hl => ?_⟩
  obtain ⟨b, off, cs, T, fr, h5, h6, h7⟩ := h4 hl
  exact ⟨b, off, cs, T, fr, h5, hs _ _ h6, fun i x hx => let ⟨ys, h8, h9, h10⟩ := h7 i x hx; ⟨ys, h8, hR _ _ _ _ hs h9, h10⟩⟩
theorem At.mono {μ μ' : Mem} {v : Value} {ys : List Value} (h : At μ v ys) (hs : Sub μ μ') : At μ' v ys := by
  obtain ⟨b, off, cs, T, fr, h1, h2, h3⟩ := h
  exact ⟨b, off, cs, T, fr, h1, hs _ _ h2, h3⟩
theorem Sl.len {α : Type} {R : Rep α} {k : Nat} {μ : Mem} {v : Value} {l : List α} (h : Sl R k μ v l) : l.length ≤ 9223372036854775807 := by
  obtain ⟨A, c, h1, h2, h3, h4⟩ := h
  unfold maxLen at h3
  omega
theorem Sl.nil {α : Type} (R : Rep α) (k : Nat) (μ : Mem) : Sl R k μ (.slice none 0 0) [] := ⟨none, 0, rfl, Nat.le_refl _, by decide, fun h => absurd h (by simp)⟩
theorem Fr.mono {B B' : Nat} {v : Value} (h : Fr B v) (hB : B' ≤ B) : Fr B' v := fun b hb => Nat.le_trans hB (h b hb)
theorem Fr.nil (B : Nat) : Fr B (.slice none 0 0) := fun b hb => by simp [Value.ownBlock] at hb
end Go.Proofs.Ytfjdjbdnnoijgaa
