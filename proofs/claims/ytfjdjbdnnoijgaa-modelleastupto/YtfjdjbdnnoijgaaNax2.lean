/- a part of a proof of ModelLeast -/
import Derived.Test.YtfjdjbdnnoijgaaMkx2
set_option linter.all false
namespace Go.Proofs.Ytfjdjbdnnoijgaa
open Go.RowKit
section
variable {κ γ : Type} {beq : κ → κ → Bool}
theorem mget_split (hb : ∀ {x y}, beq x y = true ↔ x = y) {A B : List (κ × γ)} {k : κ} {x : γ} (hA : ∀ p ∈ A, p.1 ≠ k) : mget beq (A ++ (k, x) :: B) k = some x := by
  unfold mget
  rw [List.find?_append]
  have : A.find? (fun p => beq k p.1) = none := List.find?_eq_none.2 (fun p hp h => hA p hp (hb.1 h).symm)
  rw [this]
  simp [hb.2 (rfl : k = k)]
theorem mget_no (hb : ∀ {x y}, beq x y = true ↔ x = y) {l : List (κ × γ)} {k : κ} (h : ∀ p ∈ l, p.1 ≠ k) : mget beq l k = none := by
  unfold mget
  rw [List.find?_eq_none.2 (fun p hp hh => h p hp (hb.1 hh).symm)]
  rfl
theorem mput_split (hb : ∀ {x y}, beq x y = true ↔ x = y) {A B : List (κ × γ)} {k : κ} {x y : γ} (hA : ∀ p ∈ A, p.1 ≠ k) : mput beq (A ++ (k, x) :: B) k y = A ++ (k, y) :: B := by
  have h1 : (A ++ (k, x) :: B).findIdx? (fun p => beq k p.1) = some A.length := by
    rw [List.findIdx?_append, List.findIdx?_eq_none_iff.2 (fun p hp => by
      cases h : beq k p.1 with
      | false => rfl
      | true => exact absurd (hb.1 h).symm (hA p hp))]
    simp [List.findIdx?_cons, hb.2 (rfl : k = k)]
  rw [mput_found h1]
  simp
theorem mput_no (hb : ∀ {x y}, beq x y = true ↔ x = y) {l : List (κ × γ)} {k : κ} {y : γ} (h : ∀ p ∈ l, p.1 ≠ k) : mput beq l k y = l ++ [(k, y)] := by
  refine mput_miss (List.findIdx?_eq_none_iff.2 (fun p hp => ?_)) y
  cases hh : beq k p.1 with
  | false => rfl
  | true => exact absurd (hb.1 hh).symm (h p hp)
theorem key_split (k : κ) : ∀ (l : List (κ × γ)), (∀ p ∈ l, p.1 ≠ k) ∨ ∃ A x B, l = A ++ (k, x) :: B ∧ ∀ p ∈ A, p.1 ≠ k
  | [] => .inl (fun _ h => by cases h)
  | p :: l => by
    by_cases hp : p.1 = k
    · exact .inr ⟨[], p.2, l, by rw [← hp]; rfl, fun _ h => by cases h⟩
    · rcases key_split k l with h | ⟨A, x, B, rfl, h⟩
      · exact .inl (fun q hq => by rcases List.mem_cons.1 hq with rfl | hq; exact hp; exact h q hq)
      · exact .inr ⟨p :: A, x, B, rfl, fun q hq => by rcases List.mem_cons.1 hq with rfl | hq; exact hp; exact h q hq⟩
theorem mget_app (hb : ∀ {x y}, beq x y = true ↔ x = y) (A B : List (κ × γ)) (k : κ) : mget beq (A ++ B) k = (mget beq A k).or (mget beq B k) := by
  unfold mget
  rw [List.find?_append]
  cases A.find? (fun p => beq k p.1) <;> rfl
theorem mget_cons (p : κ × γ) (l : List (κ × γ)) (k : κ) : mget beq (p :: l) k = if beq k p.1 = true then some p.2 else mget beq l k := by
  unfold mget
  rw [List.find?_cons]
  cases beq k p.1 <;> simp
theorem mget_mput (hb : ∀ {x y}, beq x y = true ↔ x = y) (l : List (κ × γ)) (k k2 : κ) (y : γ) : mget beq (mput beq l k y) k2 = if beq k2 k = true then some y else mget beq l k2 := by
  rcases key_split k l with h | ⟨A, x, B, rfl, h⟩
  · rw [mput_no hb h, mget_app hb, mget_cons]
    by_cases hk : beq k2 k = true
    · have := hb.1 hk
      subst this
      rw [if_pos hk, if_pos hk, mget_no hb h]; rfl
    · rw [if_neg hk, if_neg hk]
      show (mget beq l k2).or none = _
      cases mget beq l k2 <;> rfl
  · rw [mput_split hb h, mget_app hb, mget_cons, mget_app hb, mget_cons]
    by_cases hk : beq k2 k = true
    · have := hb.1 hk
      subst this
      rw [if_pos hk, if_pos hk, mget_no hb h]; rfl
    · rw [if_neg hk, if_neg hk, if_neg hk]
end
abbrev Tab := List (Role × List ByteArray)
def mm (T : Tab) : List (Role × List (ByteArray × Bool)) := T.map fun p => (p.1, tt p.2)
def namesOf (T : Tab) (r : Role) : List ByteArray := (mget beqRole T r).getD []
def FS (T : Tab) : List Fact := T.flatMap fun p => p.2.map fun w => (⟨p.1, w⟩ : Fact)
def addT (T : Tab) (r : Role) (w : ByteArray) : Tab := mput beqRole T r (namesOf T r ++ [w])
theorem mm_app (A B : Tab) : mm (A ++ B) = mm A ++ mm B := by simp [mm]
theorem mm_keys {A : Tab} {r : Role} (h : ∀ p ∈ A, p.1 ≠ r) : ∀ p ∈ mm A, p.1 ≠ r := by
  intro p hp
  simp only [mm, List.mem_map] at hp
  obtain ⟨q, hq, rfl⟩ := hp
  exact h q hq
theorem mget_mm (T : Tab) (r : Role) : mget beqRole (mm T) r = (mget beqRole T r).map tt := by
  rcases key_split r T with h | ⟨A, x, B, rfl, h⟩
  · rw [mget_no beqRole_iff h, mget_no beqRole_iff (mm_keys h)]; rfl
  · rw [mget_split beqRole_iff h, mm_app]
    exact mget_split beqRole_iff (mm_keys h)
theorem getD_mm (T : Tab) (r : Role) : (mget beqRole (mm T) r).getD [] = tt (namesOf T r) := by
  rw [mget_mm, namesOf]; cases mget beqRole T r <;> rfl
theorem FS_add (T : Tab) (r : Role) (w : ByteArray) : (FS (addT T r w)).Perm (FS T ++ [(⟨r, w⟩ : Fact)]) := by
  unfold addT namesOf
  rcases key_split r T with h | ⟨A, x, B, rfl, h⟩
  · rw [mput_no beqRole_iff h, mget_no beqRole_iff h]
    simp [FS]
  · rw [mput_split beqRole_iff h, mget_split beqRole_iff h]
    simp only [FS, List.flatMap_append, List.flatMap_cons, Option.getD_some, List.map_append, List.map_cons, List.map_nil, List.append_assoc]
    refine List.Perm.append_left _ (List.Perm.append_left _ ?_)
    exact List.perm_append_comm
theorem keys_add {T : Tab} (hk : (T.map (·.1)).Nodup) (r : Role) (w : ByteArray) : ((addT T r w).map (·.1)).Nodup := by
  unfold addT
  rcases key_split r T with h | ⟨A, x, B, rfl, h⟩
  · rw [mput_no beqRole_iff h]
    simp only [List.map_append, List.map_cons, List.map_nil]
    refine List.nodup_append.2 ⟨hk, by simp, fun a ha b hb e => ?_⟩
    simp at hb; subst hb; subst e
    obtain ⟨p, hp, e⟩ := List.mem_map.1 ha
    exact h p hp e
  · rw [mput_split beqRole_iff h]
    simpa using hk
theorem mem_FS {T : Tab} (hk : (T.map (·.1)).Nodup) (f : Fact) : f ∈ FS T ↔ f.Who ∈ namesOf T f.Role := by
  simp only [FS, List.mem_flatMap, List.mem_map]
  constructor
  · rintro ⟨p, hp, w, hw, rfl⟩
    obtain ⟨A, B, rfl⟩ := List.append_of_mem hp
    have hA : ∀ q ∈ A, q.1 ≠ p.1 := fun q hq e => by
      rw [List.map_append, List.map_cons] at hk
      exact (List.nodup_append.1 hk).2.2 q.1 (List.mem_map.2 ⟨q, hq, rfl⟩) p.1 (by simp) e
    rw [namesOf, show p = (p.1, p.2) from rfl, mget_split beqRole_iff hA]
    exact hw
  · intro h
    unfold namesOf at h
    rcases key_split f.Role T with hn | ⟨A, x, B, rfl, hA⟩
    · rw [mget_no beqRole_iff hn] at h; cases h
    · rw [mget_split beqRole_iff hA] at h
      exact ⟨(f.Role, x), by simp, f.Who, h, rfl⟩
theorem names_nodup {T : Tab} (h : (FS T).Nodup) (r : Role) : (namesOf T r).Nodup := by
  unfold namesOf
  rcases key_split r T with hn | ⟨A, x, B, rfl, hA⟩
  · rw [mget_no beqRole_iff hn]; simp
  · rw [mget_split beqRole_iff hA]
    simp only [FS, List.flatMap_append, List.flatMap_cons] at h
    have h1 := (List.nodup_append.1 (List.nodup_append.1 h).2.1).1
    simp only [List.Nodup, List.pairwise_map] at h1
    exact h1.imp (fun h e => h (by rw [e]))
inductive Der (C : List Cred) : Fact → Prop
  | mem (c) : c ∈ C → c.Kind = 1 → Der C ⟨c.Head, c.Who⟩
  | inc (c w) : c ∈ C → c.Kind = 2 → Der C ⟨c.B, w⟩ → Der C ⟨c.Head, w⟩
  | lnk (c b w) : c ∈ C → c.Kind = 3 → Der C ⟨c.B, b⟩ → Der C ⟨⟨b, c.Word2⟩, w⟩ → Der C ⟨c.Head, w⟩
  | both (c w) : c ∈ C → c.Kind = 4 → Der C ⟨c.B, w⟩ → Der C ⟨c.C, w⟩ → Der C ⟨c.Head, w⟩
theorem Der.mono {C C' : List Cred} (h : ∀ c ∈ C, c ∈ C') {f : Fact} (hf : Der C f) : Der C' f := by
  induction hf with
  | mem c hc hk => exact .mem c (h c hc) hk
  | inc c w hc hk _ ih => exact .inc c w (h c hc) hk ih
  | lnk c b w hc hk _ _ ih1 ih2 => exact .lnk c b w (h c hc) hk ih1 ih2
  | both c w hc hk _ _ ih1 ih2 => exact .both c w (h c hc) hk ih1 ih2
def uni (C : List Cred) : List Fact := (C.map (·.Head)).flatMap fun r => (C.map (·.Who)).map fun w => (⟨r, w⟩ : Fact)
theorem uni_length (C : List Cred) : (uni C).length = C.length * C.length := by
  unfold uni
  have : ∀ l : List Role, (l.flatMap fun r => (C.map (·.Who)).map fun w => (⟨r, w⟩ : Fact)).length = l.length * C.length := fun l => by
    induction l with
    | nil => simp
    | cons x l ih => simp only [List.flatMap_cons, List.length_append, ih, List.length_map, List.length_cons, Nat.add_mul]; omega
  rw [this, List.length_map]
theorem mem_uni {C : List Cred} {r : Role} {w : ByteArray} : (⟨r, w⟩ : Fact) ∈ uni C ↔ (∃ c ∈ C, c.Head = r) ∧ ∃ c ∈ C, c.Who = w := by
  unfold uni
  simp only [List.mem_flatMap, List.mem_map, Fact.mk.injEq]
  constructor
  · rintro ⟨r', ⟨c, hc, rfl⟩, w', ⟨c', hc', rfl⟩, rfl, rfl⟩; exact ⟨⟨c, hc, rfl⟩, c', hc', rfl⟩
  · rintro ⟨⟨c, hc, rfl⟩, c', hc', rfl⟩; exact ⟨_, ⟨c, hc, rfl⟩, _, ⟨c', hc', rfl⟩, rfl, rfl⟩
theorem Der.who {C : List Cred} {f : Fact} (h : Der C f) : ∃ c ∈ C, c.Kind = 1 ∧ c.Who = f.Who := by
  induction h with
  | mem c hc hk => exact ⟨c, hc, hk, rfl⟩
  | inc c w hc hk _ ih => exact ih
  | lnk c b w hc hk _ _ ih1 ih2 => exact ih2
  | both c w hc hk _ _ ih1 ih2 => exact ih1
theorem Der.head {C : List Cred} {f : Fact} (h : Der C f) : ∃ c ∈ C, c.Head = f.Role := by
  cases h with
  | mem c hc hk => exact ⟨c, hc, rfl⟩
  | inc c w hc hk _ => exact ⟨c, hc, rfl⟩
  | lnk c b w hc hk _ _ => exact ⟨c, hc, rfl⟩
  | both c w hc hk _ _ => exact ⟨c, hc, rfl⟩
theorem Der.uni {C : List Cred} {f : Fact} (h : Der C f) : f ∈ uni C := by
  obtain ⟨c, hc, _, hw⟩ := h.who
  exact mem_uni.2 ⟨h.head, c, hc, hw⟩
structure Good (C : List Cred) (T : Tab) (td : List Fact) (n : Int) : Prop where
  keys : (T.map (·.1)).Nodup
  nd : (FS T).Nodup
  tnd : td.Nodup
  sub : ∀ f ∈ td, f ∈ FS T
  num : n = (FS T).length
  der : ∀ f ∈ FS T, Der C f
theorem Good.len {C : List Cred} {T : Tab} {td : List Fact} {n : Int} (h : Good C T td n) : (FS T).length ≤ C.length * C.length := by
  rw [← uni_length]; exact length_le_of_nodup h.nd (fun f hf => (h.der f hf).uni)
theorem Good.tlen {C : List Cred} {T : Tab} {td : List Fact} {n : Int} (h : Good C T td n) : td.length ≤ (FS T).length := length_le_of_nodup h.tnd h.sub
theorem Good.mono {C C' : List Cred} {T : Tab} {td : List Fact} {n : Int} (h : Good C T td n) (hc : ∀ c ∈ C, c ∈ C') : Good C' T td n := ⟨h.keys, h.nd, h.tnd, h.sub, h.num, fun f hf => (h.der f hf).mono hc⟩
structure Ext (T : Tab) (td : List Fact) (T' : Tab) (td' : List Fact) : Prop where
  old : ∀ f ∈ FS T, f ∈ FS T'
  todo : ∀ f ∈ td, f ∈ td'
  new : ∀ f ∈ FS T', f ∈ FS T ∨ f ∈ td'
  fresh : ∀ f ∈ td', f ∈ td ∨ f ∉ FS T
theorem Ext.refl (T : Tab) (td : List Fact) : Ext T td T td := ⟨fun _ h => h, fun _ h => h, fun _ h => .inl h, fun _ h => .inl h⟩
theorem Ext.trans {T T' T'' : Tab} {td td' td'' : List Fact} (h : Ext T td T' td') (k : Ext T' td' T'' td'') : Ext T td T'' td'' :=
  ⟨fun f hf => k.old f (h.old f hf), fun f hf => k.todo f (h.todo f hf), fun f hf => by
    rcases k.new f hf with h1 | h1
    · rcases h.new f h1 with h2 | h2
      · exact .inl h2
      · exact .inr (k.todo f h2)
    · exact .inr h1, fun f hf => by
    rcases k.fresh f hf with h1 | h1
    · exact h.fresh f h1
    · exact .inr (fun h2 => h1 (h.old f h2))⟩
theorem filter_two {α : Type} (p : α → Bool) : ∀ l : List α, (l.filter p).length + (l.filter fun x => !p x).length = l.length
  | [] => rfl
  | x :: l => by
    have := filter_two p l
    cases h : p x <;> simp [h] <;> omega
theorem Good.cnt {C C' : List Cred} {T T' : Tab} {td td' : List Fact} {n n' : Int} (g' : Good C' T' td' n') (g : Good C T td n) (x : Ext T td T' td') : td'.length + (FS T).length ≤ td.length + (FS T').length := by
  classical
  have h1 : (td'.filter fun f => decide (f ∈ FS T)).length ≤ td.length := length_le_of_nodup (g'.tnd.filter _) (fun f hf => by
    have := List.mem_filter.1 hf
    rcases x.fresh f this.1 with h | h
    · exact h
    · exact absurd (by simpa using this.2) h)
  have h2 : (FS T ++ td'.filter fun f => !decide (f ∈ FS T)).length ≤ (FS T').length := length_le_of_nodup (List.nodup_append.2 ⟨g.nd, g'.tnd.filter _, fun a ha b hb e => by
    subst e
    have := (List.mem_filter.1 hb).2
    simp [ha] at this⟩) (fun f hf => by
    rcases List.mem_append.1 hf with h | h
    · exact x.old f h
    · exact g'.sub f (List.mem_filter.1 h).1)
  have h3 : (td'.filter fun f => decide (f ∈ FS T)).length + (td'.filter fun f => !decide (f ∈ FS T)).length = td'.length := by
    exact filter_two (fun f => decide (f ∈ FS T)) td'
  rw [List.length_append] at h2
  omega
def Goes (C : List Cred) (T : Tab) (td : List Fact) (res : Option (List (Role × List (ByteArray × Bool)) × List Fact × Int)) (Q : Tab → Prop) : Prop :=
  ∃ T' td' n', res = some (mm T', td', n') ∧ Good C T' td' n' ∧ Ext T td T' td' ∧ Q T'
theorem Goes.mono {C : List Cred} {T : Tab} {td : List Fact} {res : Option (List (Role × List (ByteArray × Bool)) × List Fact × Int)} {Q Q' : Tab → Prop} (h : Goes C T td res Q) (hq : ∀ T', (∀ f ∈ FS T, f ∈ FS T') → Q T' → Q' T') : Goes C T td res Q' := by
  obtain ⟨T', td', n', h1, h2, h3, h4⟩ := h
  exact ⟨T', td', n', h1, h2, h3, hq T' h3.old h4⟩
def SMALL (C : List Cred) : Prop := C.length ≤ 1000000
theorem SMALL.sq {C : List Cred} (h : SMALL C) : C.length * C.length ≤ 1000000000000 := Nat.mul_le_mul h h
theorem hasB_names {T : Tab} (hk : (T.map (·.1)).Nodup) (r : Role) (w : ByteArray) : mgetD beqS ((mget beqRole (mm T) r).getD []) w false = true ↔ (⟨r, w⟩ : Fact) ∈ FS T := by
  rw [getD_mm, mgetD_tt, hasB_iff beqS_iff, mem_FS hk]
theorem tell_ok {C : List Cred} (hC : SMALL C) {T : Tab} {td : List Fact} {n : Int} (h : Good C T td n) (cs : List Cred) (us : List (Role × List Cred)) (ws : List (ByteArray × List Cred)) {r : Role} {w : ByteArray} (hd : Der C ⟨r, w⟩) :
    Goes C T td (m_model_Model_tell_w (mm T) cs us ws td n r w) (fun T' => (⟨r, w⟩ : Fact) ∈ FS T') := by
  unfold m_model_Model_tell_w
  have hsq := hC.sq
  have hl := h.len
  have htl := h.tlen
  by_cases hin : (⟨r, w⟩ : Fact) ∈ FS T
  · rw [if_pos ((hasB_names h.keys r w).2 hin)]
    exact ⟨T, td, n, rfl, h, Ext.refl _ _, hin⟩
  · rw [if_neg (fun hh => hin ((hasB_names h.keys r w).1 hh))]
    have hg : Good C (addT T r w) (td ++ [⟨r, w⟩]) (n + 1) := by
      have hp := FS_add T r w
      refine ⟨keys_add h.keys r w, (hp.nodup_iff).2 (List.nodup_append.2 ⟨h.nd, by simp, fun a ha b hb e => ?_⟩), List.nodup_append.2 ⟨h.tnd, by simp, fun a ha b hb e => ?_⟩, fun f hf => hp.mem_iff.2 ?_, ?_, fun f hf => ?_⟩
      · simp at hb; subst hb; subst e; exact hin ha
      · simp at hb; subst hb; subst e; exact hin (h.sub _ ha)
      · rcases List.mem_append.1 hf with hf | hf
        · exact List.mem_append_left _ (h.sub f hf)
        · exact List.mem_append_right _ hf
      · rw [hp.length_eq, h.num]; simp
      · rcases List.mem_append.1 (hp.mem_iff.1 hf) with hf | hf
        · exact h.der f hf
        · simp at hf; subst hf; exact hd
    have hst : ((if (mget beqRole (mm T) r).isNone = true then ((mnew beqRole (mm T) r []).bind fun l => some l) else some (mm T)) : Option _).bind (fun l => (mupd beqRole beqS l r w true)) = some (mm (addT T r w)) := by
      unfold addT namesOf
      rcases key_split r T with hn | ⟨A, x, B, rfl, hA⟩
      · have hn' := mget_no beqRole_iff (mm_keys hn)
        rw [hn', mget_no beqRole_iff hn, mput_no beqRole_iff hn, mm_app]
        simp only [Option.isNone_none, if_true, mnew, hn', Option.bind_some]
        rw [mput_no beqRole_iff (mm_keys hn)]
        unfold mupd
        rw [mget_split beqRole_iff (mm_keys hn)]
        simp only [Option.map_some]
        rw [mput_split beqRole_iff (mm_keys hn)]
        rfl
      · have hA' := mm_keys hA
        have hs : mget beqRole (mm (A ++ (r, x) :: B)) r = some (tt x) := by rw [mm_app]; exact mget_split beqRole_iff hA'
        rw [hs, mget_split beqRole_iff hA, mput_split beqRole_iff hA]
        simp only [Option.isNone_some, Bool.false_eq_true, if_false, Option.bind_some, mupd, hs, Option.map_some, Option.getD_some]
        have hx : w ∉ x := fun hw => hin (by
          rw [mem_FS h.keys, namesOf, mget_split beqRole_iff hA]; exact hw)
        rw [mput_tt beqS_iff]
        rw [show ins beqS x w = x ++ [w] from by unfold ins; rw [if_neg (fun hh => hx ((hasB_iff beqS_iff x w).1 hh))]]
        rw [mm_app, show mm ((r, x) :: B) = (r, tt x) :: mm B from rfl, mput_split beqRole_iff hA', mm_app]
        rfl
    refine ⟨addT T r w, td ++ [⟨r, w⟩], n + 1, ?_, hg, ⟨fun f hf => (FS_add T r w).mem_iff.2 (List.mem_append_left _ hf), fun f hf => List.mem_append_left _ hf, fun f hf => ?_, fun f hf => ?_⟩, (FS_add T r w).mem_iff.2 (by simp)⟩
    · have hst' := hst
      generalize ((if (mget beqRole (mm T) r).isNone = true then ((mnew beqRole (mm T) r []).bind fun l => some l) else some (mm T)) : Option _) = o at hst'
      cases o with
      | none => cases hst'
      | some l =>
        simp only [Option.bind_some] at hst' ⊢
        rw [hst']
        simp only [Option.bind_some]
        rw [appB_ok (by simp; omega) (by simp; omega)]
        simp only [Option.bind_some]
        rw [wrap_in (by rw [h.num]; omega) (by rw [h.num]; omega)]
    · rcases List.mem_append.1 ((FS_add T r w).mem_iff.1 hf) with h1 | h1
      · exact .inl h1
      · exact .inr (List.mem_append_right _ h1)
    · rcases List.mem_append.1 hf with h1 | h1
      · exact .inl h1
      · simp at h1; subst h1; exact .inr hin
end Go.Proofs.Ytfjdjbdnnoijgaa
