/- a part of a proof of RevokeStops -/
import Derived.Test.YtmlncblocfcmiaaGreatYeu
import Derived.Test.YtmlncblocfcmiaaGreatRtQu
import Derived.Test.YtmlncblocfcmiaaGreatRows
import Derived.WalkKit
import Derived.ProofKit
import Derived.OpenShut
import Derived.JoinedCond
import Derived.Deep.Slices
import Derived.Carry
import Derived.ChangeArms
import Derived.ChangeSame
import Derived.Test.YtmlncblocfcmiaaGreatRVW3u
set_option linter.all false
namespace Go.Proofs.YtmlncblocfcmiaaGreat
open Go.RowKit
theorem stands_der (t : List Cred) : ∀ (l : List Step) (had : List Fact), Stands had l → (∀ f ∈ had, Der t f) → (∀ s ∈ l, s.Cred ∈ t) → ∀ s ∈ l, Der t s.Fact
  | [], _, _, _, _, _, h => by cases h
  | z :: l, had, ⟨⟨h1, h2, h3⟩, hs⟩, hh, hc, s, hin => by
    have hz : Der t z.Fact := by
      have := StepP.der hh (hc z (by simp)) (right_kind h1) h3
      rw [← h2] at this
      exact this
    rcases List.mem_cons.1 hin with rfl | hin
    · exact hz
    · exact stands_der t l _ hs (fun f hf => by
        rcases List.mem_append.1 hf with hf | hf
        · exact hh f hf
        · rw [List.mem_singleton] at hf; rw [hf]; exact hz) (fun s hs => hc s (by simp [hs])) s hin
theorem stops_L2 (r : List Step × Bool) (u : List Cred) : ∀ l : List Cred, (∀ x ∈ l, r.2 = true ∧ x ∈ u) → m_law34_RevokeStops_L2 r u l = some (.inr ())
  | [], _ => rfl
  | x :: l, h => by
    have h1 := h x (by simp)
    rw [m_law34_RevokeStops_L2, hasC_eq, h1.1, (hasB_iff beqCred_iff u x).2 h1.2]
    simp only [Option.bind_some, Bool.not_true, Bool.false_eq_true, if_false]
    exact stops_L2 r u l (fun y hy => h y (by simp [hy]))
theorem stops_L4 (x : Cred) : ∀ l : List Signed, (∀ s ∈ l, s.Cred ≠ x) → m_law34_RevokeStops_L4 x l = some (.inr ())
  | [], _ => rfl
  | s :: l, h => by
    rw [m_law34_RevokeStops_L4, if_neg (by rw [beqCred_iff]; exact h s (by simp))]
    exact stops_L4 x l (fun y hy => h y (by simp [hy]))
theorem stops_L3 (l2 : List Signed) : ∀ l : List Cred, (∀ x ∈ l, ∀ s ∈ l2, s.Cred ≠ x) → m_law34_RevokeStops_L3 l2 l = some (.inr ())
  | [], _ => rfl
  | x :: l, h => by
    rw [m_law34_RevokeStops_L3, stops_L4 x l2 (h x (by simp)), Option.bind_some]
    exact stops_L3 l2 l (fun y hy => h y (by simp [hy]))
theorem stops_end (a : List Cred) (f : Fact) (ha : a.length ≤ 3000) : ∃ r u s, m_chain_Find a f = some r ∧ m_chain_Used r.1 = some u ∧ m_revoke_Critical a f = some s ∧ ∀ x ∈ s, r.2 = true ∧ x ∈ u := by
  obtain ⟨s, c1, _, _, cm⟩ := crit_ok a f (by omega)
  obtain ⟨C, hC, hf⟩ := find_ok a ha f
  have hlC := isSet_length ltOnC hC
  have cm := cm C (fun c => hC.2 c)
  rcases hf with ⟨o, e, g⟩ | ⟨e, hn⟩
  · have hol : o.length ≤ 100000000 := by
      have h1 := g.len
      have h2 : C.length * C.length ≤ 3000 * 3000 := Nat.mul_le_mul (by omega) (by omega)
      omega
    obtain ⟨u, u1, _, hu⟩ := used_ok o hol
    refine ⟨_, u, s, e, u1, c1, fun x hx => ⟨rfl, ?_⟩⟩
    obtain ⟨hxC, hd, t, ht, hnt⟩ := (cm x).1 hx
    have hxa := (hC.2 x).1 hxC
    rw [hu.2]
    refine ⟨?_, hxa.2⟩
    apply Classical.byContradiction
    intro hno
    apply hnt
    obtain ⟨P, z, ho, hz⟩ := g.last
    have := stands_der t o [] g.tg.2.1 (fun f hf => by cases hf) (fun q hq => by
      rw [ht]
      have h1 := (hC.2 q.Cred).1 (g.cr q hq)
      exact ⟨h1.1, h1.2, fun e => hno (e ▸ List.mem_map_of_mem hq)⟩) z (by rw [ho]; simp)
    rw [hz] at this
    exact this
  · obtain ⟨u, u1, _, hu⟩ := used_ok [] (by simp)
    refine ⟨_, u, s, e, u1, c1, fun x hx => ?_⟩
    exact absurd ((cm x).1 hx).2.1 hn
theorem stops_L1 (ks : List Key) (hk : K8 ks) (h0 : newE [] ks = 0) (a : List Cred) (f : Fact) (ha : a.length ≤ 3000) : ∀ (l : List Cred) (i : Nat) (l1 l2 : List Signed), S8 l1 → S8 l2 → (∀ s ∈ l2, GoodP ks s) → l1.length + l.length ≤ 100000 → l2.length + l.length ≤ 100000 →
    m_law34_RevokeStops_L1 (some ⟨tabK ks⟩, 0) ks a f l i l1 l2 = some true
  | [], i, l1, l2, h1, h2, hg, n1, n2 => by
    rw [m_law34_RevokeStops_L1]
    obtain ⟨s, e, _, hL⟩ := live_ok ks hk l1 l2 h1 h2 (by simp at n1; omega)
    have hL := hL h0
    obtain ⟨r, u, q, e1, e2, e3, hq⟩ := stops_end a f ha
    rw [e, Option.bind_some, stops_L3 l2 s (fun x hx g hg2 e => ((hL.mem x).1 hx).2 ⟨g, hg2, hg g hg2, e⟩)]
    simp only [Option.bind_some, e1, e2, e3, stops_L2 r u q hq]
  | x :: l, i, l1, l2, h1, h2, hg, n1, n2 => by
    simp only [List.length_cons] at n1 n2
    rw [m_law34_RevokeStops_L1]
    obtain ⟨r, e, hr⟩ := sign_eq ks h0 x
    simp only [e, Option.bind_some]
    rcases hr with ⟨hr, _⟩ | ⟨hr, k, hm, hr1⟩
    · rw [if_pos (by simp [hr])]
      exact stops_L1 ks hk h0 a f ha l _ l1 l2 h1 h2 hg (by omega) (by omega)
    rw [if_neg (by simp [hr])]
    obtain ⟨q, e2, _, hq⟩ := make_eq ks hk x
    rcases hq with ⟨_, _, hq⟩ | ⟨hq, k', hm', hq1⟩
    · exact absurd hm (hq k)
    obtain rfl := hm.unique hm'
    rw [e2, Option.bind_some, hr1, hq1, beqT (tagL8 _ _) (tagL8 _ _)]
    by_cases ht : tagL k (bodyR x) = tagL k (credI x)
    · rw [if_pos (by simp [ht])]
    rw [if_neg (by simp [ht])]
    have gG : goodB ks ⟨x, tagL k (bodyR x)⟩ = true := (goodB_iff _ _).2 ⟨k, hm, rfl⟩
    have gS : goodB ks ⟨x, tagL k (credI x)⟩ = false := by
      rw [← Bool.not_eq_true, goodB_iff]
      rintro ⟨k', hk', e⟩
      obtain rfl := hm.unique hk'
      exact ht e.symm
    rw [(good_b ks hk ⟨x, tagL k (credI x)⟩ (tagL8 _ _)).1, (good_b ks hk ⟨x, tagL k (bodyR x)⟩ (tagL8 _ _)).1, gG, gS]
    obtain ⟨z, e3, _, hz⟩ := check_eq ks hk h0 ⟨x, tagL k (bodyR x)⟩ (tagL8 _ _)
    have hz0 : (z == 0) = false := by
      simp only [beq_eq_false_iff_ne, ne_eq, hz]
      rintro ⟨k', hk', e⟩
      obtain rfl := hm.unique hk'
      exact ht e
    have hq0 : (q.2 != 0) = false := by simp [hq]
    simp only [e3, Option.bind_some, hz0, hq0, Bool.not_true, Bool.false_eq_true, if_false]
    rw [appB_ok (by simp; omega) (by simp; omega)]
    simp only [Option.bind_some]
    have s1 : S8 (l1 ++ [⟨x, tagL k (credI x)⟩]) := fun s hs => by
      rcases List.mem_append.1 hs with hs | hs
      · exact h1 s hs
      · rw [List.mem_singleton] at hs; rw [hs]; exact tagL8 _ _
    split
    · rw [appB_ok (by simp; omega) (by simp; omega), Option.bind_some]
      refine stops_L1 ks hk h0 a f ha l _ _ _ s1 (fun s hs => ?_) (fun s hs => ?_) (by simp; omega) (by simp; omega)
      · rcases List.mem_append.1 hs with hs | hs
        · exact h2 s hs
        · rw [List.mem_singleton] at hs; rw [hs]; exact tagL8 _ _
      · rcases List.mem_append.1 hs with hs | hs
        · exact hg s hs
        · rw [List.mem_singleton] at hs; rw [hs]; exact (goodB_iff _ _).1 gG
    · exact stops_L1 ks hk h0 a f ha l _ _ _ s1 h2 hg (by simp; omega) (by omega)
theorem revokeStops_main (ks : List Key) (a : List Cred) (f : Fact) (hk : K8 ks) (ha : a.length ≤ 10000000) (ca : ∀ c ∈ a, sizeC c ≤ 1000000000) : m_law34_RevokeStops ks a f = some true := by
  unfold m_law34_RevokeStops
  rw [first34]
  simp only [Option.bind_some, Bool.not_true, Bool.false_eq_true, if_false]
  obtain ⟨r, e, hr1, hr2⟩ := great_both a ha ca
  obtain ⟨q, e2⟩ := great06 ks [] (by simp)
  rw [keysNew, e, e2]
  by_cases h0 : newE [] ks = 0
  case neg =>
    have : (newE [] ks != 0) = true := by simp [h0]
    simp only [h0, if_false, Option.bind_some, orS, bindS, this, Bool.or_true, Bool.true_or, if_true]
  simp only [h0, if_true, Option.bind_some, orS, bindS]
  by_cases h9 : r > 900
  · simp only [h9, decide_true, Bool.true_or, if_true]
  have hs := stops_L1 ks hk h0 a f (by omega) a 0 [] [] (fun s hs => by cases hs) (fun s hs => by cases hs) (fun s hs => by cases hs) (by simp; omega) (by simp; omega)
  rw [hs]
  split <;> rfl
end Go.Proofs.YtmlncblocfcmiaaGreat
namespace Go.Proofs.YtmlncblocfcmiaaGreat.Lf
open Go.ChangeShapes Go.WideShapes Go.ChangeAt Go.RowKit
open Go.Proofs.YtmlncblocfcmiaaGreat (Rows.uptoBulk Rows.uptoBulkAll Rows.uptoSmall)
theorem one_le {H : Type} (d : DataW H) : 1 ≤ Rows.uptoBulk d := by
  cases d with
  | lit l => cases l <;> simp [Rows.uptoBulk]
  | nil => simp [Rows.uptoBulk]
  | ptr d => simp [Rows.uptoBulk]
  | slice elems spare => simp [Rows.uptoBulk]
  | agg parts => simp [Rows.uptoBulk]
  | iface t d => simp [Rows.uptoBulk]
  | map entries => simp [Rows.uptoBulk]
  | held h => simp [Rows.uptoBulk]
theorem length_le {H : Type} (l : List (DataW H)) : l.length ≤ Rows.uptoBulkAll l := by
  induction l with
  | nil => simp [Rows.uptoBulkAll]
  | cons x r ih => have := one_le x; simp only [Rows.uptoBulkAll, List.length_cons]; omega
def Dec {α : Type} (P : Program) (t : TypeId) (enc : α → List Value) (sz : α → Nat) : Prop :=
  ∀ (H : Type) (eh : TypeId × Value → H) (W : World) (base : Nat) (sp : Nat → Bool) (hd : Bool) (fuel : Nat) (cs : List Value) (x : DataW H × List MemPlace),
    DataW.trod eh P W base sp hd fuel t cs = some x → ∃ a : α, cs = enc a ∧ sz a ≤ Rows.uptoBulk x.1
theorem dec_string {P : Program} {t : TypeId} (ht : P.underlying t = some .string) : Dec P t (fun s : ByteArray => [.string s]) (fun s => s.size) := by
  intro H eh W base sp hd fuel cs x h
  obtain ⟨s, rfl, rfl, _⟩ := DataW.trod_string ht h
  refine ⟨s, rfl, ?_⟩
  have e : s.data.toList.length = s.size := by rw [Array.length_toList]; rfl
  simp [Rows.uptoBulk, e]
theorem dec_int {P : Program} {t : TypeId} {k : IntKind} (ht : P.underlying t = some (.int k)) : Dec P t (fun n : Int => [.int k n]) (fun _ => 0) := by
  intro H eh W base sp hd fuel cs x h
  obtain ⟨n, rfl, rfl, _⟩ := DataW.trod_int ht h
  exact ⟨n, rfl, Nat.zero_le _⟩
theorem list_of {α : Type} {n : Nat} {p : Nat → α → Prop} (h : ∀ i, i < n → ∃ x, p i x) : ∃ l : List α, l.length = n ∧ ∀ i x, l[i]? = some x → p i x := by
  induction n with
  | zero => exact ⟨[], rfl, by simp⟩
  | succ n ih =>
    obtain ⟨l, h1, h2⟩ := ih fun i hi => h i (by omega)
    obtain ⟨x, hx⟩ := h n (by omega)
    refine ⟨l ++ [x], by simp [h1], fun i y hy => ?_⟩
    by_cases hi : i < l.length
    · rw [List.getElem?_append_left hi] at hy
      exact h2 i y hy
    · rw [List.getElem?_append_right (by omega)] at hy
      have : i - l.length = 0 := by
        cases hd : i - l.length with
        | zero => rfl
        | succ m => rw [hd] at hy; simp at hy
      rw [this] at hy
      have e : i = n := by omega
      simp at hy
      subst hy; rw [e]; exact hx
theorem cell_get {W : World} {a : Addr} {v : Value} (h : W.cell? a = some v) : ∃ cs T fr, W.heap[a.block]? = some (.cells cs T fr) ∧ a.spot = none ∧ cs[a.off]? = some v := by
  unfold World.cell? at h
  split at h
  · rename_i c T fr hb
    by_cases hs : a.spot.isSome
    · simp [hs] at h
    · simp only [hs] at h
      exact ⟨c, T, fr, hb, by simpa using hs, by simpa using h⟩
  · cases h
theorem Ex.below {dd : Bool} {W W' : World} (h : Ex dd W W') : Below W.heap.size W W' := ⟨h.os, h.tape, h.output, h.size, h.old⟩
theorem trodAll_stays {H : Type} {eh : TypeId × Value → H} {P : Program} (hl : laidOutB P = true) {W W' : World} {sp' : Nat → Bool} :
    ∀ {ts : List TypeId} {vs : List Value} {ds : List (DataW H)} {ps : List MemPlace}, (∀ t ∈ ts, P.readableRec t = true ∧ t < P.types.size) →
      DataW.TrodAll eh P W 0 (fun _ => true) true ts vs ds ps → (∀ p ∈ ps, W.sameAt W' p) → (∀ p ∈ ps, sp' p.block = true) → DataW.TrodAll eh P W' 0 sp' true ts vs ds ps
  | [], _, _, _, _, h, _, _ => by
    obtain ⟨rfl, rfl, rfl⟩ := trodAll_nil h
    exact trodAll_mk0
  | t :: ts, _, _, _, hr, h, h1, h2 => by
    obtain ⟨v, vs, d, ds, p, q, rfl, rfl, rfl, h3, h4⟩ := trodAll_cons h
    exact trodAll_cons_mk (WideElems.Trod_stays hl (hr t (by simp)).1 (hr t (by simp)).2 h3 (fun x hx => h1 x (by simp [hx])) (fun x hx => h2 x (by simp [hx])))
      (trodAll_stays hl (fun u hu => hr u (by simp [hu])) h4 (fun x hx => h1 x (by simp [hx])) (fun x hx => h2 x (by simp [hx])))
theorem post_of_ex {H : Type} {enc : TypeId × Value → H} {P : Program} (hl : laidOutB P = true) {f : Func} {s : ChangeSpec} {apart fresh handsOn again : Bool} {W W' : World} {args : Array Value} {v : Value} {ds gs : List (DataW H)} {before : List MemPlace}
    (hr : ∀ t ∈ f.params.toList, P.readableRec t = true ∧ t < P.types.size) (hsv : s.vars = [])
    (hW : DataW.Whole enc P f.params.toList s.vars apart W args.toList ds gs before)
    {dd : Bool} (hx : Ex dd W W')
    (hres : ∀ (b : Nat) (sp : Nat → Bool) (hd : Bool), DataW.TrodAll enc P W' b sp hd f.resultTypes.toList (v.resultList f.resultTypes.size) (s.fn H (ds ++ gs)).results [])
    (hargs : (s.fn H (ds ++ gs)).args = ds) (hvars : (s.fn H (ds ++ gs)).vars = [])
    (hok : ∀ (j : Nat) (t : TypeId) (r : Value), f.resultTypes[j]? = some t → (v.resultList f.resultTypes.size)[j]? = some r → Value.okWide P W' .any 0 t r) :
    s.post enc P f apart fresh handsOn again W args v W' := by
  have hlt := hW.lt
  have hold : ∀ p ∈ before, (fun b => decide (b < W.heap.size)) p.block = true := fun p hp => by simpa using hlt p hp
  have hb := Ex.below hx
  have hW' := hW
  obtain ⟨p, q, hA, hV, hpq, hz, hn⟩ := hW
  rw [hsv] at hV
  obtain ⟨rfl, rfl⟩ := trodVars_none hV
  rw [List.append_nil] at hpq
  subst hpq
  have hst : ∀ sp : Nat → Bool, (∀ p ∈ before, sp p.block = true) → DataW.TrodAll enc P W' 0 sp true f.params.toList args.toList (s.fn H (ds ++ [])).args before := fun sp hsp => by
    rw [hargs]
    exact trodAll_stays hl hr hA (fun x hx => hb.same (hlt x hx)) hsp
  have hvs : ∀ sp : Nat → Bool, DataW.TrodVars enc P W' sp s.vars (s.fn H (ds ++ [])).vars [] := fun sp => by
    rw [hvars, hsv]; rfl
  refine ⟨ds, [], before, [], before, [], hW', hres _ _ _, hst _ hold, hvs _, World.keptBut_mono (fun p hp => ⟨hp, ?_⟩) (hb.frame (· ∈ before)), fun _ => ?_⟩
  · exact Or.inr (Or.inl hp)
  · refine ⟨hok, _, _, ([] ++ before) ++ [], ⟨[] ++ before, [], trodAll_append (hst _ (fun _ _ => rfl)) (hres _ _ _), hvs _, rfl, ?_, ?_⟩, ?_⟩
    · intro b off hp
      have hp' : MemPlace.cell b off ∈ before := by simpa using hp
      rw [World.frozen?_of_block (w := W) (hb.block b (hlt _ hp'))]
      exact hz b off hp'
    · intro ha
      simpa using hn ha
    · intro p hp _
      simpa using hp
end Go.Proofs.YtmlncblocfcmiaaGreat.Lf
namespace Go.Proofs.YtmlncblocfcmiaaGreat.Lf
open Go.ChangeShapes Go.WideShapes Go.ChangeAt Go.RowKit
open Go.Proofs.YtmlncblocfcmiaaGreat (Rows.uptoBulk Rows.uptoBulkAll Rows.uptoSmall)
def DecR {α : Type} (P : Program) (t : TypeId) (R : Rep α) (sz : α → Nat) : Prop :=
  ∀ (H : Type) (eh : TypeId × Value → H) (W : World) (base : Nat) (sp : Nat → Bool) (hd : Bool) (fuel : Nat) (cs : List Value) (x : DataW H × List MemPlace),
    DataW.trod eh P W base sp hd fuel t cs = some x → ∃ a : α, R (hp W) cs a ∧ sz a ≤ Rows.uptoBulk x.1
theorem Dec.rel {α : Type} {P : Program} {t : TypeId} {enc : α → List Value} {sz : α → Nat} (h : Dec P t enc sz) : DecR P t (Pl enc) sz := fun H eh W base sp hd fuel cs x hx => h H eh W base sp hd fuel cs x hx
end Go.Proofs.YtmlncblocfcmiaaGreat.Lf
namespace Go.Proofs.YtmlncblocfcmiaaGreat.Lf
open Go.ChangeShapes Go.WideShapes Go.ChangeAt Go.RowKit
open Go.Proofs.YtmlncblocfcmiaaGreat (Rows.uptoBulk Rows.uptoBulkAll Rows.uptoSmall)
theorem bulkAll_sum {H : Type} : ∀ l : List (DataW H), Rows.uptoBulkAll l = (l.map Rows.uptoBulk).sum
  | [] => by simp [Rows.uptoBulkAll]
  | d :: l => by simp [Rows.uptoBulkAll, bulkAll_sum l]
theorem sum_le {α : Type} (g : α → Nat) : ∀ (n : Nat) (f : Nat → Nat) {l : List α}, l.length = n → (∀ i x, l[i]? = some x → g x ≤ f i) → (l.map g).sum ≤ ((List.range n).map f).sum
  | 0, f, l, hl, h => by
    obtain rfl := List.length_eq_zero_iff.1 hl
    simp
  | n + 1, f, [], hl, h => by cases hl
  | n + 1, f, a :: l, hl, h => by
    rw [List.range_succ_eq_map, List.map_cons, List.map_cons, List.sum_cons, List.sum_cons, List.map_map]
    have h1 := h 0 a rfl
    have h2 := sum_le g n (f ∘ Nat.succ) (l := l) (by simpa using hl) (fun i x hx => h (i + 1) x (by simpa using hx))
    omega
def szS {α : Type} (sz : α → Nat) (l : List α) : Nat := (l.map fun a => max 1 (sz a)).sum
theorem len_szS {α : Type} (sz : α → Nat) : ∀ l : List α, l.length ≤ szS sz l
  | [] => Nat.le_refl _
  | a :: l => by have := len_szS sz l; simp only [szS, List.map_cons, List.sum_cons, List.length_cons] at this ⊢; omega
theorem le_szS {α : Type} {sz : α → Nat} : ∀ {l : List α} {a : α}, a ∈ l → sz a ≤ szS sz l
  | b :: l, a, h => by
    simp only [szS, List.map_cons, List.sum_cons]
    rcases List.mem_cons.1 h with rfl | h
    · omega
    · have := le_szS (sz := sz) h; simp only [szS] at this; omega
theorem decR_sliceS {α : Type} {P : Program} {t e : TypeId} {k : Nat} {R : Rep α} {sz : α → Nat} (hk : P.cellsOf e = k) (hk0 : 0 < k) (hd : DecR P e R sz) (ht : P.underlying t = some (.slice e)) {H : Type} {eh : TypeId × Value → H} {W : World} {base : Nat} {sp : Nat → Bool} {held : Bool} {fuel : Nat} {cs : List Value} {x : DataW H × List MemPlace}
    (hf : DataW.trod eh P W base sp held fuel t cs = some x) :
    ∃ v l, cs = [v] ∧ Sl R k (hp W) v l ∧ szS sz l ≤ Rows.uptoBulk x.1 := by
  rcases Go.Deep.open_slice ht hf with ⟨rfl, rfl⟩ | ⟨a, ln, cp, m, n, D, Q, rfl, hb, hl, hm, hmm, rfl, hel⟩
  · exact ⟨_, [], rfl, ⟨none, 0, rfl, Nat.le_refl _, Nat.zero_le _, fun h => absurd h (Nat.lt_irrefl _)⟩, Nat.zero_le _⟩
  · have hlm : ln ≤ m := by rw [hmm]; split <;> omega
    have hB : ((List.range ln).map fun i => Rows.uptoBulk (D i)).sum ≤ Rows.uptoBulk (DataW.slice ((List.range ln).map D) ((List.range (m - ln)).map fun j => D (ln + j))) := by
      simp only [Rows.uptoBulk]
      rw [bulkAll_sum, List.map_map]
      have e : ((List.range ln).map fun i => Rows.uptoBulk (D i)) = (List.range ln).map (Rows.uptoBulk ∘ D) := rfl
      rw [e]
      omega
    simp only
    generalize Rows.uptoBulk (DataW.slice ((List.range ln).map D) ((List.range (m - ln)).map fun j => D (ln + j))) = B at hB
    obtain ⟨l, hl1, hl2⟩ := list_of (α := α) (n := ln) (p := fun i x => ∃ cs', W.cells? base (a.add (i * k)) k = some cs' ∧ R (hp W) cs' x ∧ sz x ≤ Rows.uptoBulk (D i)) fun i hi => by
      obtain ⟨cs', h1, h2⟩ := hel i (by omega)
      obtain ⟨x, hR, h3⟩ := hd _ _ _ _ _ _ _ _ _ h2
      rw [hk] at h1
      exact ⟨x, cs', h1, hR, h3⟩
    subst hl1
    refine ⟨_, l, rfl, ⟨some a, cp, rfl, hl, hm, fun h0 => ?_⟩, ?_⟩
    · have hget : ∀ i x, l[i]? = some x → ∃ cs', R (hp W) cs' x ∧ cs'.length = k ∧ ∀ j, j < k → W.cell? ((a.add (i * k)).add j) = cs'[j]? := fun i x hx =>
        let ⟨cs', h1, h2, _⟩ := hl2 i x hx
        let ⟨_, h3, h4⟩ := World.cells?_some h1
        ⟨cs', h2, h3, h4⟩
      obtain ⟨cs0, _, h4, h5⟩ := hget 0 l[0] (by simp [h0])
      have h6 := h5 0 hk0
      rw [Nat.zero_mul, List.getElem?_eq_getElem (by omega)] at h6
      have e0 : (a.add 0).add 0 = a := rfl
      rw [e0] at h6
      obtain ⟨cs, T, fr, h7, h8, _⟩ := cell_get h6
      obtain ⟨ab, ao, asp⟩ := a
      simp only at h7 h8
      subst h8
      refine ⟨ab, ao, cs, T, fr, rfl, h7, fun i x hx => ?_⟩
      obtain ⟨cs', gR, g1, g2⟩ := hget i x hx
      refine ⟨cs', g1, gR, fun j y hy => ?_⟩
      have hj : j < k := by
        rw [← g1]
        exact (List.getElem?_eq_some_iff.1 hy).1
      have h9 := g2 j hj
      rw [Go.Deep.add_add, hy] at h9
      obtain ⟨cs'', T', fr', h10, h11, h12⟩ := cell_get h9
      have hbk : (Addr.add ⟨ab, ao, none⟩ (i * k + j)).block = ab ∧ (Addr.add ⟨ab, ao, none⟩ (i * k + j)).off = ao + (i * k + j) := by
        unfold Addr.add
        split
        · rename_i hz
          rw [hz]; exact ⟨rfl, rfl⟩
        · exact ⟨rfl, rfl⟩
      rw [hbk.1, h7] at h10
      cases h10
      rw [hbk.2, ← Nat.add_assoc] at h12
      exact h12
    · refine Nat.le_trans (sum_le _ _ _ rfl fun i x hx => ?_) hB
      exact Nat.max_le.2 ⟨one_le _, (hl2 i x hx).elim fun _ h => h.2.2⟩
theorem slS_of_trod {α H : Type} {eh : TypeId × Value → H} {P : Program} {t e : TypeId} {k : Nat} {enc : α → List Value} {sz : α → Nat} (hk : P.cellsOf e = k) (hk0 : 0 < k) (hd : Dec P e enc sz)
    (ht : P.underlying t = some (.slice e)) {W : World} {base b0 : Nat} {r : Reach} {sp : Nat → Bool} {held : Bool} {v : Value} {d : DataW H} {ps : List MemPlace}
    (hval : Value.okWide P W r b0 t v) (h : DataW.Trod eh P W base sp held t v d ps) :
    ∃ l : List α, Sl (Pl enc) k (hp W) v l ∧ szS sz l ≤ Rows.uptoBulk d := by
  obtain ⟨A, ln, cp, rfl⟩ := okWide_slice ht hval
  obtain ⟨fuel, hf⟩ := h
  obtain ⟨u, l, h1, h2, h3⟩ := decR_sliceS hk hk0 hd.rel ht hf
  have hc : (Value.slice A ln cp).cells.toList = [Value.slice A ln cp] := rfl
  rw [hc] at h1
  cases h1
  exact ⟨l, h2, h3⟩
end Go.Proofs.YtmlncblocfcmiaaGreat.Lf
namespace Go.Proofs.YtmlncblocfcmiaaGreat.Lf
open Go.ChangeShapes Go.WideShapes Go.ChangeAt Go.RowKit
open Go.Proofs.YtmlncblocfcmiaaGreat (Rows.uptoBulk Rows.uptoBulkAll Rows.uptoSmall)
def OkR {α : Type} (R : Rep α) (Q : α → Prop) : Rep α := fun μ ys x => R μ ys x ∧ Q x
theorem Sl.all {α : Type} {R : Rep α} {Q : α → Prop} {k : Nat} {μ : Mem} {v : Value} {l : List α} (h : Sl (OkR R Q) k μ v l) : Sl R k μ v l ∧ ∀ x ∈ l, Q x := by
  obtain ⟨A, c, rfl, h1, h2, h3⟩ := h
  cases l with
  | nil => exact ⟨⟨A, c, rfl, h1, h2, fun h => absurd h (by simp)⟩, by simp⟩
  | cons a l =>
    obtain ⟨b, o, cs, T, fr, e, h4, h5⟩ := h3 (by simp)
    refine ⟨⟨A, c, rfl, h1, h2, fun _ => ⟨b, o, cs, T, fr, e, h4, fun i x hx => ?_⟩⟩, fun x hx => ?_⟩
    · obtain ⟨ys, h6, h7, h8⟩ := h5 i x hx
      exact ⟨ys, h6, h7.1, h8⟩
    · obtain ⟨i, hi⟩ := List.mem_iff_getElem?.1 hx
      obtain ⟨ys, h6, h7, h8⟩ := h5 i x hi
      exact h7.2
theorem decR_u8 {P : Program} {t : TypeId} (ht : P.underlying t = some (.int .u8)) : DecR P t (OkR (Pl (encIk .u8)) (fun x => 0 ≤ x ∧ x < 256)) (fun _ => 0) := by
  intro H eh W base sp hd fuel cs x h
  obtain ⟨n, rfl, rfl, hw⟩ := DataW.trod_int ht h
  refine ⟨n, ⟨rfl, ?_⟩, Nat.zero_le _⟩
  simp [Lit.wf, IntKind.min, IntKind.max, IntKind.bits, IntKind.signed] at hw
  omega
theorem slD_of_trod {α H : Type} {eh : TypeId × Value → H} {P : Program} {t e : TypeId} {k : Nat} {R : Rep α} {Q : α → Prop} {sz : α → Nat} (hk : P.cellsOf e = k) (hk0 : 0 < k) (hd : DecR P e (OkR R Q) sz)
    (ht : P.underlying t = some (.slice e)) {W : World} {base b0 : Nat} {r : Reach} {sp : Nat → Bool} {held : Bool} {v : Value} {d : DataW H} {ps : List MemPlace}
    (hval : Value.okWide P W r b0 t v) (h : DataW.Trod eh P W base sp held t v d ps) :
    ∃ l : List α, Sl R k (hp W) v l ∧ szS sz l ≤ Rows.uptoBulk d ∧ ∀ x ∈ l, Q x := by
  obtain ⟨A, ln, cp, rfl⟩ := okWide_slice ht hval
  obtain ⟨fuel, hf⟩ := h
  obtain ⟨u, l, h1, h2, h3⟩ := decR_sliceS hk hk0 hd ht hf
  have hc : (Value.slice A ln cp).cells.toList = [Value.slice A ln cp] := rfl
  rw [hc] at h1
  cases h1
  exact ⟨l, (Sl.all h2).1, h3, (Sl.all h2).2⟩
end Go.Proofs.YtmlncblocfcmiaaGreat.Lf
namespace Go.Proofs.YtmlncblocfcmiaaGreat
set_option maxRecDepth 10000
open Go.ChangeShapes Go.WideShapes Go.ChangeAt Go.RowKit
open Go.Proofs.YtmlncblocfcmiaaGreat Go.Proofs.YtmlncblocfcmiaaGreat.Lf
theorem cells196 : Tryz.prog.cellsOf 196 = 2 := by kernel_rfl
theorem len2 {α : Type} {l : List α} (h : l.length = 2) : ∃ a0 a1, l = [a0, a1] := by
  match l, h with
  | [a0, a1], _ => exact ⟨a0, a1, rfl⟩
theorem dec9 : Dec Tryz.prog 9 (fun s : ByteArray => [.string s]) (fun s => s.size) := dec_string Tryz.underlying9
theorem cells9 : Tryz.prog.cellsOf 9 = 1 := by kernel_rfl
theorem cells5 : Tryz.prog.cellsOf 5 = 1 := by kernel_rfl
theorem decu5 : DecR Tryz.prog 5 (OkR (Pl (encIk .u8)) (fun x => 0 ≤ x ∧ x < 256)) (fun _ => 0) := decR_u8 Tryz.underlying5
theorem cells54 : Tryz.prog.cellsOf 54 = 1 := by kernel_rfl
def szKey (x : Key) : Nat := x.Who.size + szS (fun _ : Int => 0) x.Key
def okKey (x : Key) : Prop := (∀ y ∈ x.Key, 0 ≤ y ∧ y < 256)
theorem decd196 : DecR Tryz.prog 196 (OkR relKey okKey) szKey := by
  intro H eh W base sp hd fuel cs x h
  obtain ⟨xs, n, _, rfl, hl, hlen, hf⟩ := DataW.trod_struct Tryz.underlying196 h
  obtain ⟨y0, y1, rfl⟩ := len2 hlen
  obtain ⟨c0, c1, rfl⟩ := len2 (hl.trans cells196)
  have h0 : DataW.trod eh Tryz.prog W base sp hd n 9 (([c0, c1].drop 0).take (Tryz.prog.cellsOf 9)) = some y0 := hf 0 _ rfl
  have h1 : DataW.trod eh Tryz.prog W base sp hd n 54 (([c0, c1].drop 1).take (Tryz.prog.cellsOf 54)) = some y1 := hf 1 _ rfl
  simp only [cells54, cells9, List.drop, List.take] at h0 h1
  obtain ⟨s0, e0, b0⟩ := dec9 _ _ _ _ _ _ _ _ _ h0
  obtain ⟨v1, s1, e1, q1, b1⟩ := decR_sliceS cells5 (by decide) decu5 Tryz.underlying54 h1
  simp only [List.cons.injEq, and_true] at e0 e1
  obtain rfl := e0
  obtain rfl := e1
  obtain ⟨q1, g1⟩ := Lf.Sl.all q1
  refine ⟨⟨s0, s1⟩, ⟨relKey.mk ⟨_, rfl, q1⟩, g1⟩, ?_⟩
  simp only [List.map, Rows.uptoBulk, Rows.uptoBulkAll, szKey] at b0 b1 ⊢
  omega
theorem dec3 : Dec Tryz.prog 3 (fun n : Int => [.int .i64 n]) (fun _ => 0) := dec_int Tryz.underlying3
theorem cells3 : Tryz.prog.cellsOf 3 = 1 := by kernel_rfl
theorem cells28 : Tryz.prog.cellsOf 28 = 2 := by kernel_rfl
def szRole (x : Role) : Nat := x.Owner.size + x.Word.size
theorem dec28 : Dec Tryz.prog 28 encRole szRole := by
  intro H eh W base sp hd fuel cs x h
  obtain ⟨xs, n, _, rfl, hl, hlen, hf⟩ := DataW.trod_struct Tryz.underlying28 h
  obtain ⟨y0, y1, rfl⟩ := len2 hlen
  obtain ⟨c0, c1, rfl⟩ := len2 (hl.trans cells28)
  have h0 : DataW.trod eh Tryz.prog W base sp hd n 9 (([c0, c1].drop 0).take (Tryz.prog.cellsOf 9)) = some y0 := hf 0 _ rfl
  have h1 : DataW.trod eh Tryz.prog W base sp hd n 9 (([c0, c1].drop 1).take (Tryz.prog.cellsOf 9)) = some y1 := hf 1 _ rfl
  simp only [cells9, List.drop, List.take] at h0 h1
  obtain ⟨s0, e0, b0⟩ := dec9 _ _ _ _ _ _ _ _ _ h0
  obtain ⟨s1, e1, b1⟩ := dec9 _ _ _ _ _ _ _ _ _ h1
  simp only [List.cons.injEq, and_true] at e0 e1
  obtain rfl := e0
  obtain rfl := e1
  refine ⟨⟨s0, s1⟩, rfl, ?_⟩
  simp only [List.map, Rows.uptoBulk, Rows.uptoBulkAll, szRole] at b0 b1 ⊢
  omega
theorem cells53 : Tryz.prog.cellsOf 53 = 9 := by kernel_rfl
theorem len6 {α : Type} {l : List α} (h : l.length = 6) : ∃ a0 a1 a2 a3 a4 a5, l = [a0, a1, a2, a3, a4, a5] := by
  match l, h with
  | [a0, a1, a2, a3, a4, a5], _ => exact ⟨a0, a1, a2, a3, a4, a5, rfl⟩
theorem len9 {α : Type} {l : List α} (h : l.length = 9) : ∃ a0 a1 a2 a3 a4 a5 a6 a7 a8, l = [a0, a1, a2, a3, a4, a5, a6, a7, a8] := by
  match l, h with
  | [a0, a1, a2, a3, a4, a5, a6, a7, a8], _ => exact ⟨a0, a1, a2, a3, a4, a5, a6, a7, a8, rfl⟩
def szCred (x : Cred) : Nat := szRole x.Head + x.Who.size + szRole x.B + szRole x.C + x.Word2.size
theorem dec53 : Dec Tryz.prog 53 encCred szCred := by
  intro H eh W base sp hd fuel cs x h
  obtain ⟨xs, n, _, rfl, hl, hlen, hf⟩ := DataW.trod_struct Tryz.underlying53 h
  obtain ⟨y0, y1, y2, y3, y4, y5, rfl⟩ := len6 hlen
  obtain ⟨c0, c1, c2, c3, c4, c5, c6, c7, c8, rfl⟩ := len9 (hl.trans cells53)
  have h0 : DataW.trod eh Tryz.prog W base sp hd n 3 (([c0, c1, c2, c3, c4, c5, c6, c7, c8].drop 0).take (Tryz.prog.cellsOf 3)) = some y0 := hf 0 _ rfl
  have h1 : DataW.trod eh Tryz.prog W base sp hd n 28 (([c0, c1, c2, c3, c4, c5, c6, c7, c8].drop 1).take (Tryz.prog.cellsOf 28)) = some y1 := hf 1 _ rfl
  have h2 : DataW.trod eh Tryz.prog W base sp hd n 9 (([c0, c1, c2, c3, c4, c5, c6, c7, c8].drop 3).take (Tryz.prog.cellsOf 9)) = some y2 := hf 2 _ rfl
  have h3 : DataW.trod eh Tryz.prog W base sp hd n 28 (([c0, c1, c2, c3, c4, c5, c6, c7, c8].drop 4).take (Tryz.prog.cellsOf 28)) = some y3 := hf 3 _ rfl
  have h4 : DataW.trod eh Tryz.prog W base sp hd n 28 (([c0, c1, c2, c3, c4, c5, c6, c7, c8].drop 6).take (Tryz.prog.cellsOf 28)) = some y4 := hf 4 _ rfl
  have h5 : DataW.trod eh Tryz.prog W base sp hd n 9 (([c0, c1, c2, c3, c4, c5, c6, c7, c8].drop 8).take (Tryz.prog.cellsOf 9)) = some y5 := hf 5 _ rfl
  simp only [cells28, cells3, cells9, List.drop, List.take] at h0 h1 h2 h3 h4 h5
  obtain ⟨s0, e0, b0⟩ := dec3 _ _ _ _ _ _ _ _ _ h0
  obtain ⟨s1, e1, b1⟩ := dec28 _ _ _ _ _ _ _ _ _ h1
  obtain ⟨s2, e2, b2⟩ := dec9 _ _ _ _ _ _ _ _ _ h2
  obtain ⟨s3, e3, b3⟩ := dec28 _ _ _ _ _ _ _ _ _ h3
  obtain ⟨s4, e4, b4⟩ := dec28 _ _ _ _ _ _ _ _ _ h4
  obtain ⟨s5, e5, b5⟩ := dec9 _ _ _ _ _ _ _ _ _ h5
  simp only [encRole, List.cons.injEq, and_true] at e0 e1 e2 e3 e4 e5
  obtain rfl := e0
  obtain ⟨rfl, rfl⟩ := e1
  obtain rfl := e2
  obtain ⟨rfl, rfl⟩ := e3
  obtain ⟨rfl, rfl⟩ := e4
  obtain rfl := e5
  refine ⟨⟨s0, s1, s2, s3, s4, s5⟩, rfl, ?_⟩
  simp only [List.map, Rows.uptoBulk, Rows.uptoBulkAll, szCred] at b0 b1 b2 b3 b4 b5 ⊢
  omega
theorem cells38 : Tryz.prog.cellsOf 38 = 3 := by kernel_rfl
theorem len3 {α : Type} {l : List α} (h : l.length = 3) : ∃ a0 a1 a2, l = [a0, a1, a2] := by
  match l, h with
  | [a0, a1, a2], _ => exact ⟨a0, a1, a2, rfl⟩
def szFact (x : Fact) : Nat := szRole x.Role + x.Who.size
theorem dec38 : Dec Tryz.prog 38 encFact szFact := by
  intro H eh W base sp hd fuel cs x h
  obtain ⟨xs, n, _, rfl, hl, hlen, hf⟩ := DataW.trod_struct Tryz.underlying38 h
  obtain ⟨y0, y1, rfl⟩ := len2 hlen
  obtain ⟨c0, c1, c2, rfl⟩ := len3 (hl.trans cells38)
  have h0 : DataW.trod eh Tryz.prog W base sp hd n 28 (([c0, c1, c2].drop 0).take (Tryz.prog.cellsOf 28)) = some y0 := hf 0 _ rfl
  have h1 : DataW.trod eh Tryz.prog W base sp hd n 9 (([c0, c1, c2].drop 2).take (Tryz.prog.cellsOf 9)) = some y1 := hf 1 _ rfl
  simp only [cells28, cells9, List.drop, List.take] at h0 h1
  obtain ⟨s0, e0, b0⟩ := dec28 _ _ _ _ _ _ _ _ _ h0
  obtain ⟨s1, e1, b1⟩ := dec9 _ _ _ _ _ _ _ _ _ h1
  simp only [encRole, List.cons.injEq, and_true] at e0 e1
  obtain ⟨rfl, rfl⟩ := e0
  obtain rfl := e1
  refine ⟨⟨s0, s1⟩, rfl, ?_⟩
  simp only [List.map, Rows.uptoBulk, Rows.uptoBulkAll, szFact] at b0 b1 ⊢
  omega
theorem rd49 : Tryz.prog.readableRec 49 = true ∧ 49 < Tryz.prog.types.size := ⟨by kernel_rfl, of_decide_eq_true (by kernel_rfl)⟩
theorem rd22 : Tryz.prog.readableRec 22 = true ∧ 22 < Tryz.prog.types.size := ⟨by kernel_rfl, of_decide_eq_true (by kernel_rfl)⟩
theorem rd38 : Tryz.prog.readableRec 38 = true ∧ 38 < Tryz.prog.types.size := ⟨by kernel_rfl, of_decide_eq_true (by kernel_rfl)⟩
theorem own : ownKnob Tryz.prog.godebug = none := by kernel_rfl
theorem laid_out : laidOutB Tryz.prog = true := by kernel_rfl
theorem contract (H : Type) (enc : TypeId × Value → H) (W : World) (base : Nat) (args : Array Value) (ds gs : List (DataW H)) (before : List MemPlace)
    (hval : ∀ (j : Nat) t v, Tryz.f8.params[j]? = some t → args[j]? = some v → Value.okWide Tryz.prog W .any base t v)
    (hW : DataW.Whole enc Tryz.prog Tryz.f8.params.toList Rows.revokeStopsSpec.vars false W args.toList ds gs before) (hk : Rows.uptoSmall H (ds ++ gs) = true) :
    Calls Tryz.prog 8 args W fun e W' => ∃ v, e = .returned v ∧ Rows.revokeStopsSpec.post enc Tryz.prog Tryz.f8 false true false false W args v W' := by
  have hW' := hW
  obtain ⟨p, q, hA0, hV, rfl, hfz, hnd⟩ := hW
  have hA : DataW.TrodAll enc Tryz.prog W 0 (fun _ => true) true Tryz.f8.params.toList args.toList ds p := hA0
  have hr : ∀ t ∈ Tryz.f8.params.toList, Tryz.prog.readableRec t = true ∧ t < Tryz.prog.types.size := by
    rw [Tryz.params8]
    intro t ht
    simp only [List.mem_cons, List.not_mem_nil, or_false] at ht
    rcases ht with rfl | rfl | rfl
    · exact rd49
    · exact rd22
    · exact rd38
  rw [Tryz.params8] at hA hval
  obtain ⟨v0, vs0, d0, ds0, p0, q0, hargs, rfl, rfl, h0, r0⟩ := trodAll_cons hA
  obtain ⟨v1, vs1, d1, ds1, p1, q1, rfl, rfl, rfl, h1, r1⟩ := trodAll_cons r0
  obtain ⟨v2, vs2, d2, ds2, p2, q2, rfl, rfl, rfl, h2, r2⟩ := trodAll_cons r1
  obtain ⟨rfl, rfl, rfl⟩ := trodAll_nil r2
  obtain rfl : args = #[v0, v1, v2] := by cases args; simp_all
  obtain ⟨rfl, rfl⟩ := trodVars_none hV
  have k0 := hval 0 49 v0 rfl rfl
  have k1 := hval 1 22 v1 rfl rfl
  have k2 := hval 2 38 v2 rfl rfl
  obtain ⟨a0, s0, z0, o0⟩ := slD_of_trod (k := 2) cells196 (by decide) decd196 Tryz.underlying49 k0 h0
  obtain ⟨a1, s1, z1⟩ := slS_of_trod (k := 9) cells53 (by decide) dec53 Tryz.underlying22 k1 h1
  obtain ⟨ca2, rfl, _⟩ := okWide_struct Tryz.underlying38 k2
  obtain ⟨fu2, hf2⟩ := h2
  obtain ⟨a2, er2, z2⟩ := dec38 _ _ _ _ _ _ _ _ _ hf2
  simp only [Value.cells] at er2
  obtain rfl : ca2 = (encFact a2).toArray := by rw [← er2]
  have hB : Rows.uptoBulkAll ([d0, d1, d2] ++ []) ≤ 1048576 := of_decide_eq_true hk
  simp only [List.append_nil, Rows.uptoBulkAll] at hB
  have hm : m_law34_RevokeStops a0 a1 a2 = some true := revokeStops_main a0 a1 a2 o0 (by have := len_szS szCred a1; omega) (fun c hc => by have := le_szS (sz := szCred) hc; have : sizeC c = szCred c := (by simp only [szCred, szRole, sizeC]; omega); omega)
  have hg := w_law34_RevokeStops v0 a0 v1 a1 a2 true W s0 s1 hm
  refine Calls.mono hg fun e W' ⟨he, hx⟩ => ?_
  subst he
  exact ⟨_, rfl, post_of_ex laid_out hr rfl hW' hx (fun _ _ _ => trodAll_cons_mk (shut_bool Tryz.underlying4 _) trodAll_mk0) rfl rfl (ok_one (by kernel_rfl) rfl (okWide_bool_mk Tryz.underlying4 _))⟩
set_option maxRecDepth 100000 in
theorem lifted (os : Os) (started : os.Started) (H : Type) (enc : TypeId × Value → H) (F : Stop.Interp) :
    ReturnsInHanded {} Tryz.checked os 8 .any ((Rows.OpenSpec.upto Rows.revokeStopsSpec).pre6 enc Tryz.prog Tryz.f8 Rows.revokeStopsUptoRow.domain false) (((Rows.OpenSpec.upto Rows.revokeStopsSpec).at F).post enc Tryz.prog Tryz.f8 false true false false) := by
  refine returnsInHanded_of_cond (C := Tryz.checked) (s := Rows.OpenSpec.upto Rows.revokeStopsSpec) (k := Rows.uptoSmall) rfl own started (by kernel_rfl) Tryz.func8
    (OpenSpec.witness (enc := enc) (C := Tryz.checked) (s := Rows.OpenSpec.upto Rows.revokeStopsSpec) (k := Rows.uptoSmall) rfl false ⟨#[], #[.slice none 0 0, .slice none 0 0, .agg #[.string ⟨#[]⟩, .string ⟨#[]⟩, .string ⟨#[]⟩]], []⟩ 8 (by kernel_rfl) (by kernel_rfl) (by kernel_rfl)
      (x := ([.nil, .nil, .agg [.agg [.lit (.string []), .lit (.string [])], .lit (.string [])]], [], [])) (by kernel_rfl) rfl (by kernel_rfl)) ?_
  intro W base args ds gs before hval hW _ hk _
  exact contract H enc W base args ds gs before hval hW hk
theorem bothT {a b : Bool} (ha : a = true) (hb : b = true) : (a && b) = true := by rw [ha, hb]; rfl
set_option maxHeartbeats 40000000 in
theorem closedT : joinedFacts Tryz.checked.prog 8 Tryz.f8 (Rows.OpenSpec.upto Rows.revokeStopsSpec).bare Rows.revokeStopsUptoRow = true := by
  unfold joinedFacts
  repeat' with_reducible refine bothT ?_ ?_
  all_goals as_aux_lemma => kernel_rfl
theorem proved : Rows.RevokeStopsUptoSaid :=
  OpenClaim.holds_of_cond 8 Tryz.f8 rfl rfl rfl rfl rfl rfl rfl ⟨rfl, rfl, rfl, rfl, rfl⟩ rfl rfl rfl rfl rfl (by kernel_rfl) Tryz.func8 closedT
    (of_decide_eq_true (by kernel_rfl)) (by unfold Func.isWrapper; first | (rw [if_pos (by decide +kernel)]; kernel_rfl) | (rw [if_neg (by decide +kernel)]; exact ⟨rfl, rfl⟩))
    (fun os started H enc _ F => lifted os started H enc F)
end Go.Proofs.YtmlncblocfcmiaaGreat
