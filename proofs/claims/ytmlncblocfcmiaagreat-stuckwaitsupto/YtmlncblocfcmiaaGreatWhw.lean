/- a part of a proof of StuckWaits -/
import Derived.Test.YtmlncblocfcmiaaGreatHjw
import Derived.Test.YtmlncblocfcmiaaGreatRtVw
import Derived.Test.YtmlncblocfcmiaaGreatRows
import Derived.WalkKit
import Derived.ProofKit
import Derived.OpenShut
import Derived.JoinedCond
import Derived.Deep.Slices
import Derived.Carry
import Derived.ChangeArms
import Derived.ChangeSame
import Derived.Test.YtmlncblocfcmiaaGreatSWW3w
set_option linter.all false
namespace Go.Proofs.YtmlncblocfcmiaaGreat
open Go.RowKit
def A8 : ByteArray := ⟨#[111, 119, 110]⟩
def Ba : ByteArray := ⟨#[99, 108, 105]⟩
def sY : Role := ⟨⟨#[120]⟩, ⟨#[121]⟩⟩
def sZ : Role := ⟨⟨#[120]⟩, ⟨#[122]⟩⟩
def sc : Cred := ⟨1, sY, Ba, ⟨zS, zS⟩, ⟨zS, zS⟩, zS⟩
def sd : Cred := ⟨1, sZ, A8, ⟨zS, zS⟩, ⟨zS, zS⟩, zS⟩
def gU (r : Role) : Formula := ⟨1, 0, r, []⟩
def nD (c : Cred) (f : Formula) : aV := ⟨⟨c, List.replicate 8 0⟩, f⟩
def sO : bT := ⟨A8, [nD sd (gU sY)], []⟩
def sC (f : Formula) : bT := ⟨Ba, [nD sc f], []⟩
theorem zO : eE sc = true := by decide +kernel
theorem BY : eE sd = true := by decide +kernel
theorem FN : sc ≠ sd := fun h => absurd (congrArg (fun c => c.Who.data.toList) h) (by decide)
theorem Aq (v : Role → Bool) (r : Role) : rC v (gU r) = v r := by rw [rS]; rfl
theorem Ak {r : Role} (h : jc (gU r) = true) : sR (gU r) [] = (gU r, 0) := by
  have h3 : qt (gU r) = (gU r, 0) := by unfold qt; rw [h, El rfl, h]; rfl
  unfold sR
  rw [h3, mj]; rfl
theorem xb (c d : Cred) (f : Formula) : ol [nD c f] d = if bG c d then some f else none := by
  unfold ol
  rw [List.find?_cons, show (nD c f).Signed.Cred = c from rfl]
  cases bG c d <;> rfl
theorem qU {n : ByteArray} {c d : Cred} {f : Formula} : ob ⟨n, [nD c f], []⟩ d ↔ d = c := by
  rw [lP]; show d ∈ [c] ↔ _; simp
theorem tD {n : ByteArray} {c : Cred} {r : Role} (hr : jc (gU r) = true) (hc : eE c = true) (l : List Cred) (peer : ByteArray) (d : Cred) : gw ⟨n, [nD c (gU r)], []⟩ l peer d ↔ d = c ∧ vD l peer r = true := by
  unfold gw
  rw [qU]
  constructor
  · rintro ⟨rfl, _, h⟩
    refine ⟨rfl, ?_⟩
    unfold sV at h
    rw [oE, xb, if_pos (cL.2 rfl)] at h
    simp only [Ak hr] at h
    unfold pq at h
    rw [hr, Aq, Bool.true_and] at h
    exact h
  · rintro ⟨rfl, h⟩
    refine ⟨rfl, hc, ?_⟩
    unfold sV
    rw [oE, xb, if_pos (cL.2 rfl)]
    simp only [Ak hr]
    unfold pq
    rw [hr, Aq, Bool.true_and]
    exact h
theorem Ch {n : ByteArray} {c : Cred} (hc : eE c = true) (l : List Cred) (peer : ByteArray) (d : Cred) : gw ⟨n, [nD c jD], []⟩ l peer d ↔ d = c := by
  unfold gw
  rw [qU]
  constructor
  · exact fun h => h.1
  · rintro rfl
    refine ⟨rfl, hc, ?_⟩
    unfold sV
    rw [oE, xb, if_pos (cL.2 rfl)]
    simp only [zP]
    unfold pq
    rw [show jc jD = true by decide +kernel, rS]
    rfl
theorem yN {c : Cred} (hc : eE c = true) (hk : c.Kind = 1) {l : List Cred} (h : c ∈ l) : vD l c.Who c.Head = true := by
  rw [wt]
  exact .mem c (List.mem_filter.2 ⟨h, hc⟩) hk
theorem Bf (peer : ByteArray) (r : Role) : vD [] peer r = false := by
  rw [← Bool.not_eq_true, wt]
  intro h
  obtain ⟨c, hc, _⟩ := h.head
  cases hc
theorem wj {n : ByteArray} {c : Cred} {f : Formula} (h : bI f ≤ 10000000) : PB ⟨n, [nD c f], []⟩ where
  creds := by simp
  acks := by simp
  rel := fun x hx => by obtain rfl := List.mem_singleton.1 hx; exact h
  arel := fun x hx => by cases hx
  clo := fun x hx => by cases hx
theorem xd {c : Cred} (hc : eE c = true) : iy [c] := ⟨by simp, fun x hx => by obtain rfl := List.mem_singleton.1 hx; exact hc⟩
theorem Bi {s : List Cred} {c : Cred} (hs : iy s) (h1 : ∀ x ∈ s, x = c) (h2 : c ∈ s) (hc : eE c = true) : s = [c] :=
  hs.ext (xd hc) (fun x => by
    rw [List.mem_singleton]
    exact ⟨h1 x, fun e => by rw [e]; exact h2⟩)
theorem BM : jc (gU sY) = true := by decide +kernel
theorem ER : jc (gU sZ) = true := by decide +kernel
def sP (f : Formula) : eW := ⟨sO, sC f, ⟨0, 0, ⟨zS, zS⟩, []⟩, 0, ⟨0, 0⟩, 0, 0, 0, []⟩
theorem Eh : ji (sP (gU sZ)) = some ([sd], [sc]) ∧ jQ (sP (gU sZ)) = some ([sd], [sc]) := by
  obtain ⟨a, b, x, y, j, e1, hM, e2, hF, e3⟩ := vl (sP (gU sZ)) (wj (by decide +kernel)) (wj (by decide +kernel)) (by simp [sP, sO]) (by simp [sP, sC])
  have fo : ∀ l peer d, gw sO l peer d ↔ d = sd ∧ vD l peer sY = true := fun l peer d => tD BM BY l peer d
  have fc : ∀ l peer d, gw (sC (gU sZ)) l peer d ↔ d = sc ∧ vD l peer sZ = true := fun l peer d => tD ER zO l peer d
  have v1 : vD [sc] Ba sY = true := yN zO rfl (by simp)
  have v2 : vD [sd] A8 sZ = true := yN BY rfl (by simp)
  obtain ⟨m1, m2⟩ := hM.most [sd] [sc] (xd BY) (xd zO)
    (fun c hc => by obtain rfl := List.mem_singleton.1 hc; exact (fo _ _ _).2 ⟨rfl, v1⟩)
    (fun c hc => by obtain rfl := List.mem_singleton.1 hc; exact (fc _ _ _).2 ⟨rfl, v2⟩)
  obtain rfl : a = [sd] := Bi hM.sa (fun c hc => ((fo _ _ _).1 (hM.fa c hc)).1) (m1 sd (by simp)) BY
  obtain rfl : b = [sc] := Bi hM.sb (fun c hc => ((fc _ _ _).1 (hM.fb c hc)).1) (m2 sc (by simp)) zO
  obtain ⟨n1, n2⟩ := hF.least [] [] (fun c hc => by have := ((fo _ _ _).1 hc).2; rw [Bf] at this; cases this) (fun c hc => by have := ((fc _ _ _).1 hc).2; rw [Bf] at this; cases this)
  obtain rfl : x = [] := List.eq_nil_iff_forall_not_mem.2 (fun c hc => by have := n1 c hc; cases this)
  obtain rfl : y = [] := List.eq_nil_iff_forall_not_mem.2 (fun c hc => by have := n2 c hc; cases this)
  exact ⟨e1, e3⟩
theorem ES : kv (sP jD) = some true := by
  obtain ⟨a, b, x, y, j, e1, hM, e2, hF, e3⟩ := vl (sP jD) (wj (by decide +kernel)) (wj (by decide +kernel)) (by simp [sP, sO]) (by simp [sP, sC])
  have fo : ∀ l peer d, gw sO l peer d ↔ d = sd ∧ vD l peer sY = true := fun l peer d => tD BM BY l peer d
  have fc : ∀ l peer d, gw (sC jD) l peer d ↔ d = sc := fun l peer d => Ch zO l peer d
  have hy : sc ∈ y := (hF.fy sc).2 ((fc _ _ _).2 rfl)
  have hx : sd ∈ x := (hF.fx sd).2 ((fo _ _ _).2 ⟨rfl, yN zO rfl hy⟩)
  have h1 : a.filter (fun c => !gE bG x c) = [] := by
    rw [List.filter_eq_nil_iff]
    intro c hc
    rw [((fo _ _ _).1 (hM.fa c hc)).1, (iB cL x sd).2 hx]; simp
  have h2 : b.filter (fun c => !gE bG y c) = [] := by
    rw [List.filter_eq_nil_iff]
    intro c hc
    rw [(fc _ _ _).1 (hM.fb c hc), (iB cL y sc).2 hy]; simp
  unfold kv
  rw [e3, Option.bind_some, h1, h2]
  rfl
theorem DS : lJ = some true := by
  have e0 : uj 1 (0 : Int) 8 = some (List.replicate 8 0) := by unfold uj; rw [if_pos (by decide)]; rfl
  obtain ⟨c1, c2⟩ := Eh
  have f1 : kv (sP (gU sZ)) = some false := by
    unfold kv
    rw [c2]; rfl
  have l1 : fJ (sP (gU sZ)) 1 sc = some (sP jD, true) := by
    rw [Br (sP (gU sZ)) sc (by simp [sP, sC]) (by exact qU.2 rfl)]
    have : fG sc (sP (gU sZ)).Client.Creds = [nD sc jD] := by
      show fG sc [nD sc (gU sZ)] = _
      rw [fG, show (nD sc (gU sZ)).Signed.Cred = sc from rfl, cL.2 rfl]; rfl
    rw [this]; rfl
  have l0 : fJ (sP (gU sZ)) 0 sc = some (sP (gU sZ), false) := CG _ _ (fun h => FN (qU.1 h))
  have f2 := ES
  have hp : sP (gU sZ) = ⟨⟨A8, [nD sd (gU sY)], []⟩, ⟨Ba, [nD sc (gU sZ)], []⟩, ⟨0, 0, ⟨zS, zS⟩, []⟩, 0, ⟨0, 0⟩, 0, 0, 0, []⟩ := rfl
  have k1 : gx sd sY = some [nD sd (gU sY)] := by unfold gx; rw [e0]; rfl
  have k2 : gx sc sZ = some [nD sc (gU sZ)] := by unfold gx; rw [e0]; rfl
  unfold lJ
  have k1' : gx ((⟨1, (⟨(⟨#[120]⟩ : ByteArray), (⟨#[122]⟩ : ByteArray)⟩ : Role), (⟨#[111, 119, 110]⟩ : ByteArray), (⟨zS, zS⟩ : Role), (⟨zS, zS⟩ : Role), zS⟩ : Cred)) ((⟨(⟨#[120]⟩ : ByteArray), (⟨#[121]⟩ : ByteArray)⟩ : Role)) = _ := k1
  have k2' : gx ((⟨1, (⟨(⟨#[120]⟩ : ByteArray), (⟨#[121]⟩ : ByteArray)⟩ : Role), (⟨#[99, 108, 105]⟩ : ByteArray), (⟨zS, zS⟩ : Role), (⟨zS, zS⟩ : Role), zS⟩ : Cred)) ((⟨(⟨#[120]⟩ : ByteArray), (⟨#[122]⟩ : ByteArray)⟩ : Role)) = _ := k2
  rw [k1', Option.bind_some, k2', Option.bind_some, Option.bind_some]
  simp only
  rw [show ((⟨⟨(⟨#[111, 119, 110]⟩ : ByteArray), [nD sd (gU sY)], []⟩, ⟨(⟨#[99, 108, 105]⟩ : ByteArray), [nD sc (gU sZ)], []⟩, ⟨0, 0, (⟨zS, zS⟩ : Role), []⟩, 0, (⟨0, 0⟩ : iU), 0, 0, 0, []⟩ : eW)) = sP (gU sZ) from rfl]
  rw [c2, Option.bind_some, c1, Option.bind_some]
  rw [show ((⟨1, (⟨(⟨#[120]⟩ : ByteArray), (⟨#[121]⟩ : ByteArray)⟩ : Role), (⟨#[99, 108, 105]⟩ : ByteArray), (⟨zS, zS⟩ : Role), (⟨zS, zS⟩ : Role), zS⟩ : Cred)) = sc from rfl, l1, Option.bind_some, l0, Option.bind_some, f1]
  simp only [List.length_cons, List.length_nil, Option.bind_some]
  rw [f2]
  rfl
end Go.Proofs.YtmlncblocfcmiaaGreat
namespace Go.Proofs.YtmlncblocfcmiaaGreat.Lf
open Go.ChangeShapes Go.WideShapes Go.ChangeAt Go.RowKit
open Go.Proofs.YtmlncblocfcmiaaGreat (Rows.uptoBulk Rows.uptoBulkAll Rows.uptoSmall)
theorem Er {H : Type} (d : DataW H) : 1 ≤ Rows.uptoBulk d := by
  cases d with
  | lit l => cases l <;> simp [Rows.uptoBulk]
  | nil => simp [Rows.uptoBulk]
  | ptr d => simp [Rows.uptoBulk]
  | slice elems spare => simp [Rows.uptoBulk]
  | agg parts => simp [Rows.uptoBulk]
  | iface t d => simp [Rows.uptoBulk]
  | map entries => simp [Rows.uptoBulk]
  | held h => simp [Rows.uptoBulk]
def vR {α : Type} (P : Program) (t : TypeId) (enc : α → List Value) (sz : α → Nat) : Prop :=
  ∀ (H : Type) (eh : TypeId × Value → H) (W : World) (base : Nat) (sp : Nat → Bool) (hd : Bool) (fuel : Nat) (cs : List Value) (x : DataW H × List MemPlace),
    DataW.trod eh P W base sp hd fuel t cs = some x → ∃ a : α, cs = enc a ∧ sz a ≤ Rows.uptoBulk x.1
theorem AZ {P : Program} {t : TypeId} (ht : P.underlying t = some .string) : vR P t (fun s : ByteArray => [.string s]) (fun s => s.size) := by
  intro H eh W base sp hd fuel cs x h
  obtain ⟨s, rfl, rfl, _⟩ := DataW.trod_string ht h
  refine ⟨s, rfl, ?_⟩
  have e : s.data.toList.length = s.size := by rw [Array.length_toList]; rfl
  simp [Rows.uptoBulk, e]
theorem DF {P : Program} {t : TypeId} {k : IntKind} (ht : P.underlying t = some (.int k)) : vR P t (fun n : Int => [.int k n]) (fun _ => 0) := by
  intro H eh W base sp hd fuel cs x h
  obtain ⟨n, rfl, rfl, _⟩ := DataW.trod_int ht h
  exact ⟨n, rfl, Nat.zero_le _⟩
theorem DB {α : Type} {n : Nat} {p : Nat → α → Prop} (h : ∀ i, i < n → ∃ x, p i x) : ∃ l : List α, l.length = n ∧ ∀ i x, l[i]? = some x → p i x := by
  induction n with
  | zero => exact ⟨[], rfl, by simp⟩
  | succ n ih =>
    obtain ⟨l, h1, h2⟩ := ih fun i hi => h i (by omega)
    obtain ⟨x, hx⟩ := h n (by omega)
    refine ⟨l ++ [x], by simp [h1], fun i y hy => ?_⟩
    by_cases hi : i < l.length
    · rw [List.getElem?_append_left hi] at hy
      exact h2 i y hy
    · rw [List.getElem?_append_right (by omega)] at hy
      have : i - l.length = 0 := by
        cases hd : i - l.length with
        | zero => rfl
        | succ m => rw [hd] at hy; simp at hy
      rw [this] at hy
      have e : i = n := by omega
      simp at hy
      subst hy; rw [e]; exact hx
theorem yY {W : World} {a : Addr} {v : Value} (h : W.cell? a = some v) : ∃ cs T fr, W.heap[a.block]? = some (.cells cs T fr) ∧ a.spot = none ∧ cs[a.off]? = some v := by
  unfold World.cell? at h
  split at h
  · rename_i c T fr hb
    by_cases hs : a.spot.isSome
    · simp [hs] at h
    · simp only [hs] at h
      exact ⟨c, T, fr, hb, by simpa using hs, by simpa using h⟩
  · cases h
theorem Ex.below {dd : Bool} {W W' : World} (h : Ex dd W W') : Below W.heap.size W W' := ⟨h.os, h.tape, h.output, h.size, h.old⟩
theorem sS {H : Type} {eh : TypeId × Value → H} {P : Program} (hl : laidOutB P = true) {W W' : World} {sp' : Nat → Bool} :
    ∀ {ts : List TypeId} {vs : List Value} {ds : List (DataW H)} {ps : List MemPlace}, (∀ t ∈ ts, P.readableRec t = true ∧ t < P.types.size) →
      DataW.TrodAll eh P W 0 (fun _ => true) true ts vs ds ps → (∀ p ∈ ps, W.sameAt W' p) → (∀ p ∈ ps, sp' p.block = true) → DataW.TrodAll eh P W' 0 sp' true ts vs ds ps
  | [], _, _, _, _, h, _, _ => by
    obtain ⟨rfl, rfl, rfl⟩ := trodAll_nil h
    exact trodAll_mk0
  | t :: ts, _, _, _, hr, h, h1, h2 => by
    obtain ⟨v, vs, d, ds, p, q, rfl, rfl, rfl, h3, h4⟩ := trodAll_cons h
    exact trodAll_cons_mk (WideElems.Trod_stays hl (hr t (by simp)).1 (hr t (by simp)).2 h3 (fun x hx => h1 x (by simp [hx])) (fun x hx => h2 x (by simp [hx])))
      (sS hl (fun u hu => hr u (by simp [hu])) h4 (fun x hx => h1 x (by simp [hx])) (fun x hx => h2 x (by simp [hx])))
theorem Ay {H : Type} {enc : TypeId × Value → H} {P : Program} (hl : laidOutB P = true) {f : Func} {s : ChangeSpec} {apart fresh handsOn again : Bool} {W W' : World} {args : Array Value} {v : Value} {ds gs : List (DataW H)} {before : List MemPlace}
    (hr : ∀ t ∈ f.params.toList, P.readableRec t = true ∧ t < P.types.size) (hsv : s.vars = [])
    (hW : DataW.Whole enc P f.params.toList s.vars apart W args.toList ds gs before)
    {dd : Bool} (hx : Ex dd W W')
    (hres : ∀ (b : Nat) (sp : Nat → Bool) (hd : Bool), DataW.TrodAll enc P W' b sp hd f.resultTypes.toList (v.resultList f.resultTypes.size) (s.fn H (ds ++ gs)).results [])
    (hargs : (s.fn H (ds ++ gs)).args = ds) (hvars : (s.fn H (ds ++ gs)).vars = [])
    (hok : ∀ (j : Nat) (t : TypeId) (r : Value), f.resultTypes[j]? = some t → (v.resultList f.resultTypes.size)[j]? = some r → Value.okWide P W' .any 0 t r) :
    s.post enc P f apart fresh handsOn again W args v W' := by
  have hlt := hW.lt
  have hold : ∀ p ∈ before, (fun b => decide (b < W.heap.size)) p.block = true := fun p hp => by simpa using hlt p hp
  have hb := Ex.below hx
  have hW' := hW
  obtain ⟨p, q, hA, hV, hpq, hz, hn⟩ := hW
  rw [hsv] at hV
  obtain ⟨rfl, rfl⟩ := trodVars_none hV
  rw [List.append_nil] at hpq
  subst hpq
  have hst : ∀ sp : Nat → Bool, (∀ p ∈ before, sp p.block = true) → DataW.TrodAll enc P W' 0 sp true f.params.toList args.toList (s.fn H (ds ++ [])).args before := fun sp hsp => by
    rw [hargs]
    exact sS hl hr hA (fun x hx => hb.same (hlt x hx)) hsp
  have hvs : ∀ sp : Nat → Bool, DataW.TrodVars enc P W' sp s.vars (s.fn H (ds ++ [])).vars [] := fun sp => by
    rw [hvars, hsv]; rfl
  refine ⟨ds, [], before, [], before, [], hW', hres _ _ _, hst _ hold, hvs _, World.keptBut_mono (fun p hp => ⟨hp, ?_⟩) (hb.frame (· ∈ before)), fun _ => ?_⟩
  · exact Or.inr (Or.inl hp)
  · refine ⟨hok, _, _, ([] ++ before) ++ [], ⟨[] ++ before, [], trodAll_append (hst _ (fun _ _ => rfl)) (hres _ _ _), hvs _, rfl, ?_, ?_⟩, ?_⟩
    · intro b off hp
      have hp' : MemPlace.cell b off ∈ before := by simpa using hp
      rw [World.frozen?_of_block (w := W) (hb.block b (hlt _ hp'))]
      exact hz b off hp'
    · intro ha
      simpa using hn ha
    · intro p hp _
      simpa using hp
end Go.Proofs.YtmlncblocfcmiaaGreat.Lf
namespace Go.Proofs.YtmlncblocfcmiaaGreat.Lf
open Go.ChangeShapes Go.WideShapes Go.ChangeAt Go.RowKit
open Go.Proofs.YtmlncblocfcmiaaGreat (Rows.uptoBulk Rows.uptoBulkAll Rows.uptoSmall)
def uc {α : Type} (P : Program) (t : TypeId) (R : iX α) (sz : α → Nat) : Prop :=
  ∀ (H : Type) (eh : TypeId × Value → H) (W : World) (base : Nat) (sp : Nat → Bool) (hd : Bool) (fuel : Nat) (cs : List Value) (x : DataW H × List MemPlace),
    DataW.trod eh P W base sp hd fuel t cs = some x → ∃ a : α, R (hp W) cs a ∧ sz a ≤ Rows.uptoBulk x.1
theorem vR.rel {α : Type} {P : Program} {t : TypeId} {enc : α → List Value} {sz : α → Nat} (h : vR P t enc sz) : uc P t (Pl enc) sz := fun H eh W base sp hd fuel cs x hx => h H eh W base sp hd fuel cs x hx
end Go.Proofs.YtmlncblocfcmiaaGreat.Lf
namespace Go.Proofs.YtmlncblocfcmiaaGreat.Lf
open Go.ChangeShapes Go.WideShapes Go.ChangeAt Go.RowKit
open Go.Proofs.YtmlncblocfcmiaaGreat (Rows.uptoBulk Rows.uptoBulkAll Rows.uptoSmall)
theorem uS {H : Type} : ∀ l : List (DataW H), Rows.uptoBulkAll l = (l.map Rows.uptoBulk).sum
  | [] => by simp [Rows.uptoBulkAll]
  | d :: l => by simp [Rows.uptoBulkAll, uS l]
theorem BP {α : Type} (g : α → Nat) : ∀ (n : Nat) (f : Nat → Nat) {l : List α}, l.length = n → (∀ i x, l[i]? = some x → g x ≤ f i) → (l.map g).sum ≤ ((List.range n).map f).sum
  | 0, f, l, hl, h => by
    obtain rfl := List.length_eq_zero_iff.1 hl
    simp
  | n + 1, f, [], hl, h => by cases hl
  | n + 1, f, a :: l, hl, h => by
    rw [List.range_succ_eq_map, List.map_cons, List.map_cons, List.sum_cons, List.sum_cons, List.map_map]
    have h1 := h 0 a rfl
    have h2 := BP g n (f ∘ Nat.succ) (l := l) (by simpa using hl) (fun i x hx => h (i + 1) x (by simpa using hx))
    omega
def nq {α : Type} (sz : α → Nat) (l : List α) : Nat := (l.map fun a => max 1 (sz a)).sum
theorem wZ {α : Type} (sz : α → Nat) : ∀ l : List α, l.length ≤ nq sz l
  | [] => Nat.le_refl _
  | a :: l => by have := wZ sz l; simp only [nq, List.map_cons, List.sum_cons, List.length_cons] at this ⊢; omega
theorem wz {α : Type} {sz : α → Nat} : ∀ {l : List α} {a : α}, a ∈ l → sz a ≤ nq sz l
  | b :: l, a, h => by
    simp only [nq, List.map_cons, List.sum_cons]
    rcases List.mem_cons.1 h with rfl | h
    · omega
    · have := wz (sz := sz) h; simp only [nq] at this; omega
theorem uT {α : Type} {P : Program} {t e : TypeId} {k : Nat} {R : iX α} {sz : α → Nat} (hk : P.cellsOf e = k) (hk0 : 0 < k) (ht : P.underlying t = some (.slice e)) {H : Type} {eh : TypeId × Value → H} {W : World} {base : Nat} {sp : Nat → Bool} {held : Bool} {fuel : Nat} {cs : List Value} {x : DataW H × List MemPlace}
    (hd : ∀ (fuel : Nat) (cs : List Value) (y : DataW H × List MemPlace), DataW.trod eh P W base sp held fuel e cs = some y → SizeOf.sizeOf y.1 < SizeOf.sizeOf x.1 → ∃ a : α, R (hp W) cs a ∧ sz a ≤ Rows.uptoBulk y.1) (hf : DataW.trod eh P W base sp held fuel t cs = some x) :
    ∃ v l, cs = [v] ∧ Sl R k (hp W) v l ∧ nq sz l ≤ Rows.uptoBulk x.1 := by
  rcases Go.Deep.open_slice ht hf with ⟨rfl, rfl⟩ | ⟨a, ln, cp, m, n, D, Q, rfl, hb, hl, hm, hmm, rfl, hel⟩
  · exact ⟨_, [], rfl, ⟨none, 0, rfl, Nat.le_refl _, Nat.zero_le _, fun h => absurd h (Nat.lt_irrefl _)⟩, Nat.zero_le _⟩
  · have hlm : ln ≤ m := by rw [hmm]; split <;> omega
    have hB : ((List.range ln).map fun i => Rows.uptoBulk (D i)).sum ≤ Rows.uptoBulk (DataW.slice ((List.range ln).map D) ((List.range (m - ln)).map fun j => D (ln + j))) := by
      simp only [Rows.uptoBulk]
      rw [uS, List.map_map]
      have e : ((List.range ln).map fun i => Rows.uptoBulk (D i)) = (List.range ln).map (Rows.uptoBulk ∘ D) := rfl
      rw [e]
      omega
    have hS : ∀ i, i < ln → SizeOf.sizeOf (D i) < SizeOf.sizeOf (DataW.slice ((List.range ln).map D) ((List.range (m - ln)).map fun j => D (ln + j))) := fun i hi => by
      have := List.sizeOf_lt_of_mem (List.mem_map.2 ⟨i, List.mem_range.2 hi, rfl⟩ : D i ∈ (List.range ln).map D)
      rw [DataW.slice.sizeOf_spec]; omega
    simp only at hd ⊢
    generalize Rows.uptoBulk (DataW.slice ((List.range ln).map D) ((List.range (m - ln)).map fun j => D (ln + j))) = B at hB
    obtain ⟨l, hl1, hl2⟩ := DB (α := α) (n := ln) (p := fun i x => ∃ cs', W.cells? base (a.add (i * k)) k = some cs' ∧ R (hp W) cs' x ∧ sz x ≤ Rows.uptoBulk (D i)) fun i hi => by
      obtain ⟨cs', h1, h2⟩ := hel i (by omega)
      obtain ⟨x, hR, h3⟩ := hd _ _ _ h2 (hS i hi)
      rw [hk] at h1
      exact ⟨x, cs', h1, hR, h3⟩
    subst hl1
    refine ⟨_, l, rfl, ⟨some a, cp, rfl, hl, hm, fun h0 => ?_⟩, ?_⟩
    · have hget : ∀ i x, l[i]? = some x → ∃ cs', R (hp W) cs' x ∧ cs'.length = k ∧ ∀ j, j < k → W.cell? ((a.add (i * k)).add j) = cs'[j]? := fun i x hx =>
        let ⟨cs', h1, h2, _⟩ := hl2 i x hx
        let ⟨_, h3, h4⟩ := World.cells?_some h1
        ⟨cs', h2, h3, h4⟩
      obtain ⟨cs0, _, h4, h5⟩ := hget 0 l[0] (by simp [h0])
      have h6 := h5 0 hk0
      rw [Nat.zero_mul, List.getElem?_eq_getElem (by omega)] at h6
      have e0 : (a.add 0).add 0 = a := rfl
      rw [e0] at h6
      obtain ⟨cs, T, fr, h7, h8, _⟩ := yY h6
      obtain ⟨ab, ao, asp⟩ := a
      simp only at h7 h8
      subst h8
      refine ⟨ab, ao, cs, T, fr, rfl, h7, fun i x hx => ?_⟩
      obtain ⟨cs', gR, g1, g2⟩ := hget i x hx
      refine ⟨cs', g1, gR, fun j y hy => ?_⟩
      have hj : j < k := by
        rw [← g1]
        exact (List.getElem?_eq_some_iff.1 hy).1
      have h9 := g2 j hj
      rw [Go.Deep.add_add, hy] at h9
      obtain ⟨cs'', T', fr', h10, h11, h12⟩ := yY h9
      have hbk : (Addr.add ⟨ab, ao, none⟩ (i * k + j)).block = ab ∧ (Addr.add ⟨ab, ao, none⟩ (i * k + j)).off = ao + (i * k + j) := by
        unfold Addr.add
        split
        · rename_i hz
          rw [hz]; exact ⟨rfl, rfl⟩
        · exact ⟨rfl, rfl⟩
      rw [hbk.1, h7] at h10
      cases h10
      rw [hbk.2, ← Nat.add_assoc] at h12
      exact h12
    · refine Nat.le_trans (BP _ _ _ rfl fun i x hx => ?_) hB
      exact Nat.max_le.2 ⟨Er _, (hl2 i x hx).elim fun _ h => h.2.2⟩
theorem kW {α : Type} {P : Program} {t e : TypeId} {k : Nat} {R : iX α} {sz : α → Nat} (hk : P.cellsOf e = k) (hk0 : 0 < k) (hd : uc P e R sz) (ht : P.underlying t = some (.slice e)) {H : Type} {eh : TypeId × Value → H} {W : World} {base : Nat} {sp : Nat → Bool} {held : Bool} {fuel : Nat} {cs : List Value} {x : DataW H × List MemPlace}
    (hf : DataW.trod eh P W base sp held fuel t cs = some x) :
    ∃ v l, cs = [v] ∧ Sl R k (hp W) v l ∧ nq sz l ≤ Rows.uptoBulk x.1 := uT hk hk0 ht (fun _ _ _ h _ => hd _ _ _ _ _ _ _ _ _ h) hf
end Go.Proofs.YtmlncblocfcmiaaGreat.Lf
namespace Go.Proofs.YtmlncblocfcmiaaGreat.Lf
open Go.ChangeShapes Go.WideShapes Go.ChangeAt Go.RowKit
open Go.Proofs.YtmlncblocfcmiaaGreat (Rows.uptoBulk Rows.uptoBulkAll Rows.uptoSmall)
def zM {α : Type} (R : iX α) (Q : α → Prop) : iX α := fun μ ys x => R μ ys x ∧ Q x
theorem Sl.all {α : Type} {R : iX α} {Q : α → Prop} {k : Nat} {μ : aY} {v : Value} {l : List α} (h : Sl (zM R Q) k μ v l) : Sl R k μ v l ∧ ∀ x ∈ l, Q x := by
  obtain ⟨A, c, rfl, h1, h2, h3⟩ := h
  cases l with
  | nil => exact ⟨⟨A, c, rfl, h1, h2, fun h => absurd h (by simp)⟩, by simp⟩
  | cons a l =>
    obtain ⟨b, o, cs, T, fr, e, h4, h5⟩ := h3 (by simp)
    refine ⟨⟨A, c, rfl, h1, h2, fun _ => ⟨b, o, cs, T, fr, e, h4, fun i x hx => ?_⟩⟩, fun x hx => ?_⟩
    · obtain ⟨ys, h6, h7, h8⟩ := h5 i x hx
      exact ⟨ys, h6, h7.1, h8⟩
    · obtain ⟨i, hi⟩ := List.mem_iff_getElem?.1 hx
      obtain ⟨ys, h6, h7, h8⟩ := h5 i x hi
      exact h7.2
theorem Dt {P : Program} {t : TypeId} (ht : P.underlying t = some (.int .u8)) : uc P t (zM (Pl (cT .u8)) (fun x => 0 ≤ x ∧ x < 256)) (fun _ => 0) := by
  intro H eh W base sp hd fuel cs x h
  obtain ⟨n, rfl, rfl, hw⟩ := DataW.trod_int ht h
  refine ⟨n, ⟨rfl, ?_⟩, Nat.zero_le _⟩
  simp [Lit.wf, IntKind.min, IntKind.max, IntKind.bits, IntKind.signed] at hw
  omega
end Go.Proofs.YtmlncblocfcmiaaGreat.Lf
namespace Go.Proofs.YtmlncblocfcmiaaGreat
set_option maxRecDepth 10000
open Go.ChangeShapes Go.WideShapes Go.ChangeAt Go.RowKit
open Go.Proofs.YtmlncblocfcmiaaGreat Go.Proofs.YtmlncblocfcmiaaGreat.Lf
theorem Co : Tryz.prog.cellsOf 116 = 18 := by kernel_rfl
theorem EQ {α : Type} {l : List α} (h : l.length = 9) : ∃ a0 a1 a2 a3 a4 a5 a6 a7 a8, l = [a0, a1, a2, a3, a4, a5, a6, a7, a8] := by
  match l, h with
  | [a0, a1, a2, a3, a4, a5, a6, a7, a8], _ => exact ⟨a0, a1, a2, a3, a4, a5, a6, a7, a8, rfl⟩
theorem Fj {α : Type} {l : List α} (h : l.length = 18) : ∃ a0 a1 a2 a3 a4 a5 a6 a7 a8 a9 a10 a11 a12 a13 a14 a15 a16 a17, l = [a0, a1, a2, a3, a4, a5, a6, a7, a8, a9, a10, a11, a12, a13, a14, a15, a16, a17] := by
  match l, h with
  | [a0, a1, a2, a3, a4, a5, a6, a7, a8, a9, a10, a11, a12, a13, a14, a15, a16, a17], _ => exact ⟨a0, a1, a2, a3, a4, a5, a6, a7, a8, a9, a10, a11, a12, a13, a14, a15, a16, a17, rfl⟩
theorem Cw : Tryz.prog.cellsOf 110 = 3 := by kernel_rfl
theorem Ce {α : Type} {l : List α} (h : l.length = 3) : ∃ a0 a1 a2, l = [a0, a1, a2] := by
  match l, h with
  | [a0, a1, a2], _ => exact ⟨a0, a1, a2, rfl⟩
theorem tJ : Tryz.prog.cellsOf 9 = 1 := by kernel_rfl
theorem vr : vR Tryz.prog 9 (fun s : ByteArray => [.string s]) (fun s => s.size) := AZ Tryz.underlying9
theorem yt : Tryz.prog.cellsOf 107 = 1 := by kernel_rfl
theorem vt : Tryz.prog.cellsOf 138 = 15 := by kernel_rfl
theorem tz {α : Type} {l : List α} (h : l.length = 2) : ∃ a0 a1, l = [a0, a1] := by
  match l, h with
  | [a0, a1], _ => exact ⟨a0, a1, rfl⟩
theorem Fb {α : Type} {l : List α} (h : l.length = 15) : ∃ a0 a1 a2 a3 a4 a5 a6 a7 a8 a9 a10 a11 a12 a13 a14, l = [a0, a1, a2, a3, a4, a5, a6, a7, a8, a9, a10, a11, a12, a13, a14] := by
  match l, h with
  | [a0, a1, a2, a3, a4, a5, a6, a7, a8, a9, a10, a11, a12, a13, a14], _ => exact ⟨a0, a1, a2, a3, a4, a5, a6, a7, a8, a9, a10, a11, a12, a13, a14, rfl⟩
theorem DT : Tryz.prog.cellsOf 56 = 10 := by kernel_rfl
theorem wQ : Tryz.prog.cellsOf 53 = 9 := by kernel_rfl
theorem sH : vR Tryz.prog 3 (fun n : Int => [.int .i64 n]) (fun _ => 0) := DF Tryz.underlying3
theorem vE : Tryz.prog.cellsOf 3 = 1 := by kernel_rfl
theorem uu : Tryz.prog.cellsOf 28 = 2 := by kernel_rfl
def pG (x : Role) : Nat := x.Owner.size + x.Word.size
theorem wC : vR Tryz.prog 28 aO pG := by
  intro H eh W base sp hd fuel cs x h
  obtain ⟨xs, n, _, rfl, hl, hlen, hf⟩ := DataW.trod_struct Tryz.underlying28 h
  obtain ⟨y0, y1, rfl⟩ := tz hlen
  obtain ⟨c0, c1, rfl⟩ := tz (hl.trans uu)
  have h0 : DataW.trod eh Tryz.prog W base sp hd n 9 (([c0, c1].drop 0).take (Tryz.prog.cellsOf 9)) = some y0 := hf 0 _ rfl
  have h1 : DataW.trod eh Tryz.prog W base sp hd n 9 (([c0, c1].drop 1).take (Tryz.prog.cellsOf 9)) = some y1 := hf 1 _ rfl
  simp only [tJ, List.drop, List.take] at h0 h1
  obtain ⟨s0, e0, b0⟩ := vr _ _ _ _ _ _ _ _ _ h0
  obtain ⟨s1, e1, b1⟩ := vr _ _ _ _ _ _ _ _ _ h1
  simp only [List.cons.injEq, and_true] at e0 e1
  obtain rfl := e0
  obtain rfl := e1
  refine ⟨⟨s0, s1⟩, rfl, ?_⟩
  simp only [List.map, Rows.uptoBulk, Rows.uptoBulkAll, pG] at b0 b1 ⊢
  omega
theorem FC {α : Type} {l : List α} (h : l.length = 6) : ∃ a0 a1 a2 a3 a4 a5, l = [a0, a1, a2, a3, a4, a5] := by
  match l, h with
  | [a0, a1, a2, a3, a4, a5], _ => exact ⟨a0, a1, a2, a3, a4, a5, rfl⟩
def mR (x : Cred) : Nat := pG x.Head + x.Who.size + pG x.B + pG x.C + x.Word2.size
theorem Dl : vR Tryz.prog 53 aJ mR := by
  intro H eh W base sp hd fuel cs x h
  obtain ⟨xs, n, _, rfl, hl, hlen, hf⟩ := DataW.trod_struct Tryz.underlying53 h
  obtain ⟨y0, y1, y2, y3, y4, y5, rfl⟩ := FC hlen
  obtain ⟨c0, c1, c2, c3, c4, c5, c6, c7, c8, rfl⟩ := EQ (hl.trans wQ)
  have h0 : DataW.trod eh Tryz.prog W base sp hd n 3 (([c0, c1, c2, c3, c4, c5, c6, c7, c8].drop 0).take (Tryz.prog.cellsOf 3)) = some y0 := hf 0 _ rfl
  have h1 : DataW.trod eh Tryz.prog W base sp hd n 28 (([c0, c1, c2, c3, c4, c5, c6, c7, c8].drop 1).take (Tryz.prog.cellsOf 28)) = some y1 := hf 1 _ rfl
  have h2 : DataW.trod eh Tryz.prog W base sp hd n 9 (([c0, c1, c2, c3, c4, c5, c6, c7, c8].drop 3).take (Tryz.prog.cellsOf 9)) = some y2 := hf 2 _ rfl
  have h3 : DataW.trod eh Tryz.prog W base sp hd n 28 (([c0, c1, c2, c3, c4, c5, c6, c7, c8].drop 4).take (Tryz.prog.cellsOf 28)) = some y3 := hf 3 _ rfl
  have h4 : DataW.trod eh Tryz.prog W base sp hd n 28 (([c0, c1, c2, c3, c4, c5, c6, c7, c8].drop 6).take (Tryz.prog.cellsOf 28)) = some y4 := hf 4 _ rfl
  have h5 : DataW.trod eh Tryz.prog W base sp hd n 9 (([c0, c1, c2, c3, c4, c5, c6, c7, c8].drop 8).take (Tryz.prog.cellsOf 9)) = some y5 := hf 5 _ rfl
  simp only [uu, vE, tJ, List.drop, List.take] at h0 h1 h2 h3 h4 h5
  obtain ⟨s0, e0, b0⟩ := sH _ _ _ _ _ _ _ _ _ h0
  obtain ⟨s1, e1, b1⟩ := wC _ _ _ _ _ _ _ _ _ h1
  obtain ⟨s2, e2, b2⟩ := vr _ _ _ _ _ _ _ _ _ h2
  obtain ⟨s3, e3, b3⟩ := wC _ _ _ _ _ _ _ _ _ h3
  obtain ⟨s4, e4, b4⟩ := wC _ _ _ _ _ _ _ _ _ h4
  obtain ⟨s5, e5, b5⟩ := vr _ _ _ _ _ _ _ _ _ h5
  simp only [aO, List.cons.injEq, and_true] at e0 e1 e2 e3 e4 e5
  obtain rfl := e0
  obtain ⟨rfl, rfl⟩ := e1
  obtain rfl := e2
  obtain ⟨rfl, rfl⟩ := e3
  obtain ⟨rfl, rfl⟩ := e4
  obtain rfl := e5
  refine ⟨⟨s0, s1, s2, s3, s4, s5⟩, rfl, ?_⟩
  simp only [List.map, Rows.uptoBulk, Rows.uptoBulkAll, mR] at b0 b1 b2 b3 b4 b5 ⊢
  omega
theorem zZ : Tryz.prog.cellsOf 54 = 1 := by kernel_rfl
theorem BQ : Tryz.prog.cellsOf 5 = 1 := by kernel_rfl
theorem Dp : uc Tryz.prog 5 (zM (Pl (cT .u8)) (fun x => 0 ≤ x ∧ x < 256)) (fun _ => 0) := Dt Tryz.underlying5
theorem qy : Tryz.prog.cellsOf 113 = 5 := by kernel_rfl
theorem FG {α : Type} {l : List α} (h : l.length = 4) : ∃ a0 a1 a2 a3, l = [a0, a1, a2, a3] := by
  match l, h with
  | [a0, a1, a2, a3], _ => exact ⟨a0, a1, a2, a3, rfl⟩
theorem FE {α : Type} {l : List α} (h : l.length = 5) : ∃ a0 a1 a2 a3 a4, l = [a0, a1, a2, a3, a4] := by
  match l, h with
  | [a0, a1, a2, a3, a4], _ => exact ⟨a0, a1, a2, a3, a4, rfl⟩
theorem Cp : Tryz.prog.cellsOf 111 = 1 := by kernel_rfl
theorem FH {H : Type} {x : DataW H × List MemPlace} {ys : List (DataW H × List MemPlace)} {p : List MemPlace} (hx : x = (.agg (ys.map (·.1)), p)) (i : Nat) {y : DataW H × List MemPlace} (h : ys[i]? = some y) : SizeOf.sizeOf y.1 < SizeOf.sizeOf x.1 := by
  subst hx
  have := List.sizeOf_lt_of_mem (List.mem_map.2 ⟨y, List.mem_of_getElem? h, rfl⟩ : y.1 ∈ ys.map (·.1))
  simp only [DataW.agg.sizeOf_spec]; omega
theorem ww : ∀ l : List Formula, nodesL l ≤ nq bI l
  | [] => Nat.le_refl _
  | k :: l => by have := ww l; rw [nodesL]; simp only [nq, List.map_cons, List.sum_cons] at this ⊢; omega
theorem DA : ∀ (N : Nat) (H : Type) (eh : TypeId × Value → H) (W : World) (base : Nat) (sp : Nat → Bool) (hd : Bool) (fuel : Nat) (cs : List Value) (x : DataW H × List MemPlace),
    DataW.trod eh Tryz.prog W base sp hd fuel 113 cs = some x → SizeOf.sizeOf x.1 < N → ∃ a : Formula, aH (hp W) cs a ∧ bI a ≤ Rows.uptoBulk x.1 := by
  intro N
  induction N with
  | zero => intro _ _ _ _ _ _ _ _ _ _ h; exact absurd h (Nat.not_lt_zero _)
  | succ N ih =>
    intro H eh W base sp hd fuel cs x h hN
    obtain ⟨xs1, n1, _, hx1, hl1, hlen1, hf1⟩ := DataW.trod_struct Tryz.underlying113 h
    obtain ⟨y1_0, y1_1, y1_2, y1_3, rfl⟩ := FG hlen1
    obtain ⟨c1_0, c1_1, c1_2, c1_3, c1_4, rfl⟩ := FE (hl1.trans qy)
    have h1_0 : DataW.trod _ Tryz.prog W _ _ _ n1 3 (([c1_0, c1_1, c1_2, c1_3, c1_4].drop 0).take (Tryz.prog.cellsOf 3)) = some y1_0 := hf1 0 _ rfl
    have h1_1 : DataW.trod _ Tryz.prog W _ _ _ n1 3 (([c1_0, c1_1, c1_2, c1_3, c1_4].drop 1).take (Tryz.prog.cellsOf 3)) = some y1_1 := hf1 1 _ rfl
    have h1_2 : DataW.trod _ Tryz.prog W _ _ _ n1 28 (([c1_0, c1_1, c1_2, c1_3, c1_4].drop 2).take (Tryz.prog.cellsOf 28)) = some y1_2 := hf1 2 _ rfl
    have h1_3 : DataW.trod _ Tryz.prog W _ _ _ n1 111 (([c1_0, c1_1, c1_2, c1_3, c1_4].drop 4).take (Tryz.prog.cellsOf 111)) = some y1_3 := hf1 3 _ rfl
    simp only [Cp, uu, vE, List.drop, List.take] at h1_0 h1_1 h1_2 h1_3
    obtain ⟨s2, e2, b2⟩ := sH _ _ _ _ _ _ _ _ _ h1_0
    simp only [List.cons.injEq, and_true] at e2
    obtain rfl := e2
    obtain ⟨s3, e3, b3⟩ := sH _ _ _ _ _ _ _ _ _ h1_1
    simp only [List.cons.injEq, and_true] at e3
    obtain rfl := e3
    obtain ⟨s4, e4, b4⟩ := wC _ _ _ _ _ _ _ _ _ h1_2
    simp only [aO, List.cons.injEq, and_true] at e4
    obtain ⟨rfl, rfl⟩ := e4
    obtain ⟨v5, s5, e5, q5, b5⟩ := uT qy (by decide) Tryz.underlying111 (fun f cs y h hz => ih _ _ _ _ _ _ _ _ _ h (by have := FH hx1 3 rfl; omega)) h1_3
    simp only [List.cons.injEq, and_true] at e5
    obtain rfl := e5
    have b1 := congrArg (fun z => Rows.uptoBulk z.1) hx1
    refine ⟨⟨s2, s3, s4, s5⟩, aH.mk ⟨_, rfl, q5⟩, ?_⟩
    have hz := ww s5
    simp only [List.map, Rows.uptoBulk, Rows.uptoBulkAll] at b2 b3 b4 b5 b1 ⊢
    rw [jS]
    simp only
    omega
theorem wH : uc Tryz.prog 113 aH bI := fun H eh W base sp hd fuel cs x h => DA _ H eh W base sp hd fuel cs x h (Nat.lt_succ_self _)
def mK (x : aV) : Nat := mR x.Signed.Cred + nq (fun _ : Int => 0) x.Signed.Tag + 1 + bI x.Release + 1
def Bk (x : aV) : Prop := (∀ y ∈ x.Signed.Tag, 0 ≤ y ∧ y < 256)
theorem Ar : uc Tryz.prog 138 (zM bB Bk) mK := by
  intro H eh W base sp hd fuel cs x h
  obtain ⟨xs6, n6, _, hx6, hl6, hlen6, hf6⟩ := DataW.trod_struct Tryz.underlying138 h
  obtain ⟨y6_0, y6_1, rfl⟩ := tz hlen6
  obtain ⟨c6_0, c6_1, c6_2, c6_3, c6_4, c6_5, c6_6, c6_7, c6_8, c6_9, c6_10, c6_11, c6_12, c6_13, c6_14, rfl⟩ := Fb (hl6.trans vt)
  have h6_0 : DataW.trod _ Tryz.prog W _ _ _ n6 56 (([c6_0, c6_1, c6_2, c6_3, c6_4, c6_5, c6_6, c6_7, c6_8, c6_9, c6_10, c6_11, c6_12, c6_13, c6_14].drop 0).take (Tryz.prog.cellsOf 56)) = some y6_0 := hf6 0 _ rfl
  have h6_1 : DataW.trod _ Tryz.prog W _ _ _ n6 113 (([c6_0, c6_1, c6_2, c6_3, c6_4, c6_5, c6_6, c6_7, c6_8, c6_9, c6_10, c6_11, c6_12, c6_13, c6_14].drop 10).take (Tryz.prog.cellsOf 113)) = some y6_1 := hf6 1 _ rfl
  simp only [qy, DT, List.drop, List.take] at h6_0 h6_1
  obtain ⟨xs7, n7, _, hx7, hl7, hlen7, hf7⟩ := DataW.trod_struct Tryz.underlying56 h6_0
  obtain ⟨y7_0, y7_1, rfl⟩ := tz hlen7
  have h7_0 : DataW.trod _ Tryz.prog W _ _ _ n7 53 (([c6_0, c6_1, c6_2, c6_3, c6_4, c6_5, c6_6, c6_7, c6_8, c6_9].drop 0).take (Tryz.prog.cellsOf 53)) = some y7_0 := hf7 0 _ rfl
  have h7_1 : DataW.trod _ Tryz.prog W _ _ _ n7 54 (([c6_0, c6_1, c6_2, c6_3, c6_4, c6_5, c6_6, c6_7, c6_8, c6_9].drop 9).take (Tryz.prog.cellsOf 54)) = some y7_1 := hf7 1 _ rfl
  simp only [wQ, zZ, List.drop, List.take] at h7_0 h7_1
  obtain ⟨s8, e8, b8⟩ := Dl _ _ _ _ _ _ _ _ _ h7_0
  simp only [aJ, aO, List.cons.injEq, and_true] at e8
  obtain ⟨rfl, rfl, rfl, rfl, rfl, rfl, rfl, rfl, rfl⟩ := e8
  obtain ⟨v9, s9, e9, q9, b9⟩ := kW BQ (by decide) Dp Tryz.underlying54 h7_1
  simp only [List.cons.injEq, and_true] at e9
  obtain rfl := e9
  obtain ⟨q9, g9⟩ := Lf.Sl.all q9
  have b7 := congrArg (fun z => Rows.uptoBulk z.1) hx7
  obtain ⟨s10, q10, b10⟩ := wH _ _ _ _ _ _ _ _ _ h6_1
  obtain ⟨v10, e10, q10⟩ := q10.out
  simp only [List.cons.injEq, and_true] at e10
  obtain ⟨rfl, rfl, rfl, rfl, rfl⟩ := e10
  have b6 := congrArg (fun z => Rows.uptoBulk z.1) hx6
  refine ⟨⟨⟨s8, s9⟩, s10⟩, ⟨bB.mk ⟨_, _, rfl, q9, q10⟩, g9⟩, ?_⟩
  simp only [List.map, Rows.uptoBulk, Rows.uptoBulkAll, mK] at b8 b9 b7 b10 b6 ⊢
  omega
theorem yl : Tryz.prog.cellsOf 108 = 1 := by kernel_rfl
theorem vc : Tryz.prog.cellsOf 263 = 8 := by kernel_rfl
theorem Fw {α : Type} {l : List α} (h : l.length = 8) : ∃ a0 a1 a2 a3 a4 a5 a6 a7, l = [a0, a1, a2, a3, a4, a5, a6, a7] := by
  match l, h with
  | [a0, a1, a2, a3, a4, a5, a6, a7], _ => exact ⟨a0, a1, a2, a3, a4, a5, a6, a7, rfl⟩
theorem DW : Tryz.prog.cellsOf 22 = 1 := by kernel_rfl
def qQ (x : eS) : Nat := pG x.Role + bI x.Release + nq mR x.Closure + 1
def Fa (x : eS) : Prop := True
theorem Ap : uc Tryz.prog 263 (zM cN Fa) qQ := by
  intro H eh W base sp hd fuel cs x h
  obtain ⟨xs11, n11, _, hx11, hl11, hlen11, hf11⟩ := DataW.trod_struct Tryz.underlying263 h
  obtain ⟨y11_0, y11_1, y11_2, rfl⟩ := Ce hlen11
  obtain ⟨c11_0, c11_1, c11_2, c11_3, c11_4, c11_5, c11_6, c11_7, rfl⟩ := Fw (hl11.trans vc)
  have h11_0 : DataW.trod _ Tryz.prog W _ _ _ n11 28 (([c11_0, c11_1, c11_2, c11_3, c11_4, c11_5, c11_6, c11_7].drop 0).take (Tryz.prog.cellsOf 28)) = some y11_0 := hf11 0 _ rfl
  have h11_1 : DataW.trod _ Tryz.prog W _ _ _ n11 113 (([c11_0, c11_1, c11_2, c11_3, c11_4, c11_5, c11_6, c11_7].drop 2).take (Tryz.prog.cellsOf 113)) = some y11_1 := hf11 1 _ rfl
  have h11_2 : DataW.trod _ Tryz.prog W _ _ _ n11 22 (([c11_0, c11_1, c11_2, c11_3, c11_4, c11_5, c11_6, c11_7].drop 7).take (Tryz.prog.cellsOf 22)) = some y11_2 := hf11 2 _ rfl
  simp only [qy, DW, uu, List.drop, List.take] at h11_0 h11_1 h11_2
  obtain ⟨s12, e12, b12⟩ := wC _ _ _ _ _ _ _ _ _ h11_0
  simp only [aO, List.cons.injEq, and_true] at e12
  obtain ⟨rfl, rfl⟩ := e12
  obtain ⟨s13, q13, b13⟩ := wH _ _ _ _ _ _ _ _ _ h11_1
  obtain ⟨v13, e13, q13⟩ := q13.out
  simp only [List.cons.injEq, and_true] at e13
  obtain ⟨rfl, rfl, rfl, rfl, rfl⟩ := e13
  obtain ⟨v14, s14, e14, q14, b14⟩ := kW wQ (by decide) Dl.rel Tryz.underlying22 h11_2
  simp only [List.cons.injEq, and_true] at e14
  obtain rfl := e14
  have b11 := congrArg (fun z => Rows.uptoBulk z.1) hx11
  refine ⟨⟨s12, s13, s14⟩, ⟨cN.mk ⟨_, _, rfl, q13, q14⟩, trivial⟩, ?_⟩
  simp only [List.map, Rows.uptoBulk, Rows.uptoBulkAll, qQ] at b12 b13 b14 b11 ⊢
  omega
theorem xZ : Tryz.prog.cellsOf 114 = 2 := by kernel_rfl
def th (x : iU) : Nat := 0
theorem EK : vR Tryz.prog 114 wq th := by
  intro H eh W base sp hd fuel cs x h
  obtain ⟨xs, n, _, rfl, hl, hlen, hf⟩ := DataW.trod_array Tryz.underlying114 h
  obtain ⟨y0, y1, rfl⟩ := tz hlen
  obtain ⟨c0, c1, rfl⟩ := tz (hl.trans xZ)
  have h0 : DataW.trod eh Tryz.prog W base sp hd n 3 (([c0, c1].drop (0 * Tryz.prog.cellsOf 3)).take (Tryz.prog.cellsOf 3)) = some y0 := hf 0 (by decide)
  have h1 : DataW.trod eh Tryz.prog W base sp hd n 3 (([c0, c1].drop (1 * Tryz.prog.cellsOf 3)).take (Tryz.prog.cellsOf 3)) = some y1 := hf 1 (by decide)
  simp only [vE, List.drop, List.take, Nat.reduceMul] at h0 h1
  obtain ⟨s0, e0, b0⟩ := sH _ _ _ _ _ _ _ _ _ h0
  obtain ⟨s1, e1, b1⟩ := sH _ _ _ _ _ _ _ _ _ h1
  simp only [List.cons.injEq, and_true] at e0 e1
  obtain rfl := e0
  obtain rfl := e1
  refine ⟨⟨s0, s1⟩, rfl, ?_⟩
  simp only [List.map, Rows.uptoBulk, Rows.uptoBulkAll, th] at b0 b1 ⊢
  omega
theorem DX : Tryz.prog.cellsOf 49 = 1 := by kernel_rfl
theorem yk : Tryz.prog.cellsOf 196 = 2 := by kernel_rfl
def AW (x : Key) : Nat := x.Who.size + nq (fun _ : Int => 0) x.Key + 1
def E8 (x : Key) : Prop := (∀ y ∈ x.Key, 0 ≤ y ∧ y < 256)
theorem DV : uc Tryz.prog 196 (zM iN E8) AW := by
  intro H eh W base sp hd fuel cs x h
  obtain ⟨xs15, n15, _, hx15, hl15, hlen15, hf15⟩ := DataW.trod_struct Tryz.underlying196 h
  obtain ⟨y15_0, y15_1, rfl⟩ := tz hlen15
  obtain ⟨c15_0, c15_1, rfl⟩ := tz (hl15.trans yk)
  have h15_0 : DataW.trod _ Tryz.prog W _ _ _ n15 9 (([c15_0, c15_1].drop 0).take (Tryz.prog.cellsOf 9)) = some y15_0 := hf15 0 _ rfl
  have h15_1 : DataW.trod _ Tryz.prog W _ _ _ n15 54 (([c15_0, c15_1].drop 1).take (Tryz.prog.cellsOf 54)) = some y15_1 := hf15 1 _ rfl
  simp only [zZ, tJ, List.drop, List.take] at h15_0 h15_1
  obtain ⟨s16, e16, b16⟩ := vr _ _ _ _ _ _ _ _ _ h15_0
  simp only [List.cons.injEq, and_true] at e16
  obtain rfl := e16
  obtain ⟨v17, s17, e17, q17, b17⟩ := kW BQ (by decide) Dp Tryz.underlying54 h15_1
  simp only [List.cons.injEq, and_true] at e17
  obtain rfl := e17
  obtain ⟨q17, g17⟩ := Lf.Sl.all q17
  have b15 := congrArg (fun z => Rows.uptoBulk z.1) hx15
  refine ⟨⟨s16, s17⟩, ⟨iN.mk ⟨_, rfl, q17⟩, g17⟩, ?_⟩
  simp only [List.map, Rows.uptoBulk, Rows.uptoBulkAll, AW] at b16 b17 b15 ⊢
  omega
def vO (x : eW) : Nat := x.Owner.Name.size + nq mK x.Owner.Creds + nq qQ x.Owner.Acks + 1 + x.Client.Name.size + nq mK x.Client.Creds + nq qQ x.Client.Acks + 1 + bI x.Formula + th x.Rooms + nq AW x.Keys + 1
theorem Fc : Tryz.prog.readableRec 116 = true ∧ 116 < Tryz.prog.types.size := ⟨by kernel_rfl, of_decide_eq_true (by kernel_rfl)⟩
theorem yL (c : Cred) : pW c = mR c := by unfold pW mR pG; omega
theorem Ah {α : Type} (sz : α → Nat) (h : ∀ a, 2 ≤ sz a) : ∀ l : List α, 2 * l.length ≤ nq sz l
  | [] => Nat.zero_le _
  | a :: l => by have := Ah sz h l; have := h a; simp only [nq, List.map_cons, List.sum_cons, List.length_cons] at *; omega
theorem tu (y : aV) : mK y = mR y.Signed.Cred + nq (fun _ : Int => 0) y.Signed.Tag + 1 + bI y.Release + 1 := rfl
theorem CX (y : eS) : qQ y = pG y.Role + bI y.Release + nq mR y.Closure + 1 := rfl
theorem yh (x : bT) (h1 : nq mK x.Creds ≤ 1048576) (h2 : nq qQ x.Acks ≤ 1048576) : PG x ∧ x.Creds.length ≤ 600000 := by
  have c1 := Ah mK (fun y => by rw [tu]; omega) x.Creds
  have c2 := wZ qQ x.Acks
  have g1 : ∀ y ∈ x.Creds, mR y.Signed.Cred ≤ 1048576 ∧ bI y.Release ≤ 1048576 := fun y hy => by
    have := wz (sz := mK) hy
    have e := tu y
    omega
  have g2 : ∀ y ∈ x.Acks, bI y.Release ≤ 1048576 ∧ nq mR y.Closure ≤ 1048576 := fun y hy => by
    have := wz (sz := qQ) hy
    have e := CX y
    omega
  refine ⟨{ creds := by omega, acks := by omega, rel := fun y hy => ?_, arel := fun y hy => ?_, clo := fun y hy => ?_, csz := fun y hy => ?_, asz := fun y hy c hc => ?_ }, by omega⟩
  · have := (g1 y hy).2; omega
  · have := (g2 y hy).1; omega
  · have := (g2 y hy).2; have := wZ mR y.Closure; omega
  · have := (g1 y hy).1; rw [yL]; omega
  · have := (g2 y hy).2; have := wz (sz := mR) hc; rw [yL]; omega
theorem Dx (p : eW) (h : vO p ≤ 1048576) : PP p := by
  unfold vO at h
  have a := yh p.Owner (by omega) (by omega)
  have b := yh p.Client (by omega) (by omega)
  exact ⟨a.1, b.1, a.2, b.2, by omega⟩
theorem FO : ownKnob Tryz.prog.godebug = none := by kernel_rfl
theorem CP : laidOutB Tryz.prog = true := by kernel_rfl
theorem Cj (H : Type) (enc : TypeId × Value → H) (W : World) (base : Nat) (args : Array Value) (ds gs : List (DataW H)) (before : List MemPlace)
    (hval : ∀ (j : Nat) t v, Tryz.f12.params[j]? = some t → args[j]? = some v → Value.okWide Tryz.prog W .any base t v)
    (hW : DataW.Whole enc Tryz.prog Tryz.f12.params.toList Rows.stuckWaitsSpec.vars false W args.toList ds gs before) (hk : Rows.uptoSmall H (ds ++ gs) = true) :
    Calls Tryz.prog 12 args W fun e W' => ∃ v, e = .returned v ∧ Rows.stuckWaitsSpec.post enc Tryz.prog Tryz.f12 false true false false W args v W' := by
  have hW' := hW
  obtain ⟨p, q, hA0, hV, rfl, hfz, hnd⟩ := hW
  have hA : DataW.TrodAll enc Tryz.prog W 0 (fun _ => true) true Tryz.f12.params.toList args.toList ds p := hA0
  have hr : ∀ t ∈ Tryz.f12.params.toList, Tryz.prog.readableRec t = true ∧ t < Tryz.prog.types.size := by
    rw [Tryz.params12]
    intro t ht
    simp only [List.mem_cons, List.not_mem_nil, or_false] at ht
    subst ht
    exact Fc
  rw [Tryz.params12] at hA hval
  obtain ⟨v0, vs0, d0, ds0, p0, q0, hargs, rfl, rfl, h0, r0⟩ := trodAll_cons hA
  obtain ⟨rfl, rfl, rfl⟩ := trodAll_nil r0
  obtain rfl : args = #[v0] := by cases args; simp_all
  obtain ⟨rfl, rfl⟩ := trodVars_none hV
  have k0 := hval 0 116 v0 rfl rfl
  obtain ⟨ca0, rfl, _⟩ := okWide_struct Tryz.underlying116 k0
  obtain ⟨fu0, hf0⟩ := h0
  obtain ⟨la0, rfl⟩ : ∃ l : List Value, ca0 = l.toArray := ⟨ca0.toList, by simp⟩
  change DataW.trod _ _ _ _ _ _ _ _ la0 = some _ at hf0
  obtain ⟨xs18, n18, _, hx18, hl18, hlen18, hf18⟩ := DataW.trod_struct Tryz.underlying116 hf0
  obtain ⟨y18_0, y18_1, y18_2, y18_3, y18_4, y18_5, y18_6, y18_7, y18_8, rfl⟩ := EQ hlen18
  obtain ⟨c18_0, c18_1, c18_2, c18_3, c18_4, c18_5, c18_6, c18_7, c18_8, c18_9, c18_10, c18_11, c18_12, c18_13, c18_14, c18_15, c18_16, c18_17, rfl⟩ := Fj (hl18.trans Co)
  have h18_0 : DataW.trod _ Tryz.prog W _ _ _ n18 110 (([c18_0, c18_1, c18_2, c18_3, c18_4, c18_5, c18_6, c18_7, c18_8, c18_9, c18_10, c18_11, c18_12, c18_13, c18_14, c18_15, c18_16, c18_17].drop 0).take (Tryz.prog.cellsOf 110)) = some y18_0 := hf18 0 _ rfl
  have h18_1 : DataW.trod _ Tryz.prog W _ _ _ n18 110 (([c18_0, c18_1, c18_2, c18_3, c18_4, c18_5, c18_6, c18_7, c18_8, c18_9, c18_10, c18_11, c18_12, c18_13, c18_14, c18_15, c18_16, c18_17].drop 3).take (Tryz.prog.cellsOf 110)) = some y18_1 := hf18 1 _ rfl
  have h18_2 : DataW.trod _ Tryz.prog W _ _ _ n18 113 (([c18_0, c18_1, c18_2, c18_3, c18_4, c18_5, c18_6, c18_7, c18_8, c18_9, c18_10, c18_11, c18_12, c18_13, c18_14, c18_15, c18_16, c18_17].drop 6).take (Tryz.prog.cellsOf 113)) = some y18_2 := hf18 2 _ rfl
  have h18_3 : DataW.trod _ Tryz.prog W _ _ _ n18 3 (([c18_0, c18_1, c18_2, c18_3, c18_4, c18_5, c18_6, c18_7, c18_8, c18_9, c18_10, c18_11, c18_12, c18_13, c18_14, c18_15, c18_16, c18_17].drop 11).take (Tryz.prog.cellsOf 3)) = some y18_3 := hf18 3 _ rfl
  have h18_4 : DataW.trod _ Tryz.prog W _ _ _ n18 114 (([c18_0, c18_1, c18_2, c18_3, c18_4, c18_5, c18_6, c18_7, c18_8, c18_9, c18_10, c18_11, c18_12, c18_13, c18_14, c18_15, c18_16, c18_17].drop 12).take (Tryz.prog.cellsOf 114)) = some y18_4 := hf18 4 _ rfl
  have h18_5 : DataW.trod _ Tryz.prog W _ _ _ n18 3 (([c18_0, c18_1, c18_2, c18_3, c18_4, c18_5, c18_6, c18_7, c18_8, c18_9, c18_10, c18_11, c18_12, c18_13, c18_14, c18_15, c18_16, c18_17].drop 14).take (Tryz.prog.cellsOf 3)) = some y18_5 := hf18 5 _ rfl
  have h18_6 : DataW.trod _ Tryz.prog W _ _ _ n18 3 (([c18_0, c18_1, c18_2, c18_3, c18_4, c18_5, c18_6, c18_7, c18_8, c18_9, c18_10, c18_11, c18_12, c18_13, c18_14, c18_15, c18_16, c18_17].drop 15).take (Tryz.prog.cellsOf 3)) = some y18_6 := hf18 6 _ rfl
  have h18_7 : DataW.trod _ Tryz.prog W _ _ _ n18 3 (([c18_0, c18_1, c18_2, c18_3, c18_4, c18_5, c18_6, c18_7, c18_8, c18_9, c18_10, c18_11, c18_12, c18_13, c18_14, c18_15, c18_16, c18_17].drop 16).take (Tryz.prog.cellsOf 3)) = some y18_7 := hf18 7 _ rfl
  have h18_8 : DataW.trod _ Tryz.prog W _ _ _ n18 49 (([c18_0, c18_1, c18_2, c18_3, c18_4, c18_5, c18_6, c18_7, c18_8, c18_9, c18_10, c18_11, c18_12, c18_13, c18_14, c18_15, c18_16, c18_17].drop 17).take (Tryz.prog.cellsOf 49)) = some y18_8 := hf18 8 _ rfl
  simp only [Cw, qy, xZ, vE, DX, List.drop, List.take] at h18_0 h18_1 h18_2 h18_3 h18_4 h18_5 h18_6 h18_7 h18_8
  obtain ⟨xs19, n19, _, hx19, hl19, hlen19, hf19⟩ := DataW.trod_struct Tryz.underlying110 h18_0
  obtain ⟨y19_0, y19_1, y19_2, rfl⟩ := Ce hlen19
  have h19_0 : DataW.trod _ Tryz.prog W _ _ _ n19 9 (([c18_0, c18_1, c18_2].drop 0).take (Tryz.prog.cellsOf 9)) = some y19_0 := hf19 0 _ rfl
  have h19_1 : DataW.trod _ Tryz.prog W _ _ _ n19 107 (([c18_0, c18_1, c18_2].drop 1).take (Tryz.prog.cellsOf 107)) = some y19_1 := hf19 1 _ rfl
  have h19_2 : DataW.trod _ Tryz.prog W _ _ _ n19 108 (([c18_0, c18_1, c18_2].drop 2).take (Tryz.prog.cellsOf 108)) = some y19_2 := hf19 2 _ rfl
  simp only [yt, yl, tJ, List.drop, List.take] at h19_0 h19_1 h19_2
  obtain ⟨s20, e20, b20⟩ := vr _ _ _ _ _ _ _ _ _ h19_0
  simp only [List.cons.injEq, and_true] at e20
  obtain rfl := e20
  obtain ⟨v21, s21, e21, q21, b21⟩ := kW vt (by decide) Ar Tryz.underlying107 h19_1
  simp only [List.cons.injEq, and_true] at e21
  obtain rfl := e21
  obtain ⟨q21, g21⟩ := Lf.Sl.all q21
  obtain ⟨v22, s22, e22, q22, b22⟩ := kW vc (by decide) Ap Tryz.underlying108 h19_2
  simp only [List.cons.injEq, and_true] at e22
  obtain rfl := e22
  obtain ⟨q22, g22⟩ := Lf.Sl.all q22
  have b19 := congrArg (fun z => Rows.uptoBulk z.1) hx19
  obtain ⟨xs23, n23, _, hx23, hl23, hlen23, hf23⟩ := DataW.trod_struct Tryz.underlying110 h18_1
  obtain ⟨y23_0, y23_1, y23_2, rfl⟩ := Ce hlen23
  have h23_0 : DataW.trod _ Tryz.prog W _ _ _ n23 9 (([c18_3, c18_4, c18_5].drop 0).take (Tryz.prog.cellsOf 9)) = some y23_0 := hf23 0 _ rfl
  have h23_1 : DataW.trod _ Tryz.prog W _ _ _ n23 107 (([c18_3, c18_4, c18_5].drop 1).take (Tryz.prog.cellsOf 107)) = some y23_1 := hf23 1 _ rfl
  have h23_2 : DataW.trod _ Tryz.prog W _ _ _ n23 108 (([c18_3, c18_4, c18_5].drop 2).take (Tryz.prog.cellsOf 108)) = some y23_2 := hf23 2 _ rfl
  simp only [yt, yl, tJ, List.drop, List.take] at h23_0 h23_1 h23_2
  obtain ⟨s24, e24, b24⟩ := vr _ _ _ _ _ _ _ _ _ h23_0
  simp only [List.cons.injEq, and_true] at e24
  obtain rfl := e24
  obtain ⟨v25, s25, e25, q25, b25⟩ := kW vt (by decide) Ar Tryz.underlying107 h23_1
  simp only [List.cons.injEq, and_true] at e25
  obtain rfl := e25
  obtain ⟨q25, g25⟩ := Lf.Sl.all q25
  obtain ⟨v26, s26, e26, q26, b26⟩ := kW vc (by decide) Ap Tryz.underlying108 h23_2
  simp only [List.cons.injEq, and_true] at e26
  obtain rfl := e26
  obtain ⟨q26, g26⟩ := Lf.Sl.all q26
  have b23 := congrArg (fun z => Rows.uptoBulk z.1) hx23
  obtain ⟨s27, q27, b27⟩ := wH _ _ _ _ _ _ _ _ _ h18_2
  obtain ⟨v27, e27, q27⟩ := q27.out
  simp only [List.cons.injEq, and_true] at e27
  obtain ⟨rfl, rfl, rfl, rfl, rfl⟩ := e27
  obtain ⟨s28, e28, b28⟩ := sH _ _ _ _ _ _ _ _ _ h18_3
  simp only [List.cons.injEq, and_true] at e28
  obtain rfl := e28
  obtain ⟨s29, e29, b29⟩ := EK _ _ _ _ _ _ _ _ _ h18_4
  simp only [wq, List.cons.injEq, and_true] at e29
  obtain ⟨rfl, rfl⟩ := e29
  obtain ⟨s30, e30, b30⟩ := sH _ _ _ _ _ _ _ _ _ h18_5
  simp only [List.cons.injEq, and_true] at e30
  obtain rfl := e30
  obtain ⟨s31, e31, b31⟩ := sH _ _ _ _ _ _ _ _ _ h18_6
  simp only [List.cons.injEq, and_true] at e31
  obtain rfl := e31
  obtain ⟨s32, e32, b32⟩ := sH _ _ _ _ _ _ _ _ _ h18_7
  simp only [List.cons.injEq, and_true] at e32
  obtain rfl := e32
  obtain ⟨v33, s33, e33, q33, b33⟩ := kW yk (by decide) DV Tryz.underlying49 h18_8
  simp only [List.cons.injEq, and_true] at e33
  obtain rfl := e33
  obtain ⟨q33, g33⟩ := Lf.Sl.all q33
  have b18 := congrArg (fun z => Rows.uptoBulk z.1) hx18
  simp only [List.map, Rows.uptoBulk, Rows.uptoBulkAll] at b20 b21 b22 b19 b24 b25 b26 b23 b27 b28 b29 b30 b31 b32 b33 b18
  have z0 : vO (⟨⟨s20, s21, s22⟩, ⟨s24, s25, s26⟩, s27, s28, s29, s30, s31, s32, s33⟩ : eW) ≤ Rows.uptoBulk d0 := by simp only [vO]; omega
  have hB : Rows.uptoBulkAll ([d0] ++ []) ≤ 1048576 := of_decide_eq_true hk
  simp only [List.append_nil, Rows.uptoBulkAll] at hB
  have hm : kz (⟨⟨s20, s21, s22⟩, ⟨s24, s25, s26⟩, s27, s28, s29, s30, s31, s32, s33⟩ : eW) = some true := vX DS _ (Dx _ (by omega))
  have hg := tE (⟨⟨s20, s21, s22⟩, ⟨s24, s25, s26⟩, s27, s28, s29, s30, s31, s32, s33⟩ : eW) c18_1 c18_2 c18_4 c18_5 c18_10 c18_17 true W q21 q22 q25 q26 q27 q33 hm
  refine Calls.mono hg fun e W' ⟨he, hx⟩ => ?_
  subst he
  exact ⟨_, rfl, Ay CP hr rfl hW' hx (fun _ _ _ => trodAll_cons_mk (shut_bool Tryz.underlying4 _) trodAll_mk0) rfl rfl (ok_one (by kernel_rfl) rfl (okWide_bool_mk Tryz.underlying4 _))⟩
set_option maxRecDepth 100000 in
theorem Ew (os : Os) (started : os.Started) (H : Type) (enc : TypeId × Value → H) (F : Stop.Interp) :
    ReturnsInHanded {} Tryz.checked os 12 .any ((Rows.OpenSpec.upto Rows.stuckWaitsSpec).pre6 enc Tryz.prog Tryz.f12 Rows.stuckWaitsUptoRow.domain false) (((Rows.OpenSpec.upto Rows.stuckWaitsSpec).at F).post enc Tryz.prog Tryz.f12 false true false false) := by
  refine returnsInHanded_of_cond (C := Tryz.checked) (s := Rows.OpenSpec.upto Rows.stuckWaitsSpec) (k := Rows.uptoSmall) rfl FO started (by kernel_rfl) Tryz.func12
    (OpenSpec.witness (enc := enc) (C := Tryz.checked) (s := Rows.OpenSpec.upto Rows.stuckWaitsSpec) (k := Rows.uptoSmall) rfl false ⟨#[], #[.agg #[.string ⟨#[]⟩, .slice none 0 0, .slice none 0 0, .string ⟨#[]⟩, .slice none 0 0, .slice none 0 0, .int .i64 0, .int .i64 0, .string ⟨#[]⟩, .string ⟨#[]⟩, .slice none 0 0, .int .i64 0, .int .i64 0, .int .i64 0, .int .i64 0, .int .i64 0, .int .i64 0, .slice none 0 0]], []⟩ 8 (by kernel_rfl) (by kernel_rfl) (by kernel_rfl)
      (x := ([.agg [.agg [.lit (.string []), .nil, .nil], .agg [.lit (.string []), .nil, .nil], .agg [.lit (.int .i64 0), .lit (.int .i64 0), .agg [.lit (.string []), .lit (.string [])], .nil], .lit (.int .i64 0), .agg [.lit (.int .i64 0), .lit (.int .i64 0)], .lit (.int .i64 0), .lit (.int .i64 0), .lit (.int .i64 0), .nil]], [], [])) (by kernel_rfl) rfl (by kernel_rfl)) ?_
  intro W base args ds gs before hval hW _ hk _
  exact Cj H enc W base args ds gs before hval hW hk
theorem Fd {a b : Bool} (ha : a = true) (hb : b = true) : (a && b) = true := by rw [ha, hb]; rfl
set_option maxHeartbeats 40000000 in
theorem DC : joinedFacts Tryz.checked.prog 12 Tryz.f12 (Rows.OpenSpec.upto Rows.stuckWaitsSpec).bare Rows.stuckWaitsUptoRow = true := by
  unfold joinedFacts
  repeat' with_reducible refine Fd ?_ ?_
  all_goals as_aux_lemma => kernel_rfl
theorem proved : Rows.StuckWaitsUptoSaid :=
  OpenClaim.holds_of_cond 12 Tryz.f12 rfl rfl rfl rfl rfl rfl rfl ⟨rfl, rfl, rfl, rfl, rfl⟩ rfl rfl rfl rfl rfl (by kernel_rfl) Tryz.func12 DC
    (of_decide_eq_true (by kernel_rfl)) (by unfold Func.isWrapper; first | (rw [if_pos (by decide +kernel)]; kernel_rfl) | (rw [if_neg (by decide +kernel)]; exact ⟨rfl, rfl⟩))
    (fun os started H enc _ F => Ew os started H enc F)
end Go.Proofs.YtmlncblocfcmiaaGreat
