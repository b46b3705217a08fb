/- a part of a proof of OutcomeChecks -/
import Derived.Test.YtbnbdigcbldfhaaGreatLnd
import Derived.Test.YtbnbdigcbldfhaaGreatO7W3d
set_option linter.all false
namespace Go.Proofs.YtbnbdigcbldfhaaGreat.Lf
open Go.ChangeShapes Go.WideShapes Go.ChangeAt Go.RowKit
open Go.Proofs.YtbnbdigcbldfhaaGreat (Rows.uptoBulk Rows.uptoBulkAll Rows.uptoSmall)
theorem EV {H : Type} : ∀ l : List (DataW H), Rows.uptoBulkAll l = (l.map Rows.uptoBulk).sum
 | [] => by simp [Rows.uptoBulkAll]
 | d :: l => by simp [Rows.uptoBulkAll, EV l]
theorem M0 {α : Type} (g : α → Nat) : ∀ (n : Nat) (f : Nat → Nat) {l : List α}, l.length = n → (∀ i x, l[i]? = some x → g x ≤ f i) → (l.map g).sum ≤ ((List.range n).map f).sum
 | 0, f, l, c, h => by
  obtain rfl := cD.1 c
  simp
 | n + 1, f, [], c, h => by cases c
 | n + 1, f, a :: l, c, h => by
  rw [List.range_succ_eq_map, aO, aO, dS, dS, cO]
  have h1 := h 0 a rfl
  have j := M0 g n (f ∘ Nat.succ) (l := l) (by simpa using c) (fun i x d => h (i + 1) x (by simpa using d))
  omega
def CG {α : Type} (sz : α → Nat) (l : List α) : Nat := (l.map fun a => max 1 (sz a)).sum
theorem GW {α : Type} (sz : α → Nat) : ∀ l : List α, l.length ≤ CG sz l
 | [] => aJ _
 | a :: l => by have := GW sz l; simp only [CG, aO, dS, aD] at this ⊢; omega
theorem JK {α : Type} {sz : α → Nat} : ∀ {l : List α} {a : α}, a ∈ l → sz a ≤ CG sz l
 | b :: l, a, h => by
  simp only [CG, aO, dS]
  rcases ay.1 h with rfl | h
  ·omega
  ·have := JK (sz := sz) h; simp only [CG] at this; omega
theorem EK {α : Type} {P : Program} {t e : TypeId} {k : Nat} {R : py α} {sz : α → Nat} (hk : P.cellsOf e = k) (L : 0 < k) (ht : P.underlying t = some (.slice e)) {H : Type} {Z : TypeId × Value → H} {W : World} {base : Nat} {sp : Nat → Bool} {held : Bool} {fuel : Nat} {cs : List Value} {x : DataW H × List MemPlace} (hd : ∀ (fuel : Nat) (cs : List Value) (y : DataW H × List MemPlace), DataW.trod Z P W base sp held fuel e cs = some y → SizeOf.sizeOf y.1 < SizeOf.sizeOf x.1 → ∃ a : α, R (hp W) cs a ∧ sz a ≤ Rows.uptoBulk y.1) (hf : DataW.trod Z P W base sp held fuel t cs = some x) :
  ∃ v l, cs = [v] ∧ Sl R k (hp W) v l ∧ CG sz l ≤ Rows.uptoBulk x.1 := by
 rcases Go.Deep.open_slice ht hf with ⟨rfl, rfl⟩ | ⟨a, ln, cp, m, n, D, Q, rfl, hb, hl, hm, U, rfl, I⟩
 ·exact ⟨_, [], rfl, ⟨none, 0, rfl, aJ _, fX _, fun h => absurd h (Nat.lt_irrefl _)⟩, fX _⟩
 ·have ad : ln ≤ m := by rw [U]; split <;> omega
  have hB : ((List.range ln).map fun i => Rows.uptoBulk (D i)).sum ≤ Rows.uptoBulk (DataW.slice ((List.range ln).map D) ((List.range (m - ln)).map fun j => D (ln + j))) := by
   simp only [Rows.uptoBulk]
   rw [EV, cO]
   have e : ((List.range ln).map fun i => Rows.uptoBulk (D i)) = (List.range ln).map (Rows.uptoBulk ∘ D) := rfl
   rw [e]
   omega
  have hS : ∀ i, i < ln → SizeOf.sizeOf (D i) < SizeOf.sizeOf (DataW.slice ((List.range ln).map D) ((List.range (m - ln)).map fun j => D (ln + j))) := fun i J => by
   have := List.sizeOf_lt_of_mem (aQ.2 ⟨i, List.mem_range.2 J, rfl⟩ : D i ∈ (List.range ln).map D)
   rw [DataW.slice.sizeOf_spec]; omega
  simp only at hd ⊢
  generalize Rows.uptoBulk (DataW.slice ((List.range ln).map D) ((List.range (m - ln)).map fun j => D (ln + j))) = B at hB
  obtain ⟨l, M, q⟩ := P4 (α := α) (n := ln) (p := fun i x => ∃ cs', W.cells? base (a.add (i * k)) k = some cs' ∧ R (hp W) cs' x ∧ sz x ≤ Rows.uptoBulk (D i)) fun i J => by
   obtain ⟨cs', h1, z⟩ := I i (by omega)
   obtain ⟨x, hR, A⟩ := hd _ _ _ z (hS i J)
   rw [hk] at h1
   exact ⟨x, cs', h1, hR, A⟩
  subst M
  refine ⟨_, l, rfl, ⟨some a, cp, rfl, hl, hm, fun h0 => ?_⟩, ?_⟩
  ·have c : ∀ i x, l[i]? = some x → ∃ cs', R (hp W) cs' x ∧ cs'.length = k ∧ ∀ j, j < k → W.cell? ((a.add (i * k)).add j) = cs'[j]? := fun i x s =>
    let ⟨cs', h1, z, _⟩ := q i x s
    let ⟨_, A, h4⟩ := World.cells?_some h1
    ⟨cs', z, A, h4⟩
   obtain ⟨a6, _, h4, h5⟩ := c 0 l[0] (by simp [h0])
   have E := h5 0 L
   rw [Nat.zero_mul, bq (by omega)] at E
   have e0 : (a.add 0).add 0 = a := rfl
   rw [e0] at E
   obtain ⟨cs, T, fr, G, h8, _⟩ := I0 E
   obtain ⟨u, w, a1⟩ := a
   simp only at G h8
   subst h8
   refine ⟨u, w, cs, T, fr, rfl, G, fun i x s => ?_⟩
   obtain ⟨cs', gR, g1, g2⟩ := c i x s
   refine ⟨cs', g1, gR, fun j y hy => ?_⟩
   have hj : j < k := by
    rw [← g1]
    exact (aF.1 hy).1
   have h9 := g2 j hj
   rw [Go.Deep.add_add, hy] at h9
   obtain ⟨Y, T', a7, d, a8, g⟩ := I0 h9
   have o : (Addr.add ⟨u, w, none⟩ (i * k + j)).block = u ∧ (Addr.add ⟨u, w, none⟩ (i * k + j)).off = w + (i * k + j) := by
    unfold Addr.add
    split
    ·rename_i hz
     rw [hz]; exact ⟨rfl, rfl⟩
    ·exact ⟨rfl, rfl⟩
   rw [o.1, G] at d
   cases d
   rw [o.2, ← dz] at g
   exact g
  ·refine cn (M0 _ _ _ rfl fun i x s => ?_) hB
   exact Nat.max_le.2 ⟨NL _, (q i x s).elim fun _ h => h.2.2⟩
theorem Bf {α : Type} {P : Program} {t e : TypeId} {k : Nat} {R : py α} {sz : α → Nat} (hk : P.cellsOf e = k) (a : 0 < k) (d : OU P e R sz) (i : P.underlying t = some (.slice e)) {H : Type} {c : TypeId × Value → H} {W : World} {base : Nat} {sp : Nat → Bool} {held : Bool} {fuel : Nat} {cs : List Value} {x : DataW H × List MemPlace} (g : DataW.trod c P W base sp held fuel t cs = some x) :
  ∃ v l, cs = [v] ∧ Sl R k (hp W) v l ∧ CG sz l ≤ Rows.uptoBulk x.1 := EK hk a i (fun _ _ _ h _ => d _ _ _ _ _ _ _ _ _ h) g
end Go.Proofs.YtbnbdigcbldfhaaGreat.Lf
namespace Go.Proofs.YtbnbdigcbldfhaaGreat.Lf
open Go.ChangeShapes Go.WideShapes Go.ChangeAt Go.RowKit
open Go.Proofs.YtbnbdigcbldfhaaGreat (Rows.uptoBulk Rows.uptoBulkAll Rows.uptoSmall)
def Tv {α : Type} (R : py α) (Q : α → Prop) : py α := fun μ ys x => R μ ys x ∧ Q x
theorem Sl.all {α : Type} {R : py α} {Q : α → Prop} {k : Nat} {μ : jw} {v : Value} {l : List α} (h : Sl (Tv R Q) k μ v l) : Sl R k μ v l ∧ ∀ x ∈ l, Q x := by
 obtain ⟨A, c, rfl, h1, j, q⟩ := h
 cases l with
 | nil => exact ⟨⟨A, c, rfl, h1, j, fun h => absurd h (by simp)⟩, by simp⟩
 | cons a l =>
  obtain ⟨b, o, cs, T, fr, e, s, m⟩ := q (by simp)
  refine ⟨⟨A, c, rfl, h1, j, fun _ => ⟨b, o, cs, T, fr, e, s, fun i x g => ?_⟩⟩, fun x g => ?_⟩
  ·obtain ⟨ys, n, d, p⟩ := m i x g
   exact ⟨ys, n, d.1, p⟩
  ·obtain ⟨i, t⟩ := List.mem_iff_getElem?.1 g
   obtain ⟨ys, n, d, p⟩ := m i x t
   exact d.2
end Go.Proofs.YtbnbdigcbldfhaaGreat.Lf
namespace Go.Proofs.YtbnbdigcbldfhaaGreat
open Go.Proofs.Tryz renaming prog → pg0
set_option maxRecDepth 10000
open Go.ChangeShapes Go.WideShapes Go.ChangeAt Go.RowKit
open Go.Proofs.YtbnbdigcbldfhaaGreat Go.Proofs.YtbnbdigcbldfhaaGreat.Lf
theorem PL : Tryz.prog.cellsOf 74 = 11 := by kernel_rfl
theorem OA {α : Type} {l : List α} (h : l.length = 4) : ∃ a0 a a2 a3, l = [a0, a, a2, a3] := by
 match l, h with
 | [a0, a, a2, a3], _ => exact ⟨a0, a, a2, a3, rfl⟩
theorem RQ {α : Type} {l : List α} (h : l.length = 11) : ∃ a0 c a2 a3 a4 a5 d g i a9 a, l = [a0, c, a2, a3, a4, a5, d, g, i, a9, a] := by
 match l, h with
 | [a0, c, a2, a3, a4, a5, d, g, i, a9, a], _ => exact ⟨a0, c, a2, a3, a4, a5, d, g, i, a9, a, rfl⟩
theorem P9 : Tryz.prog.cellsOf 64 = 4 := by kernel_rfl
theorem IR : Tryz.prog.cellsOf 3 = 1 := by kernel_rfl
theorem LL : Eb pg0 3 (fun n : Int => [.int .i64 n]) (fun _ => 0) := KL Tryz.underlying3
theorem PO : Tryz.prog.cellsOf 62 = 1 := by kernel_rfl
theorem RP : Eb pg0 62 (fun n : Int => [.int .i64 n]) (fun _ => 0) := KL Tryz.underlying62
theorem PH : Tryz.prog.cellsOf 34 = 1 := by kernel_rfl
theorem BE : Tryz.prog.cellsOf 28 = 2 := by kernel_rfl
theorem GP : Eb pg0 9 (fun s : ByteArray => [.string s]) (fun s => s.size) := Lt Tryz.underlying9
theorem Gb : Tryz.prog.cellsOf 9 = 1 := by kernel_rfl
theorem Me {α : Type} {l : List α} (h : l.length = 2) : ∃ a0 a, l = [a0, a] := by
 match l, h with
 | [a0, a], _ => exact ⟨a0, a, rfl⟩
def xJ (x : iR) : Nat := x.ja.size + x.jt.size
theorem Eo : Eb pg0 28 iT xJ := by
 intro H g W base sp j fuel cs x h
 obtain ⟨xs, n, _, rfl, p, hlen, k⟩ := de Tryz.underlying28 h
 obtain ⟨s, t, rfl⟩ := Me hlen
 obtain ⟨a, c1, rfl⟩ := Me (p.trans BE)
 have i : DataW.trod g pg0 W base sp j n 9 (([a, c1].drop 0).take (Tryz.prog.cellsOf 9)) = some s := k 0 _ rfl
 have h1 : DataW.trod g pg0 W base sp j n 9 (([a, c1].drop 1).take (Tryz.prog.cellsOf 9)) = some t := k 1 _ rfl
 simp only [Gb, List.drop, List.take] at i h1
 obtain ⟨q, c, m⟩ := GP _ _ _ _ _ _ _ _ _ i
 obtain ⟨s1, d, o⟩ := GP _ _ _ _ _ _ _ _ _ h1
 simp only [bi, dy] at c d
 obtain rfl := c
 obtain rfl := d
 refine ⟨⟨q, s1⟩, rfl, ?_⟩
 simp only [List.map, Rows.uptoBulk, Rows.uptoBulkAll, xJ] at m o ⊢
 omega
theorem P2 : Tryz.prog.cellsOf 45 = 1 := by kernel_rfl
theorem IE : Tryz.prog.cellsOf 140 = 12 := by kernel_rfl
theorem Ff : Tryz.prog.cellsOf 108 = 9 := by kernel_rfl
theorem SH {α : Type} {l : List α} (h : l.length = 6) : ∃ a0 a a2 a3 a4 a5, l = [a0, a, a2, a3, a4, a5] := by
 match l, h with
 | [a0, a, a2, a3, a4, a5], _ => exact ⟨a0, a, a2, a3, a4, a5, rfl⟩
theorem SJ {α : Type} {l : List α} (h : l.length = 9) : ∃ a0 a a2 a3 a4 a5 c d g, l = [a0, a, a2, a3, a4, a5, c, d, g] := by
 match l, h with
 | [a0, a, a2, a3, a4, a5, c, d, g], _ => exact ⟨a0, a, a2, a3, a4, a5, c, d, g, rfl⟩
def xS (x : iS) : Nat := xJ x.Head + x.jA.size + xJ x.B + xJ x.C + x.jU.size
theorem No : Eb pg0 108 iX xS := by
 intro H m W base sp o fuel cs x h
 obtain ⟨xs, n, _, rfl, Q, hlen, p⟩ := de Tryz.underlying108 h
 obtain ⟨Z, y1, y2, y3, y4, y5, rfl⟩ := SH hlen
 obtain ⟨a, c1, c2, c, d, g, i, j, k, rfl⟩ := SJ (Q.trans Ff)
 have y : DataW.trod m pg0 W base sp o n 3 (([a, c1, c2, c, d, g, i, j, k].drop 0).take (Tryz.prog.cellsOf 3)) = some Z := p 0 _ rfl
 have h1 : DataW.trod m pg0 W base sp o n 28 (([a, c1, c2, c, d, g, i, j, k].drop 1).take (Tryz.prog.cellsOf 28)) = some y1 := p 1 _ rfl
 have z : DataW.trod m pg0 W base sp o n 9 (([a, c1, c2, c, d, g, i, j, k].drop 3).take (Tryz.prog.cellsOf 9)) = some y2 := p 2 _ rfl
 have A : DataW.trod m pg0 W base sp o n 28 (([a, c1, c2, c, d, g, i, j, k].drop 4).take (Tryz.prog.cellsOf 28)) = some y3 := p 3 _ rfl
 have D : DataW.trod m pg0 W base sp o n 28 (([a, c1, c2, c, d, g, i, j, k].drop 6).take (Tryz.prog.cellsOf 28)) = some y4 := p 4 _ rfl
 have E : DataW.trod m pg0 W base sp o n 9 (([a, c1, c2, c, d, g, i, j, k].drop 8).take (Tryz.prog.cellsOf 9)) = some y5 := p 5 _ rfl
 simp only [BE, IR, Gb, List.drop, List.take] at y h1 z A D E
 obtain ⟨R, q, G⟩ := LL _ _ _ _ _ _ _ _ _ y
 obtain ⟨s1, s, I⟩ := Eo _ _ _ _ _ _ _ _ _ h1
 obtain ⟨s2, t, J⟩ := GP _ _ _ _ _ _ _ _ _ z
 obtain ⟨T, u, L⟩ := Eo _ _ _ _ _ _ _ _ _ A
 obtain ⟨U, v, M⟩ := Eo _ _ _ _ _ _ _ _ _ D
 obtain ⟨Y, w, P⟩ := GP _ _ _ _ _ _ _ _ _ E
 simp only [iT, bi, dy] at q s t u v w
 obtain rfl := q
 obtain ⟨rfl, rfl⟩ := s
 obtain rfl := t
 obtain ⟨rfl, rfl⟩ := u
 obtain ⟨rfl, rfl⟩ := v
 obtain rfl := w
 refine ⟨⟨R, s1, s2, T, U, Y⟩, rfl, ?_⟩
 simp only [List.map, Rows.uptoBulk, Rows.uptoBulkAll, xS] at G I J L M P ⊢
 omega
theorem KB : Tryz.prog.cellsOf 38 = 3 := by kernel_rfl
theorem Tl {α : Type} {l : List α} (h : l.length = 3) : ∃ a0 a a2, l = [a0, a, a2] := by
 match l, h with
 | [a0, a, a2], _ => exact ⟨a0, a, a2, rfl⟩
def F7 (x : iV) : Nat := xJ x.iR + x.jA.size
theorem RM : Eb pg0 38 je F7 := by
 intro H g W base sp j fuel cs x h
 obtain ⟨xs, n, _, rfl, p, hlen, k⟩ := de Tryz.underlying38 h
 obtain ⟨s, t, rfl⟩ := Me hlen
 obtain ⟨a, c1, c2, rfl⟩ := Tl (p.trans KB)
 have i : DataW.trod g pg0 W base sp j n 28 (([a, c1, c2].drop 0).take (Tryz.prog.cellsOf 28)) = some s := k 0 _ rfl
 have h1 : DataW.trod g pg0 W base sp j n 9 (([a, c1, c2].drop 2).take (Tryz.prog.cellsOf 9)) = some t := k 1 _ rfl
 simp only [BE, Gb, List.drop, List.take] at i h1
 obtain ⟨q, c, m⟩ := Eo _ _ _ _ _ _ _ _ _ i
 obtain ⟨s1, d, o⟩ := GP _ _ _ _ _ _ _ _ _ h1
 simp only [iT, bi, dy] at c d
 obtain ⟨rfl, rfl⟩ := c
 obtain rfl := d
 refine ⟨⟨q, s1⟩, rfl, ?_⟩
 simp only [List.map, Rows.uptoBulk, Rows.uptoBulkAll, F7] at m o ⊢
 omega
theorem RY {α : Type} {l : List α} (h : l.length = 12) : ∃ a0 d a2 a3 a4 a5 g i j a9 a c, l = [a0, d, a2, a3, a4, a5, g, i, j, a9, a, c] := by
 match l, h with
 | [a0, d, a2, a3, a4, a5, g, i, j, a9, a, c], _ => exact ⟨a0, d, a2, a3, a4, a5, g, i, j, a9, a, c, rfl⟩
def B2 (x : jk) : Nat := xS x.iS + F7 x.iV
theorem Ry : Eb pg0 140 ji B2 := by
 intro H t W base sp v fuel cs x h
 obtain ⟨xs, n, _, rfl, A, hlen, w⟩ := de Tryz.underlying140 h
 obtain ⟨E, G, rfl⟩ := Me hlen
 obtain ⟨d, c1, c2, g, i, j, k, m, o, p, a, c, rfl⟩ := RY (A.trans IE)
 have u : DataW.trod t pg0 W base sp v n 108 (([d, c1, c2, g, i, j, k, m, o, p, a, c].drop 0).take (Tryz.prog.cellsOf 108)) = some E := w 0 _ rfl
 have h1 : DataW.trod t pg0 W base sp v n 38 (([d, c1, c2, g, i, j, k, m, o, p, a, c].drop 9).take (Tryz.prog.cellsOf 38)) = some G := w 1 _ rfl
 simp only [Ff, KB, List.drop, List.take] at u h1
 obtain ⟨D, q, y⟩ := No _ _ _ _ _ _ _ _ _ u
 obtain ⟨s1, s, z⟩ := RM _ _ _ _ _ _ _ _ _ h1
 simp only [iX, je, iT, bi, dy] at q s
 obtain ⟨rfl, rfl, rfl, rfl, rfl, rfl, rfl, rfl, rfl⟩ := q
 obtain ⟨rfl, rfl, rfl⟩ := s
 refine ⟨⟨D, s1⟩, rfl, ?_⟩
 simp only [List.map, Rows.uptoBulk, Rows.uptoBulkAll, B2] at y z ⊢
 omega
theorem Py : Tryz.prog.cellsOf 22 = 1 := by kernel_rfl
theorem GL : Tryz.prog.cellsOf 57 = 5 := by kernel_rfl
theorem Td {α : Type} {l : List α} (h : l.length = 5) : ∃ a0 a a2 a3 a4, l = [a0, a, a2, a3, a4] := by
 match l, h with
 | [a0, a, a2, a3, a4], _ => exact ⟨a0, a, a2, a3, a4, rfl⟩
theorem P7 : Tryz.prog.cellsOf 55 = 1 := by kernel_rfl
theorem SQ {H : Type} {x : DataW H × List MemPlace} {ys : List (DataW H × List MemPlace)} {p : List MemPlace} (a : x = (.agg (ys.map (·.1)), p)) (i : Nat) {y : DataW H × List MemPlace} (h : ys[i]? = some y) : SizeOf.sizeOf y.1 < SizeOf.sizeOf x.1 := by
 subst a
 have := List.sizeOf_lt_of_mem (aQ.2 ⟨y, List.mem_of_getElem? h, rfl⟩ : y.1 ∈ ys.map (·.1))
 simp only [DataW.agg.sizeOf_spec]; omega
theorem I7 : ∀ l : List Formula, szFL l ≤ CG F8 l
 | [] => aJ _
 | k :: l => by have := I7 l; rw [szFL]; simp only [CG, aO, dS] at this ⊢; omega
theorem QJ : ∀ (N : Nat) (H : Type) (L : TypeId × Value → H) (W : World) (base : Nat) (sp : Nat → Bool) (M : Bool) (fuel : Nat) (cs : List Value) (x : DataW H × List MemPlace),
  DataW.trod L pg0 W base sp M fuel 57 cs = some x → SizeOf.sizeOf x.1 < N → ∃ a : Formula, ju (hp W) cs a ∧ F8 a ≤ Rows.uptoBulk x.1 := by
 intro N
 induction N with
 | zero => intro _ _ _ _ _ _ _ _ _ _ h; exact absurd h (Nat.not_lt_zero _)
 | succ N ih =>
  intro H L W base sp M fuel cs x h hN
  obtain ⟨a1, A, _, s, D, q, k⟩ := de Tryz.underlying57 h
  obtain ⟨t, u, v, w, rfl⟩ := OA q
  obtain ⟨c, d, g, i, j, rfl⟩ := Td (D.trans GL)
  have m : DataW.trod _ pg0 W _ _ _ A 3 (([c, d, g, i, j].drop 0).take (Tryz.prog.cellsOf 3)) = some t := k 0 _ rfl
  have n : DataW.trod _ pg0 W _ _ _ A 3 (([c, d, g, i, j].drop 1).take (Tryz.prog.cellsOf 3)) = some u := k 1 _ rfl
  have o : DataW.trod _ pg0 W _ _ _ A 28 (([c, d, g, i, j].drop 2).take (Tryz.prog.cellsOf 28)) = some v := k 2 _ rfl
  have p : DataW.trod _ pg0 W _ _ _ A 55 (([c, d, g, i, j].drop 4).take (Tryz.prog.cellsOf 55)) = some w := k 3 _ rfl
  simp only [BE, IR, P7, List.drop, List.take] at m n o p
  obtain ⟨s2, E, R⟩ := LL _ _ _ _ _ _ _ _ _ m
  simp only [bi, dy] at E
  obtain rfl := E
  obtain ⟨s3, G, T⟩ := LL _ _ _ _ _ _ _ _ _ n
  simp only [bi, dy] at G
  obtain rfl := G
  obtain ⟨s4, I, U⟩ := Eo _ _ _ _ _ _ _ _ _ o
  simp only [iT, bi, dy] at I
  obtain ⟨rfl, rfl⟩ := I
  obtain ⟨v5, P, J, q5, Y⟩ := EK GL (by decide) Tryz.underlying55 (fun f cs y h Z => ih _ _ _ _ _ _ _ _ _ h (by have := SQ s 3 rfl; omega)) p
  simp only [bi, dy] at J
  obtain rfl := J
  have Q := aw (fun z => Rows.uptoBulk z.1) s
  refine ⟨⟨s2, s3, s4, P⟩, ju.mk ⟨_, rfl, q5⟩, ?_⟩
  have Z := I7 P
  simp only [List.map, Rows.uptoBulk, Rows.uptoBulkAll, xJ] at R T U Y Q ⊢
  rw [Ns]
  simp only
  omega
theorem QG : OU pg0 57 ju F8 := fun H a W base sp c fuel cs x h => QJ _ H a W base sp c fuel cs x h (bk _)
def we (x : sK) : Nat := CG xJ x.O.jL + CG B2 x.O.jQ + 1 + CG xS x.pa + F8 x.F + x.rU.size + 1
theorem Tg : Tryz.prog.readableRec 74 = true ∧ 74 < Tryz.prog.types.size := ⟨by kernel_rfl, fi (by kernel_rfl)⟩
theorem I6 (c : iS) : w7 c = xS c := by unfold w7 xS xJ; omega
theorem Og (x : sK) (h : we x ≤ 1048576) : pu x = some true := by
 unfold we at h
 have i := Nl x.F
 have g := xp x.F
 refine DD x.O x.pa x.F x.rU (fun s d => ?_) (by have := GW B2 x.O.jQ; omega) (by have := GW xS x.pa; omega) (fun c a => by have := JK (sz := xS) a; rw [I6]; omega) (by unfold Gd; omega) (by rw [oG]; omega)
 have := JK (sz := B2) d
 have e : B2 s = xS s.iS + F7 s.iV := rfl
 rw [I6]; omega
theorem own : ownKnob Tryz.prog.godebug = none := by kernel_rfl
theorem OD : laidOutB pg0 = true := by kernel_rfl
theorem Ow (H : Type) (enc : TypeId × Value → H) (W : World) (base : Nat) (args : Array Value) (ds gs : List (DataW H)) (before : List MemPlace) (L : ∀ (j : Nat) t v, Tryz.f7.params[j]? = some t → args[j]? = some v → Value.okWide pg0 W .any base t v) (hW : DataW.Whole enc pg0 Tryz.f7.params.toList Rows.outcomeChecksSpec.vars false W args.toList ds gs before) (hk : Rows.uptoSmall H (ds ++ gs) = true) :
  Calls pg0 7 args W fun e W' => ∃ v, e = .returned v ∧ Rows.outcomeChecksSpec.post enc pg0 Tryz.f7 false true false false W args v W' := by
 have c5 := hW
 obtain ⟨p, q, c4, hV, rfl, cp, cS⟩ := hW
 have hA : DataW.TrodAll enc pg0 W 0 (fun _ => true) true Tryz.f7.params.toList args.toList ds p := c4
 have hr : ∀ t ∈ Tryz.f7.params.toList, Tryz.prog.readableRec t = true ∧ t < Tryz.prog.types.size := by
  rw [Tryz.params7]
  intro t ht
  simp only [ay, cj, eo] at ht
  subst ht
  exact Tg
 rw [Tryz.params7] at hA L
 obtain ⟨v0, e0, d0, ch, p0, q0, c6, rfl, rfl, h0, r0⟩ := trodAll_cons hA
 obtain ⟨rfl, rfl, rfl⟩ := trodAll_nil r0
 obtain rfl : args = #[v0] := by cases args; simp_all
 obtain ⟨rfl, rfl⟩ := trodVars_none hV
 have k0 := L 0 74 v0 rfl rfl
 obtain ⟨a1, rfl, _⟩ := okWide_struct Tryz.underlying74 k0
 obtain ⟨cm, af⟩ := h0
 obtain ⟨ca, rfl⟩ : ∃ l : List Value, a1 = l.toArray := ⟨a1.toList, by simp⟩
 change DataW.trod _ _ _ _ _ _ _ _ ca = some _ at af
 obtain ⟨e1, n6, _, c8, c7, M, u⟩ := de Tryz.underlying74 af
 obtain ⟨ao, av, aE, b0, rfl⟩ := OA M
 obtain ⟨d, g, a, c, i, m, n, o, s, k, h, rfl⟩ := RQ (c7.trans PL)
 have x : DataW.trod _ pg0 W _ _ _ n6 64 (([d, g, a, c, i, m, n, o, s, k, h].drop 0).take (Tryz.prog.cellsOf 64)) = some ao := u 0 _ rfl
 have y : DataW.trod _ pg0 W _ _ _ n6 22 (([d, g, a, c, i, m, n, o, s, k, h].drop 4).take (Tryz.prog.cellsOf 22)) = some av := u 1 _ rfl
 have A : DataW.trod _ pg0 W _ _ _ n6 57 (([d, g, a, c, i, m, n, o, s, k, h].drop 5).take (Tryz.prog.cellsOf 57)) = some aE := u 2 _ rfl
 have D : DataW.trod _ pg0 W _ _ _ n6 9 (([d, g, a, c, i, m, n, o, s, k, h].drop 10).take (Tryz.prog.cellsOf 9)) = some b0 := u 3 _ rfl
 simp only [Py, GL, P9, Gb, List.drop, List.take] at x y A D
 obtain ⟨e2, n7, _, c9, cs, P, w⟩ := de Tryz.underlying64 x
 obtain ⟨b1, b2, b3, b4, rfl⟩ := OA P
 have E : DataW.trod _ pg0 W _ _ _ n7 3 (([d, g, a, c].drop 0).take (Tryz.prog.cellsOf 3)) = some b1 := w 0 _ rfl
 have G : DataW.trod _ pg0 W _ _ _ n7 62 (([d, g, a, c].drop 1).take (Tryz.prog.cellsOf 62)) = some b2 := w 1 _ rfl
 have I : DataW.trod _ pg0 W _ _ _ n7 34 (([d, g, a, c].drop 2).take (Tryz.prog.cellsOf 34)) = some b3 := w 2 _ rfl
 have J : DataW.trod _ pg0 W _ _ _ n7 45 (([d, g, a, c].drop 3).take (Tryz.prog.cellsOf 45)) = some b4 := w 3 _ rfl
 simp only [IR, PH, P2, PO, List.drop, List.take] at E G I J
 obtain ⟨s8, e8, b8⟩ := LL _ _ _ _ _ _ _ _ _ E
 simp only [bi, dy] at e8
 obtain rfl := e8
 obtain ⟨s9, e9, b9⟩ := RP _ _ _ _ _ _ _ _ _ G
 simp only [bi, dy] at e9
 obtain rfl := e9
 obtain ⟨v10, R, a6, cb, b5⟩ := Bf BE (by decide) Eo.rel Tryz.underlying34 I
 simp only [bi, dy] at a6
 obtain rfl := a6
 obtain ⟨v11, T, a7, cc, ba⟩ := Bf IE (by decide) Ry.rel Tryz.underlying45 J
 simp only [bi, dy] at a7
 obtain rfl := a7
 have b7 := aw (fun z => Rows.uptoBulk z.1) c9
 obtain ⟨v12, U, a8, cf, bs⟩ := Bf Ff (by decide) No.rel Tryz.underlying22 y
 simp only [bi, dy] at a8
 obtain rfl := a8
 obtain ⟨Y, Q, c0⟩ := QG _ _ _ _ _ _ _ _ _ A
 obtain ⟨dk, ab, Q⟩ := Q.out
 simp only [bi, dy] at ab
 obtain ⟨rfl, rfl, rfl, rfl, rfl⟩ := ab
 obtain ⟨Z, ad, c3⟩ := GP _ _ _ _ _ _ _ _ _ D
 simp only [bi, dy] at ad
 obtain rfl := ad
 have b6 := aw (fun z => Rows.uptoBulk z.1) c8
 simp only [List.map, Rows.uptoBulk, Rows.uptoBulkAll] at b8 b9 b5 ba b7 bs c0 c3 b6
 have z0 : we (⟨⟨s8, s9, R, T⟩, U, Y, Z⟩ : sK) ≤ Rows.uptoBulk d0 := by simp only [we]; omega
 have hB : Rows.uptoBulkAll ([d0] ++ []) ≤ 1048576 := fi hk
 simp only [bu, Rows.uptoBulkAll] at hB
 have hm : pu (⟨⟨s8, s9, R, T⟩, U, Y, Z⟩ : sK) = some true := Og _ (by omega)
 have hg := BH (⟨⟨s8, s9, R, T⟩, U, Y, Z⟩ : sK) a c i k true W cb cc cf Q hm
 refine bp hg fun e W' ⟨he, hx⟩ => ?_
 subst he
 exact ⟨_, rfl, Lq OD hr rfl c5 hx (fun _ _ _ => trodAll_cons_mk (shut_bool Tryz.underlying4 _) trodAll_mk0) rfl rfl (ok_one (by kernel_rfl) rfl (okWide_bool_mk Tryz.underlying4 _))⟩
set_option maxRecDepth 100000 in
theorem Q3 (os : Os) (started : os.Started) (H : Type) (enc : TypeId × Value → H) (F : Stop.Interp) :
  ReturnsInHanded {} Tryz.checked os 7 .any ((Rows.OpenSpec.upto Rows.outcomeChecksSpec).pre6 enc pg0 Tryz.f7 Rows.outcomeChecksUptoRow.domain false) (((Rows.OpenSpec.upto Rows.outcomeChecksSpec).at F).post enc pg0 Tryz.f7 false true false false) := by
 refine returnsInHanded_of_cond (C := Tryz.checked) (s := Rows.OpenSpec.upto Rows.outcomeChecksSpec) (k := Rows.uptoSmall) rfl own started (by kernel_rfl) Tryz.func7
  (OpenSpec.witness (enc := enc) (C := Tryz.checked) (s := Rows.OpenSpec.upto Rows.outcomeChecksSpec) (k := Rows.uptoSmall) rfl false ⟨#[], #[.agg #[.int .i64 0, .int .i64 0, .slice none 0 0, .slice none 0 0, .slice none 0 0, .int .i64 0, .int .i64 0, .string ⟨#[]⟩, .string ⟨#[]⟩, .slice none 0 0, .string ⟨#[]⟩]], []⟩ 8 (by kernel_rfl) (by kernel_rfl) (by kernel_rfl)
   (x := ([.agg [.agg [.lit (.int .i64 0), .lit (.int .i64 0), .nil, .nil], .nil, .agg [.lit (.int .i64 0), .lit (.int .i64 0), .agg [.lit (.string []), .lit (.string [])], .nil], .lit (.string [])]], [], [])) (by kernel_rfl) rfl (by kernel_rfl)) ?_
 intro W base args c gs before a d _ hk _
 exact Ow H enc W base args c gs before a d hk
theorem Sc {a b : Bool} (c : a = true) (d : b = true) : (a && b) = true := by rw [c, d]; rfl
set_option maxHeartbeats 40000000 in
theorem Pu : joinedFacts Tryz.checked.prog 7 Tryz.f7 (Rows.OpenSpec.upto Rows.outcomeChecksSpec).bare Rows.outcomeChecksUptoRow = true := by
 unfold joinedFacts
 repeat' with_reducible refine Sc ?_ ?_
 all_goals as_aux_lemma => kernel_rfl
theorem proved : Rows.OutcomeChecksUptoSaid :=
 OpenClaim.holds_of_cond 7 Tryz.f7 rfl rfl rfl rfl rfl rfl rfl ⟨rfl, rfl, rfl, rfl, rfl⟩ rfl rfl rfl rfl rfl (by kernel_rfl) Tryz.func7 Pu
  (fi (by kernel_rfl)) (by unfold Func.isWrapper; first | (rw [aq (by decide +kernel)]; kernel_rfl) | (rw [ap (by decide +kernel)]; exact ⟨rfl, rfl⟩))
  (fun os started H enc _ F => Q3 os started H enc F)
end Go.Proofs.YtbnbdigcbldfhaaGreat
