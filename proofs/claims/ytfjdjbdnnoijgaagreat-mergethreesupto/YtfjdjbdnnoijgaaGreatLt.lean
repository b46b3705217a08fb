/- a part of a proof of MergeThrees -/
import Derived.Test.YtfjdjbdnnoijgaaGreatLf
import Derived.Test.YtfjdjbdnnoijgaaGreatG6W4
import Derived.Test.YtfjdjbdnnoijgaaGreatQc
set_option linter.all false
namespace Go.Proofs.YtfjdjbdnnoijgaaGreat
set_option maxRecDepth 10000
open Go.ChangeShapes Go.WideShapes Go.ChangeAt Go.RowKit
open Go.Proofs.YtfjdjbdnnoijgaaGreat Go.Proofs.YtfjdjbdnnoijgaaGreat.Lf
theorem len2 {α : Type} {l : List α} (h : l.length = 2) : ∃ a0 a1, l = [a0, a1] := by
  match l, h with
  | [a0, a1], _ => exact ⟨a0, a1, rfl⟩
theorem len6 {α : Type} {l : List α} (h : l.length = 6) : ∃ a0 a1 a2 a3 a4 a5, l = [a0, a1, a2, a3, a4, a5] := by
  match l, h with
  | [a0, a1, a2, a3, a4, a5], _ => exact ⟨a0, a1, a2, a3, a4, a5, rfl⟩
theorem len9 {α : Type} {l : List α} (h : l.length = 9) : ∃ a0 a1 a2 a3 a4 a5 a6 a7 a8, l = [a0, a1, a2, a3, a4, a5, a6, a7, a8] := by
  match l, h with
  | [a0, a1, a2, a3, a4, a5, a6, a7, a8], _ => exact ⟨a0, a1, a2, a3, a4, a5, a6, a7, a8, rfl⟩
theorem cells47 : Tryz.prog.cellsOf 47 = 2 := by kernel_rfl
theorem cells83 : Tryz.prog.cellsOf 83 = 9 := by kernel_rfl
theorem cells9 : Tryz.prog.cellsOf 9 = 1 := by kernel_rfl
theorem cells3 : Tryz.prog.cellsOf 3 = 1 := by kernel_rfl
theorem dec_string9 : Dec Tryz.prog 9 (fun s : ByteArray => [.string s]) (fun s => s.size) := dec_string Tryz.underlying9
theorem dec_int3 : Dec Tryz.prog 3 (fun n : Int => [.int .i64 n]) (fun _ => 0) := dec_int Tryz.underlying3
theorem dec_Role : Dec Tryz.prog 47 encRole (fun r => r.Owner.size + r.Word.size) := by
  intro H eh W base sp hd fuel cs x h
  obtain ⟨xs, n, _, rfl, hl, hlen, hf⟩ := DataW.trod_struct Tryz.underlying47 h
  obtain ⟨y0, y1, rfl⟩ := len2 hlen
  obtain ⟨c0, c1, rfl⟩ := len2 (hl.trans cells47)
  have h0 : DataW.trod eh Tryz.prog W base sp hd n 9 (([c0, c1].drop 0).take (Tryz.prog.cellsOf 9)) = some y0 := hf 0 _ rfl
  have h1 : DataW.trod eh Tryz.prog W base sp hd n 9 (([c0, c1].drop 1).take (Tryz.prog.cellsOf 9)) = some y1 := hf 1 _ rfl
  simp only [cells9, List.drop, List.take] at h0 h1
  obtain ⟨s0, e0, b0⟩ := dec_string9 _ _ _ _ _ _ _ _ _ h0
  obtain ⟨s1, e1, b1⟩ := dec_string9 _ _ _ _ _ _ _ _ _ h1
  simp only [encRole, List.cons.injEq, and_true] at e0 e1
  obtain rfl := e0
  obtain rfl := e1
  refine ⟨⟨s0, s1⟩, rfl, ?_⟩
  simp only [List.map, Rows.uptoBulk, Rows.uptoBulkAll] at b0 b1 ⊢
  omega
theorem dec_Cred : Dec Tryz.prog 83 encCred sizeC := by
  intro H eh W base sp hd fuel cs x h
  obtain ⟨xs, n, _, rfl, hl, hlen, hf⟩ := DataW.trod_struct Tryz.underlying83 h
  obtain ⟨y0, y1, y2, y3, y4, y5, rfl⟩ := len6 hlen
  obtain ⟨c0, c1, c2, c3, c4, c5, c6, c7, c8, rfl⟩ := len9 (hl.trans cells83)
  have h0 : DataW.trod eh Tryz.prog W base sp hd n 3 (([c0, c1, c2, c3, c4, c5, c6, c7, c8].drop 0).take (Tryz.prog.cellsOf 3)) = some y0 := hf 0 _ rfl
  have h1 : DataW.trod eh Tryz.prog W base sp hd n 47 (([c0, c1, c2, c3, c4, c5, c6, c7, c8].drop 1).take (Tryz.prog.cellsOf 47)) = some y1 := hf 1 _ rfl
  have h2 : DataW.trod eh Tryz.prog W base sp hd n 9 (([c0, c1, c2, c3, c4, c5, c6, c7, c8].drop 3).take (Tryz.prog.cellsOf 9)) = some y2 := hf 2 _ rfl
  have h3 : DataW.trod eh Tryz.prog W base sp hd n 47 (([c0, c1, c2, c3, c4, c5, c6, c7, c8].drop 4).take (Tryz.prog.cellsOf 47)) = some y3 := hf 3 _ rfl
  have h4 : DataW.trod eh Tryz.prog W base sp hd n 47 (([c0, c1, c2, c3, c4, c5, c6, c7, c8].drop 6).take (Tryz.prog.cellsOf 47)) = some y4 := hf 4 _ rfl
  have h5 : DataW.trod eh Tryz.prog W base sp hd n 9 (([c0, c1, c2, c3, c4, c5, c6, c7, c8].drop 8).take (Tryz.prog.cellsOf 9)) = some y5 := hf 5 _ rfl
  simp only [cells3, cells47, cells9, List.drop, List.take] at h0 h1 h2 h3 h4 h5
  obtain ⟨s0, e0, b0⟩ := dec_int3 _ _ _ _ _ _ _ _ _ h0
  obtain ⟨s1, e1, b1⟩ := dec_Role _ _ _ _ _ _ _ _ _ h1
  obtain ⟨s2, e2, b2⟩ := dec_string9 _ _ _ _ _ _ _ _ _ h2
  obtain ⟨s3, e3, b3⟩ := dec_Role _ _ _ _ _ _ _ _ _ h3
  obtain ⟨s4, e4, b4⟩ := dec_Role _ _ _ _ _ _ _ _ _ h4
  obtain ⟨s5, e5, b5⟩ := dec_string9 _ _ _ _ _ _ _ _ _ h5
  simp only [encRole, List.cons.injEq, and_true] at e0 e1 e2 e3 e4 e5
  obtain rfl := e0
  obtain ⟨rfl, rfl⟩ := e1
  obtain rfl := e2
  obtain ⟨rfl, rfl⟩ := e3
  obtain ⟨rfl, rfl⟩ := e4
  obtain rfl := e5
  refine ⟨⟨s0, s1, s2, s3, s4, s5⟩, rfl, ?_⟩
  simp only [List.map, Rows.uptoBulk, Rows.uptoBulkAll, sizeC] at b0 b1 b2 b3 b4 b5 ⊢
  omega
theorem own : ownKnob Tryz.prog.godebug = none := by kernel_rfl
theorem laid_out : laidOutB Tryz.prog = true := by kernel_rfl
theorem rd22 : Tryz.prog.readableRec 22 = true ∧ 22 < Tryz.prog.types.size := ⟨by kernel_rfl, of_decide_eq_true (by kernel_rfl)⟩
theorem contract (H : Type) (enc : TypeId × Value → H) (W : World) (base : Nat) (args : Array Value) (ds gs : List (DataW H)) (before : List MemPlace)
    (hval : ∀ (j : Nat) t v, Tryz.f6.params[j]? = some t → args[j]? = some v → Value.okWide Tryz.prog W .any base t v)
    (hW : DataW.Whole enc Tryz.prog Tryz.f6.params.toList Rows.mergeThreesSpec.vars false W args.toList ds gs before) (hk : Rows.uptoSmall H (ds ++ gs) = true) :
    Calls Tryz.prog 6 args W fun e W' => ∃ v, e = .returned v ∧ Rows.mergeThreesSpec.post enc Tryz.prog Tryz.f6 false true false false W args v W' := by
  have hW' := hW
  obtain ⟨p, q, hA0, hV, rfl, hfz, hnd⟩ := hW
  have hA : DataW.TrodAll enc Tryz.prog W 0 (fun _ => true) true Tryz.f6.params.toList args.toList ds p := hA0
  have hr : ∀ t ∈ Tryz.f6.params.toList, Tryz.prog.readableRec t = true ∧ t < Tryz.prog.types.size := by
    rw [Tryz.params6]
    intro t ht
    simp only [List.mem_cons, List.not_mem_nil, or_false] at ht
    rcases ht with rfl | rfl | rfl
    · exact rd22
    · exact rd22
    · exact rd22
  rw [Tryz.params6] at hA hval
  obtain ⟨v0, vs0, d0, ds0, p0, q0, hargs, rfl, rfl, h0, r0⟩ := trodAll_cons hA
  obtain ⟨v1, vs1, d1, ds1, p1, q1, rfl, rfl, rfl, h1, r1⟩ := trodAll_cons r0
  obtain ⟨v2, vs2, d2, ds2, p2, q2, rfl, rfl, rfl, h2, r2⟩ := trodAll_cons r1
  obtain ⟨rfl, rfl, rfl⟩ := trodAll_nil r2
  obtain rfl : args = #[v0, v1, v2] := by cases args; simp_all
  obtain ⟨rfl, rfl⟩ := trodVars_none hV
  have k0 := hval 0 22 v0 rfl rfl
  have k1 := hval 1 22 v1 rfl rfl
  have k2 := hval 2 22 v2 rfl rfl
  obtain ⟨l, s0, n0, z0⟩ := sl_of_trod (k := 9) cells83 (by decide) dec_Cred Tryz.underlying22 k0 h0
  obtain ⟨a, s1, n1, z1⟩ := sl_of_trod (k := 9) cells83 (by decide) dec_Cred Tryz.underlying22 k1 h1
  obtain ⟨b, s2, n2, z2⟩ := sl_of_trod (k := 9) cells83 (by decide) dec_Cred Tryz.underlying22 k2 h2
  have hB : Rows.uptoBulkAll ([d0, d1, d2] ++ []) ≤ 1048576 := of_decide_eq_true hk
  simp only [List.append_nil, Rows.uptoBulkAll] at hB
  have hm := mergeThrees_main first41 l a b (by omega) (by omega) (by omega) (fun c hc => by have := z0 c hc; omega) (fun c hc => by have := z1 c hc; omega) (fun c hc => by have := z2 c hc; omega)
  have hg := w_law41_MergeThrees v0 l v1 a v2 b true W s0 s1 s2 hm
  refine Calls.mono hg fun e W' ⟨he, hx⟩ => ?_
  subst he
  exact ⟨_, rfl, post_of_ex laid_out hr rfl hW' hx (fun _ _ _ => trodAll_cons_mk (shut_bool Tryz.underlying4 _) trodAll_mk0) rfl rfl (ok_one (by kernel_rfl) rfl (okWide_bool_mk Tryz.underlying4 _))⟩
set_option maxRecDepth 100000 in
theorem lifted (os : Os) (started : os.Started) (H : Type) (enc : TypeId × Value → H) (F : Stop.Interp) :
    ReturnsInHanded {} Tryz.checked os 6 .any ((Rows.OpenSpec.upto Rows.mergeThreesSpec).pre6 enc Tryz.prog Tryz.f6 Rows.mergeThreesUptoRow.domain false) (((Rows.OpenSpec.upto Rows.mergeThreesSpec).at F).post enc Tryz.prog Tryz.f6 false true false false) := by
  refine returnsInHanded_of_cond (C := Tryz.checked) (s := Rows.OpenSpec.upto Rows.mergeThreesSpec) (k := Rows.uptoSmall) rfl own started (by kernel_rfl) Tryz.func6
    (OpenSpec.witness (enc := enc) (C := Tryz.checked) (s := Rows.OpenSpec.upto Rows.mergeThreesSpec) (k := Rows.uptoSmall) rfl false ⟨#[], #[.slice none 0 0, .slice none 0 0, .slice none 0 0], []⟩ 8 (by kernel_rfl) (by kernel_rfl) (by kernel_rfl)
      (x := ([.nil, .nil, .nil], [], [])) (by kernel_rfl) rfl (by kernel_rfl)) ?_
  intro W base args ds gs before hval hW _ hk _
  exact contract H enc W base args ds gs before hval hW hk
theorem proved : Rows.MergeThreesUptoSaid :=
  OpenClaim.holds_of_cond 6 Tryz.f6 rfl rfl rfl rfl rfl rfl rfl ⟨rfl, rfl, rfl, rfl, rfl⟩ rfl rfl rfl rfl rfl (by kernel_rfl) Tryz.func6 (by kernel_rfl)
    (of_decide_eq_true (by kernel_rfl)) (by unfold Func.isWrapper; first | (rw [if_pos (by decide +kernel)]; kernel_rfl) | (rw [if_neg (by decide +kernel)]; exact ⟨rfl, rfl⟩))
    (fun os started H enc _ F => lifted os started H enc F)
end Go.Proofs.YtfjdjbdnnoijgaaGreat
