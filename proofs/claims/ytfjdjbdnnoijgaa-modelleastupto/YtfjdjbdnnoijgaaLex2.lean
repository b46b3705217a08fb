/- a part of a proof of ModelLeast -/
import Derived.Test.YtfjdjbdnnoijgaaLfx2
import Derived.Test.YtfjdjbdnnoijgaaGC4W3x2
import Derived.Test.YtfjdjbdnnoijgaaRbx2
set_option linter.all false
namespace Go.Proofs.Ytfjdjbdnnoijgaa
set_option maxRecDepth 10000
open Go.ChangeShapes Go.WideShapes Go.ChangeAt Go.RowKit
open Go.Proofs.Ytfjdjbdnnoijgaa Go.Proofs.Ytfjdjbdnnoijgaa.Lf
theorem len2 {α : Type} {l : List α} (h : l.length = 2) : ∃ a0 a1, l = [a0, a1] := by
  match l, h with
  | [a0, a1], _ => exact ⟨a0, a1, rfl⟩
theorem len6 {α : Type} {l : List α} (h : l.length = 6) : ∃ a0 a1 a2 a3 a4 a5, l = [a0, a1, a2, a3, a4, a5] := by
  match l, h with
  | [a0, a1, a2, a3, a4, a5], _ => exact ⟨a0, a1, a2, a3, a4, a5, rfl⟩
theorem len9 {α : Type} {l : List α} (h : l.length = 9) : ∃ a0 a1 a2 a3 a4 a5 a6 a7 a8, l = [a0, a1, a2, a3, a4, a5, a6, a7, a8] := by
  match l, h with
  | [a0, a1, a2, a3, a4, a5, a6, a7, a8], _ => exact ⟨a0, a1, a2, a3, a4, a5, a6, a7, a8, rfl⟩
theorem cells34 : Try.prog.cellsOf 34 = 2 := by kernel_rfl
theorem cells36 : Try.prog.cellsOf 36 = 9 := by kernel_rfl
theorem cells9 : Try.prog.cellsOf 9 = 1 := by kernel_rfl
theorem cells3 : Try.prog.cellsOf 3 = 1 := by kernel_rfl
theorem dec_string9 : Dec Try.prog 9 (fun s : ByteArray => [.string s]) (fun s => s.size) := dec_string Try.underlying9
theorem dec_int3 : Dec Try.prog 3 (fun n : Int => [.int .i64 n]) (fun _ => 0) := dec_int Try.underlying3
theorem dec_Role : Dec Try.prog 34 encRole (fun r => r.Owner.size + r.Word.size) := by
  intro H eh W base sp hd fuel cs x h
  obtain ⟨xs, n, _, rfl, hl, hlen, hf⟩ := DataW.trod_struct Try.underlying34 h
  obtain ⟨y0, y1, rfl⟩ := len2 hlen
  obtain ⟨c0, c1, rfl⟩ := len2 (hl.trans cells34)
  have h0 : DataW.trod eh Try.prog W base sp hd n 9 (([c0, c1].drop 0).take (Try.prog.cellsOf 9)) = some y0 := hf 0 _ rfl
  have h1 : DataW.trod eh Try.prog W base sp hd n 9 (([c0, c1].drop 1).take (Try.prog.cellsOf 9)) = some y1 := hf 1 _ rfl
  simp only [cells9, List.drop, List.take] at h0 h1
  obtain ⟨s0, e0, b0⟩ := dec_string9 _ _ _ _ _ _ _ _ _ h0
  obtain ⟨s1, e1, b1⟩ := dec_string9 _ _ _ _ _ _ _ _ _ h1
  simp only [encRole, List.cons.injEq, and_true] at e0 e1
  obtain rfl := e0
  obtain rfl := e1
  refine ⟨⟨s0, s1⟩, rfl, ?_⟩
  simp only [List.map, Rows.uptoBulk, Rows.uptoBulkAll] at b0 b1 ⊢
  omega
theorem dec_Cred : Dec Try.prog 36 encCred sizeC := by
  intro H eh W base sp hd fuel cs x h
  obtain ⟨xs, n, _, rfl, hl, hlen, hf⟩ := DataW.trod_struct Try.underlying36 h
  obtain ⟨y0, y1, y2, y3, y4, y5, rfl⟩ := len6 hlen
  obtain ⟨c0, c1, c2, c3, c4, c5, c6, c7, c8, rfl⟩ := len9 (hl.trans cells36)
  have h0 : DataW.trod eh Try.prog W base sp hd n 3 (([c0, c1, c2, c3, c4, c5, c6, c7, c8].drop 0).take (Try.prog.cellsOf 3)) = some y0 := hf 0 _ rfl
  have h1 : DataW.trod eh Try.prog W base sp hd n 34 (([c0, c1, c2, c3, c4, c5, c6, c7, c8].drop 1).take (Try.prog.cellsOf 34)) = some y1 := hf 1 _ rfl
  have h2 : DataW.trod eh Try.prog W base sp hd n 9 (([c0, c1, c2, c3, c4, c5, c6, c7, c8].drop 3).take (Try.prog.cellsOf 9)) = some y2 := hf 2 _ rfl
  have h3 : DataW.trod eh Try.prog W base sp hd n 34 (([c0, c1, c2, c3, c4, c5, c6, c7, c8].drop 4).take (Try.prog.cellsOf 34)) = some y3 := hf 3 _ rfl
  have h4 : DataW.trod eh Try.prog W base sp hd n 34 (([c0, c1, c2, c3, c4, c5, c6, c7, c8].drop 6).take (Try.prog.cellsOf 34)) = some y4 := hf 4 _ rfl
  have h5 : DataW.trod eh Try.prog W base sp hd n 9 (([c0, c1, c2, c3, c4, c5, c6, c7, c8].drop 8).take (Try.prog.cellsOf 9)) = some y5 := hf 5 _ rfl
  simp only [cells3, cells34, cells9, List.drop, List.take] at h0 h1 h2 h3 h4 h5
  obtain ⟨s0, e0, b0⟩ := dec_int3 _ _ _ _ _ _ _ _ _ h0
  obtain ⟨s1, e1, b1⟩ := dec_Role _ _ _ _ _ _ _ _ _ h1
  obtain ⟨s2, e2, b2⟩ := dec_string9 _ _ _ _ _ _ _ _ _ h2
  obtain ⟨s3, e3, b3⟩ := dec_Role _ _ _ _ _ _ _ _ _ h3
  obtain ⟨s4, e4, b4⟩ := dec_Role _ _ _ _ _ _ _ _ _ h4
  obtain ⟨s5, e5, b5⟩ := dec_string9 _ _ _ _ _ _ _ _ _ h5
  simp only [encRole, List.cons.injEq, and_true] at e0 e1 e2 e3 e4 e5
  obtain rfl := e0
  obtain ⟨rfl, rfl⟩ := e1
  obtain rfl := e2
  obtain ⟨rfl, rfl⟩ := e3
  obtain ⟨rfl, rfl⟩ := e4
  obtain rfl := e5
  refine ⟨⟨s0, s1, s2, s3, s4, s5⟩, rfl, ?_⟩
  simp only [List.map, Rows.uptoBulk, Rows.uptoBulkAll, sizeC] at b0 b1 b2 b3 b4 b5 ⊢
  omega
theorem own : ownKnob Try.prog.godebug = none := by kernel_rfl
theorem laid_out : laidOutB Try.prog = true := by kernel_rfl
theorem rd24 : Try.prog.readableRec 24 = true ∧ 24 < Try.prog.types.size := ⟨by kernel_rfl, of_decide_eq_true (by kernel_rfl)⟩
theorem rd36 : Try.prog.readableRec 36 = true ∧ 36 < Try.prog.types.size := ⟨by kernel_rfl, of_decide_eq_true (by kernel_rfl)⟩
theorem contract (H : Type) (enc : TypeId × Value → H) (W : World) (base : Nat) (args : Array Value) (ds gs : List (DataW H)) (before : List MemPlace)
    (hval : ∀ (j : Nat) t v, Try.f4.params[j]? = some t → args[j]? = some v → Value.okWide Try.prog W .any base t v)
    (hW : DataW.Whole enc Try.prog Try.f4.params.toList Rows.modelLeastSpec.vars false W args.toList ds gs before) (hk : Rows.uptoSmall H (ds ++ gs) = true) :
    Calls Try.prog 4 args W fun e W' => ∃ v, e = .returned v ∧ Rows.modelLeastSpec.post enc Try.prog Try.f4 false true false false W args v W' := by
  have hW' := hW
  obtain ⟨p, q, hA0, hV, rfl, hfz, hnd⟩ := hW
  have hA : DataW.TrodAll enc Try.prog W 0 (fun _ => true) true Try.f4.params.toList args.toList ds p := hA0
  have hr : ∀ t ∈ Try.f4.params.toList, Try.prog.readableRec t = true ∧ t < Try.prog.types.size := by
    rw [Try.params4]
    intro t ht
    simp only [List.mem_cons, List.not_mem_nil, or_false] at ht
    rcases ht with rfl | rfl
    · exact rd24
    · exact rd36
  rw [Try.params4] at hA hval
  obtain ⟨v0, vs0, d0, ds0, p0, q0, hargs, rfl, rfl, h0, r0⟩ := trodAll_cons hA
  obtain ⟨v1, vs1, d1, ds1, p1, q1, rfl, rfl, rfl, h1, r1⟩ := trodAll_cons r0
  obtain ⟨rfl, rfl, rfl⟩ := trodAll_nil r1
  obtain rfl : args = #[v0, v1] := by cases args; simp_all
  obtain ⟨rfl, rfl⟩ := trodVars_none hV
  have k0 := hval 0 24 v0 rfl rfl
  have k1 := hval 1 36 v1 rfl rfl
  obtain ⟨l, s0, n0, z0⟩ := sl_of_trod (k := 9) cells36 (by decide) dec_Cred Try.underlying24 k0 h0
  obtain ⟨ca, rfl, _⟩ := okWide_struct Try.underlying36 k1
  obtain ⟨fu1, hf1⟩ := h1
  obtain ⟨r, er, zr⟩ := dec_Cred _ _ _ _ _ _ _ _ _ hf1
  simp only [Value.cells] at er
  obtain rfl : ca = (encCred r).toArray := by rw [← er]
  have hB : Rows.uptoBulkAll ([d0, d1] ++ []) ≤ 1048576 := of_decide_eq_true hk
  simp only [List.append_nil, Rows.uptoBulkAll] at hB
  have hm := modelLeast_main first08 l r (by omega) (fun c hc => by have := z0 c hc; omega) (by simp only at zr; omega)
  have hg := w_law08_ModelLeast v0 l r true W s0 hm
  refine Calls.mono hg fun e W' ⟨he, hx⟩ => ?_
  subst he
  exact ⟨_, rfl, post_of_ex laid_out hr rfl hW' hx (fun _ _ _ => trodAll_cons_mk (shut_bool Try.underlying4 _) trodAll_mk0) rfl rfl (ok_one (by kernel_rfl) rfl (okWide_bool_mk Try.underlying4 _))⟩
set_option maxRecDepth 100000 in
theorem lifted (os : Os) (started : os.Started) (H : Type) (enc : TypeId × Value → H) (F : Stop.Interp) :
    ReturnsInHanded {} Try.checked os 4 .any ((Rows.OpenSpec.upto Rows.modelLeastSpec).pre6 enc Try.prog Try.f4 Rows.modelLeastUptoRow.domain false) (((Rows.OpenSpec.upto Rows.modelLeastSpec).at F).post enc Try.prog Try.f4 false true false false) := by
  refine returnsInHanded_of_cond (C := Try.checked) (s := Rows.OpenSpec.upto Rows.modelLeastSpec) (k := Rows.uptoSmall) rfl own started (by kernel_rfl) Try.func4
    (OpenSpec.witness (enc := enc) (C := Try.checked) (s := Rows.OpenSpec.upto Rows.modelLeastSpec) (k := Rows.uptoSmall) rfl false ⟨#[], #[.slice none 0 0, .agg #[.int .i64 0, .string ⟨#[]⟩, .string ⟨#[]⟩, .string ⟨#[]⟩, .string ⟨#[]⟩, .string ⟨#[]⟩, .string ⟨#[]⟩, .string ⟨#[]⟩, .string ⟨#[]⟩]], []⟩ 8 (by kernel_rfl) (by kernel_rfl) (by kernel_rfl)
      (x := ([.nil, .agg [.lit (.int .i64 0), .agg [.lit (.string []), .lit (.string [])], .lit (.string []), .agg [.lit (.string []), .lit (.string [])], .agg [.lit (.string []), .lit (.string [])], .lit (.string [])]], [], [])) (by kernel_rfl) rfl (by kernel_rfl)) ?_
  intro W base args ds gs before hval hW _ hk _
  exact contract H enc W base args ds gs before hval hW hk
theorem proved : Rows.ModelLeastUptoSaid :=
  OpenClaim.holds_of_cond 4 Try.f4 rfl rfl rfl rfl rfl rfl rfl ⟨rfl, rfl, rfl, rfl, rfl⟩ rfl rfl rfl rfl rfl (by kernel_rfl) Try.func4 (by kernel_rfl)
    (of_decide_eq_true (by kernel_rfl)) (by unfold Func.isWrapper; first | (rw [if_pos (by decide +kernel)]; kernel_rfl) | (rw [if_neg (by decide +kernel)]; exact ⟨rfl, rfl⟩))
    (fun os started H enc _ F => lifted os started H enc F)
end Go.Proofs.Ytfjdjbdnnoijgaa
