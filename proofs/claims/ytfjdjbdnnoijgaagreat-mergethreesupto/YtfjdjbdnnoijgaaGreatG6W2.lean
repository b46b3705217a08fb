/- a part of a proof of MergeThrees -/
import Derived.Test.YtfjdjbdnnoijgaaGreatG6W1
set_option linter.all false
namespace Go.Proofs.YtfjdjbdnnoijgaaGreat
open Go.RowKit
set_option maxRecDepth 10000
theorem w_model_Model_tell_w (b_a0 : Nat) (v_a0_in_ : Value) (a0_in_ : List (Role × (List (ByteArray × Bool)))) (R_a0_in_ : List (Nat × Obj)) (v_a0_creds : Value) (a0_creds : List Cred) (R_a0_creds : List (Nat × Obj)) (v_a0_uses : Value) (a0_uses : List (Role × (List Cred))) (R_a0_uses : List (Nat × Obj)) (v_a0_words : Value) (a0_words : List (ByteArray × (List Cred))) (R_a0_words : List (Nat × Obj)) (v_a0_todo : Value) (a0_todo : List Fact) (R_a0_todo : List (Nat × Obj)) (a0_n : Int) (a1 : Role) (a2 : ByteArray) (r : ((List (Role × (List (ByteArray × Bool)))) × (List Fact) × Int)) (w : World) {μ0 : Mem} (hH : Held ((b_a0, Obj.cells (#[v_a0_in_, v_a0_creds, v_a0_uses, v_a0_words, v_a0_todo, (.int .i64 a0_n)] : Array Value) 134 (0, 0)) :: (R_a0_in_ ++ (R_a0_creds ++ (R_a0_uses ++ (R_a0_words ++ (R_a0_todo ++ [])))))) w) (hN : ((((b_a0, Obj.cells (#[v_a0_in_, v_a0_creds, v_a0_uses, v_a0_words, v_a0_todo, (.int .i64 a0_n)] : Array Value) 134 (0, 0)) :: (R_a0_in_ ++ (R_a0_creds ++ (R_a0_uses ++ (R_a0_words ++ (R_a0_todo ++ [])))))) : List (Nat × Obj)).map (·.1)).Nodup) (hS0 : Sub μ0 (hpx w ((b_a0, Obj.cells (#[v_a0_in_, v_a0_creds, v_a0_uses, v_a0_words, v_a0_todo, (.int .i64 a0_n)] : Array Value) 134 (0, 0)) :: (R_a0_in_ ++ (R_a0_creds ++ (R_a0_uses ++ (R_a0_words ++ (R_a0_todo ++ [])))))))) (h_a0_in_ : DeepE (fun (x : Role) => (.agg (encRole x).toArray)) (MapRow Value.string (fun (x : Bool) => (Value.bool x))) v_a0_in_ a0_in_ R_a0_in_) (h_a0_creds : Row 83 encCred 9 v_a0_creds a0_creds R_a0_creds) (h_a0_uses : DeepE (fun (x : Role) => (.agg (encRole x).toArray)) (Row 83 encCred 9) v_a0_uses a0_uses R_a0_uses) (h_a0_words : DeepE Value.string (Row 83 encCred 9) v_a0_words a0_words R_a0_words) (h_a0_todo : Que 78 encFact 3 v_a0_todo a0_todo R_a0_todo) (hm : m_model_Model_tell_w a0_in_ a0_creds a0_uses a0_words a0_todo a0_n a1 a2 = some r) :
    GivesM true Tryz.prog 146 [(.pointer (some ⟨b_a0, 0, none⟩)), (.agg (encRole a1).toArray), (.string a2)] w ((b_a0, Obj.cells (#[v_a0_in_, v_a0_creds, v_a0_uses, v_a0_words, v_a0_todo, (.int .i64 a0_n)] : Array Value) 134 (0, 0)) :: (R_a0_in_ ++ (R_a0_creds ++ (R_a0_uses ++ (R_a0_words ++ (R_a0_todo ++ [])))))) (fun v L1 W' => ∃ (S1 : List (Nat × Obj)) (y3 : Value) (S4 : List (Nat × Obj)), v = (.tuple #[]) ∧ L1 = ((b_a0, Obj.cells (#[v_a0_in_, v_a0_creds, v_a0_uses, v_a0_words, y3, (.int .i64 (r.2.2))] : Array Value) 134 (0, 0)) :: (S1 ++ (R_a0_creds ++ (R_a0_uses ++ (R_a0_words ++ (S4 ++ [])))))) ∧ DeepE (fun (x : Role) => (.agg (encRole x).toArray)) (MapRow Value.string (fun (x : Bool) => (Value.bool x))) v_a0_in_ r.1 S1 ∧ Que 78 encFact 3 y3 r.2.1 S4) := by
  have hST := (ST.startM (dd := true) hH hN).weak hS0
  unfold m_model_Model_tell_w at hm
  refine calls_of_CW (n := 53) Tryz.func146 rfl rfl (Nat.le_of_ble_eq_true rfl) ?_
  refine CW_seq ?_
  refine CW_region ?_
  refine LE (E_box (v := (.agg (encRole a1).toArray)) hST rfl (fun W2 b1 hST => ?_))
  refine LW_nil ?_
  refine sq_n ?_
  refine CW_seq ?_
  refine CW_seq ?_
  refine PX_start (fun l W => Has μ0 ((b1, Obj.cells ((encRole a1).toArray : Array Value) 47 (0, 0)) :: ((b_a0, Obj.cells (#[v_a0_in_, v_a0_creds, v_a0_uses, v_a0_words, v_a0_todo, (.int .i64 a0_n)] : Array Value) 134 (0, 0)) :: (R_a0_in_ ++ []))) W) Tryz_mixed ?_
  replace hST := hST.drew
  have hS0 : Has μ0 ((b1, Obj.cells ((encRole a1).toArray : Array Value) 47 (0, 0)) :: ((b_a0, Obj.cells (#[v_a0_in_, v_a0_creds, v_a0_uses, v_a0_words, v_a0_todo, (.int .i64 a0_n)] : Array Value) 134 (0, 0)) :: (R_a0_in_ ++ []))) _ := hST.has.sub (Sub.refl _) (fun p hq => ((List.mem_cons.1 hq).elim (fun hq => by rw [hq]; exact (.head _)) (fun hq => ((List.mem_cons.1 hq).elim (fun hq => by rw [hq]; exact (.tail _ (.head _))) (fun hq => ((List.mem_append.1 hq).elim (fun hq => (.tail _ (.tail _ (List.mem_append_left _ hq)))) (fun hq => (absurd hq List.not_mem_nil))))))))
  refine PV 0 rfl hS0 (R_move (v := (.pointer (some ⟨b_a0, 0, none⟩))) rfl) ?_
  refine PV 1 rfl hS0 (R_nilCheck rfl) ?_
  refine PV 2 rfl hS0 (R_field fa134_0 rfl) ?_
  refine PX_v 3 rfl (by kernel_rfl) (.inl rfl) rfl (by decide) (fun _ _ h => h) hS0 (fun l W hpd hs => have hS := hs; R_load (v := v_a0_in_) rfl (load_box1 hS (.tail _ (.head _)) rfl Tryz.isAgg130)) ?_
  refine PX_v 4 rfl (by kernel_rfl) (.inl rfl) rfl (by decide) (fun _ _ h => h) hS0 (fun l W hpd hs => have hS := hs; R_load (v := (.agg (encRole a1).toArray)) rfl (load_boxA hS (.head _) (encRole a1) rfl Tryz.isAgg47 Tryz.sizeOf47)) ?_
  obtain ⟨lv7, hd8⟩ := h_a0_in_
  refine PX_v 5 rfl (by kernel_rfl) (.inl rfl) rfl (by decide) (fun _ _ h => h) hS0 (fun l W hpd hs => have hS := hs; R_lookupDeep (k := a1) (z := (.map none)) kl47 Tryz.underlying130 Tryz.zeroValue119 rfl rfl hd8 (fun b o hq => hS.2 b o (.tail _ (.tail _ (List.mem_append_left _ hq))))) ?_
  refine PV 6 rfl hS0 (R_move (v := (.string a2)) rfl) ?_
  refine PX_v 7 rfl (by kernel_rfl) (.inl rfl) rfl (by decide) (fun _ _ h => h) hS0 (fun l W hpd hs => have hS := hs; R_lookupD (k := a2) (z := false) (vf := (fun (x : Bool) => (Value.bool x))) kl9 Tryz.underlying119 Tryz.zeroValue4 rfl rfl (DeepV.mapAt (μ := hp _) beqRole_iff.1 hd8 a1 (fun b o hq => hS.2 b o (.tail _ (.tail _ (List.mem_append_left _ hq)))))) ?_
  refine PX_done (by kernel_rfl) ?_
  refine sq_n ?_
  refine CW_if (b := (mgetD beqS (((mget beqRole a0_in_ a1).getD [])) a2 false)) rfl (fun hb9 => ?_) (fun hb9 => ?_)
  · replace hm := if_t hb9 hm
    refine CW_ret ?_
    refine sq_r ?_
    replace hm := Option.some.inj hm; subst hm
    refine retQ_0 rfl ?_
    replace hST : ST true (keys ((b_a0, Obj.cells (#[v_a0_in_, v_a0_creds, v_a0_uses, v_a0_words, v_a0_todo, (.int .i64 a0_n)] : Array Value) 134 (0, 0)) :: (R_a0_in_ ++ (R_a0_creds ++ (R_a0_uses ++ (R_a0_words ++ (R_a0_todo ++ []))))))) w _ _ ((b1, Obj.cells ((encRole a1).toArray : Array Value) 47 (0, 0)) :: ((b_a0, Obj.cells (#[v_a0_in_, v_a0_creds, v_a0_uses, v_a0_words, v_a0_todo, (.int .i64 a0_n)] : Array Value) 134 (0, 0)) :: (R_a0_in_ ++ (R_a0_creds ++ (R_a0_uses ++ (R_a0_words ++ (R_a0_todo ++ []))))))) := hST
    exact ⟨_, ((b_a0, Obj.cells (#[v_a0_in_, v_a0_creds, v_a0_uses, v_a0_words, v_a0_todo, (.int .i64 a0_n)] : Array Value) 134 (0, 0)) :: (R_a0_in_ ++ (R_a0_creds ++ (R_a0_uses ++ (R_a0_words ++ (R_a0_todo ++ [])))))), rfl, (ST.backM (L1 := ((b_a0, Obj.cells (#[v_a0_in_, v_a0_creds, v_a0_uses, v_a0_words, v_a0_todo, (.int .i64 a0_n)] : Array Value) 134 (0, 0)) :: (R_a0_in_ ++ (R_a0_creds ++ (R_a0_uses ++ (R_a0_words ++ (R_a0_todo ++ []))))))) (by have hh : ST true (keys ((b_a0, Obj.cells (#[v_a0_in_, v_a0_creds, v_a0_uses, v_a0_words, v_a0_todo, (.int .i64 a0_n)] : Array Value) 134 (0, 0)) :: (R_a0_in_ ++ (R_a0_creds ++ (R_a0_uses ++ (R_a0_words ++ (R_a0_todo ++ []))))))) w _ _ ((b_a0, Obj.cells (#[v_a0_in_, v_a0_creds, v_a0_uses, v_a0_words, v_a0_todo, (.int .i64 a0_n)] : Array Value) 134 (0, 0)) :: (R_a0_in_ ++ (R_a0_creds ++ (R_a0_uses ++ (R_a0_words ++ (R_a0_todo ++ ((b1, Obj.cells ((encRole a1).toArray : Array Value) 47 (0, 0)) :: []))))))) := hST.perm (permD [[(b1, Obj.cells ((encRole a1).toArray : Array Value) 47 (0, 0))], [(b_a0, Obj.cells (#[v_a0_in_, v_a0_creds, v_a0_uses, v_a0_words, v_a0_todo, (.int .i64 a0_n)] : Array Value) 134 (0, 0))], R_a0_in_, R_a0_creds, R_a0_uses, R_a0_words, R_a0_todo] [0, 1, 2, 3, 4, 5, 6] [1, 2, 3, 4, 5, 6, 0] ([]) (by decide) rfl rfl); simpa only [List.append_assoc, List.cons_append, List.nil_append] using hh)), R_a0_in_, v_a0_todo, R_a0_todo, rfl, rfl, hd8.e, h_a0_todo⟩
  · replace hm := if_f hb9 hm
    refine CW_skip ?_
    refine sq_n ?_
    refine CW_seq ?_
    obtain ⟨s105, hm106, hm107⟩ := bind_some hm
    refine CW_cut (fun E W => ∃ (l38 : List (Role × (List (ByteArray × Bool)))) (R40 : List (Nat × Obj)) (L41 : List (Nat × Obj)), ST true (keys ((b_a0, Obj.cells (#[v_a0_in_, v_a0_creds, v_a0_uses, v_a0_words, v_a0_todo, (.int .i64 a0_n)] : Array Value) 134 (0, 0)) :: (R_a0_in_ ++ (R_a0_creds ++ (R_a0_uses ++ (R_a0_words ++ (R_a0_todo ++ []))))))) w W μ0 ((b1, Obj.cells ((encRole a1).toArray : Array Value) 47 (0, 0)) :: ((b_a0, Obj.cells (#[v_a0_in_, v_a0_creds, v_a0_uses, v_a0_words, v_a0_todo, (.int .i64 a0_n)] : Array Value) 134 (0, 0)) :: (R40 ++ (R_a0_creds ++ (R_a0_uses ++ (R_a0_words ++ (R_a0_todo ++ L41))))))) ∧ E 0 = (.pointer (some ⟨b_a0, 0, none⟩)) ∧ E 2 = (.string a2) ∧ E 4 = (.pointer (some ⟨b1, 0, none⟩)) ∧ DeepE (fun (x : Role) => (.agg (encRole x).toArray)) (MapRow Value.string (fun (x : Bool) => (Value.bool x))) v_a0_in_ l38 R40 ∧ (((mupd beqRole beqS l38 a1 a2 true)).bind fun l66 => (((appB 48 a0_todo ([(⟨a1, a2⟩ : Fact)]))).bind fun l96 => some (l66, l96, (IntKind.i64.wrap (a0_n + 1))))) = some r) ?_ ?_
    · refine CW_seq ?_
      refine PX_start (fun l W => Has μ0 ((b1, Obj.cells ((encRole a1).toArray : Array Value) 47 (0, 0)) :: ((b_a0, Obj.cells (#[v_a0_in_, v_a0_creds, v_a0_uses, v_a0_words, v_a0_todo, (.int .i64 a0_n)] : Array Value) 134 (0, 0)) :: (R_a0_in_ ++ []))) W) Tryz_mixed ?_
      replace hST := hST.drew
      have hS0 : Has μ0 ((b1, Obj.cells ((encRole a1).toArray : Array Value) 47 (0, 0)) :: ((b_a0, Obj.cells (#[v_a0_in_, v_a0_creds, v_a0_uses, v_a0_words, v_a0_todo, (.int .i64 a0_n)] : Array Value) 134 (0, 0)) :: (R_a0_in_ ++ []))) _ := hST.has.sub (Sub.refl _) (fun p hq => ((List.mem_cons.1 hq).elim (fun hq => by rw [hq]; exact (.head _)) (fun hq => ((List.mem_cons.1 hq).elim (fun hq => by rw [hq]; exact (.tail _ (.head _))) (fun hq => ((List.mem_append.1 hq).elim (fun hq => (.tail _ (.tail _ (List.mem_append_left _ hq)))) (fun hq => (absurd hq List.not_mem_nil))))))))
      refine PV 0 rfl hS0 (R_move (v := (.pointer (some ⟨b_a0, 0, none⟩))) rfl) ?_
      refine PV 1 rfl hS0 (R_nilCheck rfl) ?_
      refine PV 2 rfl hS0 (R_field fa134_0 rfl) ?_
      refine PX_v 3 rfl (by kernel_rfl) (.inl rfl) rfl (by decide) (fun _ _ h => h) hS0 (fun l W hpd hs => have hS := hs; R_load (v := v_a0_in_) rfl (load_box1 hS (.tail _ (.head _)) rfl Tryz.isAgg130)) ?_
      refine PX_v 4 rfl (by kernel_rfl) (.inl rfl) rfl (by decide) (fun _ _ h => h) hS0 (fun l W hpd hs => have hS := hs; R_load (v := (.agg (encRole a1).toArray)) rfl (load_boxA hS (.head _) (encRole a1) rfl Tryz.isAgg47 Tryz.sizeOf47)) ?_
      refine PX_v 5 rfl (by kernel_rfl) (.inl rfl) rfl (by decide) (fun _ _ h => h) hS0 (fun l W hpd hs => have hS := hs; R_lookupDeep (k := a1) (z := (.map none)) kl47 Tryz.underlying130 Tryz.zeroValue119 rfl rfl hd8 (fun b o hq => hS.2 b o (.tail _ (.tail _ (List.mem_append_left _ hq))))) ?_
      refine PV 6 rfl hS0 (R_mapEqNilD beqRole_iff.1 Tryz.underlying119 hd8 rfl rfl) ?_
      refine PX_done (by kernel_rfl) ?_
      refine sq_n ?_
      refine CW_if (b := (mget beqRole a0_in_ a1).isNone) rfl (fun hb108 => ?_) (fun hb108 => ?_)
      · replace hm106 := if_t hb108 hm106
        refine PX_start (fun l W => Has μ0 ((b1, Obj.cells ((encRole a1).toArray : Array Value) 47 (0, 0)) :: ((b_a0, Obj.cells (#[v_a0_in_, v_a0_creds, v_a0_uses, v_a0_words, v_a0_todo, (.int .i64 a0_n)] : Array Value) 134 (0, 0)) :: [])) W) Tryz_mixed ?_
        replace hST := hST.drew
        have hS0 : Has μ0 ((b1, Obj.cells ((encRole a1).toArray : Array Value) 47 (0, 0)) :: ((b_a0, Obj.cells (#[v_a0_in_, v_a0_creds, v_a0_uses, v_a0_words, v_a0_todo, (.int .i64 a0_n)] : Array Value) 134 (0, 0)) :: [])) _ := hST.has.sub (Sub.refl _) (fun p hq => ((List.mem_cons.1 hq).elim (fun hq => by rw [hq]; exact (.head _)) (fun hq => ((List.mem_cons.1 hq).elim (fun hq => by rw [hq]; exact (.tail _ (.head _))) (fun hq => (absurd hq List.not_mem_nil))))))
        refine PV 0 rfl hS0 (R_move (v := (.pointer (some ⟨b_a0, 0, none⟩))) rfl) ?_
        refine PV 1 rfl hS0 (R_nilCheck rfl) ?_
        refine PV 2 rfl hS0 (R_field fa134_0 rfl) ?_
        refine PX_v 3 rfl (by kernel_rfl) (.inl rfl) rfl (by decide) (fun _ _ h => h) hS0 (fun l W hpd hs => have hS := hs; R_load (v := v_a0_in_) rfl (load_box1 hS (.tail _ (.head _)) rfl Tryz.isAgg130)) ?_
        refine PX_v 4 rfl (by kernel_rfl) (.inl rfl) rfl (by decide) (fun _ _ h => h) hS0 (fun l W hpd hs => have hS := hs; R_load (v := (.agg (encRole a1).toArray)) rfl (load_boxA hS (.head _) (encRole a1) rfl Tryz.isAgg47 Tryz.sizeOf47)) ?_
        refine PX_e 5 rfl (by kernel_rfl) (.inl rfl) rfl (by decide) (E_makeMap (P := Tryz.prog) Value.string (fun (x : Bool) => (Value.bool x)) hST (fun W127 v130 R128 hST hR129 => ?_))
        replace hST : ST true (keys ((b_a0, Obj.cells (#[v_a0_in_, v_a0_creds, v_a0_uses, v_a0_words, v_a0_todo, (.int .i64 a0_n)] : Array Value) 134 (0, 0)) :: (R_a0_in_ ++ (R_a0_creds ++ (R_a0_uses ++ (R_a0_words ++ (R_a0_todo ++ []))))))) w _ _ ((b1, Obj.cells ((encRole a1).toArray : Array Value) 47 (0, 0)) :: ((b_a0, Obj.cells (#[v_a0_in_, v_a0_creds, v_a0_uses, v_a0_words, v_a0_todo, (.int .i64 a0_n)] : Array Value) 134 (0, 0)) :: (R128 ++ (R_a0_in_ ++ (R_a0_creds ++ (R_a0_uses ++ (R_a0_words ++ (R_a0_todo ++ [])))))))) := hST.perm (permD [R128, [(b1, Obj.cells ((encRole a1).toArray : Array Value) 47 (0, 0))], [(b_a0, Obj.cells (#[v_a0_in_, v_a0_creds, v_a0_uses, v_a0_words, v_a0_todo, (.int .i64 a0_n)] : Array Value) 134 (0, 0))]] [0, 1, 2] [1, 2, 0] ((R_a0_in_ ++ (R_a0_creds ++ (R_a0_uses ++ (R_a0_words ++ (R_a0_todo ++ [])))))) (by decide) rfl rfl)
        have hS0 : Has μ0 ((b1, Obj.cells ((encRole a1).toArray : Array Value) 47 (0, 0)) :: ((b_a0, Obj.cells (#[v_a0_in_, v_a0_creds, v_a0_uses, v_a0_words, v_a0_todo, (.int .i64 a0_n)] : Array Value) 134 (0, 0)) :: [])) _ := hST.has.sub (Sub.refl _) (fun p hq => ((List.mem_cons.1 hq).elim (fun hq => by rw [hq]; exact (.head _)) (fun hq => ((List.mem_cons.1 hq).elim (fun hq => by rw [hq]; exact (.tail _ (.head _))) (fun hq => (absurd hq List.not_mem_nil))))))
        refine ⟨hS0, ?_⟩
        replace hST : ST true (keys ((b_a0, Obj.cells (#[v_a0_in_, v_a0_creds, v_a0_uses, v_a0_words, v_a0_todo, (.int .i64 a0_n)] : Array Value) 134 (0, 0)) :: (R_a0_in_ ++ (R_a0_creds ++ (R_a0_uses ++ (R_a0_words ++ (R_a0_todo ++ []))))))) w _ _ ((b1, Obj.cells ((encRole a1).toArray : Array Value) 47 (0, 0)) :: ((b_a0, Obj.cells (#[v_a0_in_, v_a0_creds, v_a0_uses, v_a0_words, v_a0_todo, (.int .i64 a0_n)] : Array Value) 134 (0, 0)) :: (R_a0_in_ ++ (R128 ++ (R_a0_creds ++ (R_a0_uses ++ (R_a0_words ++ (R_a0_todo ++ [])))))))) := hST.perm (permD [[(b1, Obj.cells ((encRole a1).toArray : Array Value) 47 (0, 0))], [(b_a0, Obj.cells (#[v_a0_in_, v_a0_creds, v_a0_uses, v_a0_words, v_a0_todo, (.int .i64 a0_n)] : Array Value) 134 (0, 0))], R128, R_a0_in_] [0, 1, 2, 3] [0, 1, 3, 2] ((R_a0_creds ++ (R_a0_uses ++ (R_a0_words ++ (R_a0_todo ++ []))))) (by decide) rfl rfl)
        obtain ⟨l131, hr132, hm106⟩ := bind_some hm106
        refine PX_e0 6 rfl (by kernel_rfl) (.inl rfl) rfl (E_newDeep (k := a1) (z := ([])) [_, _] kl47 Tryz.underlying130 hST hd8 rfl rfl rfl hR129 hr132 (fun W133 R134 hST hR135 => ?_))
        replace hST : ST true (keys ((b_a0, Obj.cells (#[v_a0_in_, v_a0_creds, v_a0_uses, v_a0_words, v_a0_todo, (.int .i64 a0_n)] : Array Value) 134 (0, 0)) :: (R_a0_in_ ++ (R_a0_creds ++ (R_a0_uses ++ (R_a0_words ++ (R_a0_todo ++ []))))))) w _ _ ((b1, Obj.cells ((encRole a1).toArray : Array Value) 47 (0, 0)) :: ((b_a0, Obj.cells (#[v_a0_in_, v_a0_creds, v_a0_uses, v_a0_words, v_a0_todo, (.int .i64 a0_n)] : Array Value) 134 (0, 0)) :: (R134 ++ (R_a0_creds ++ (R_a0_uses ++ (R_a0_words ++ (R_a0_todo ++ []))))))) := hST
        have hS0 : Has μ0 ((b1, Obj.cells ((encRole a1).toArray : Array Value) 47 (0, 0)) :: ((b_a0, Obj.cells (#[v_a0_in_, v_a0_creds, v_a0_uses, v_a0_words, v_a0_todo, (.int .i64 a0_n)] : Array Value) 134 (0, 0)) :: [])) _ := hST.has.sub (Sub.refl _) (fun p hq => ((List.mem_cons.1 hq).elim (fun hq => by rw [hq]; exact (.head _)) (fun hq => ((List.mem_cons.1 hq).elim (fun hq => by rw [hq]; exact (.tail _ (.head _))) (fun hq => (absurd hq List.not_mem_nil))))))
        refine ⟨hS0, ?_⟩
        refine PX_done (by kernel_rfl) ?_
        refine sq_n ?_
        replace hm106 := Option.some.inj hm106; subst hm106
        exact ⟨l131, R134, _, (hST.sublist (List.Sublist.refl _)), rfl, rfl, rfl, hR135.e, hm107⟩
      · replace hm106 := if_f hb108 hm106
        refine CW_skip ?_
        refine sq_n ?_
        replace hm106 := Option.some.inj hm106; subst hm106
        exact ⟨a0_in_, R_a0_in_, _, (hST.sublist (List.Sublist.refl _)), rfl, rfl, rfl, hd8.e, hm107⟩
    · rintro E W ⟨l38, R40, L41, hST, e43, e44, e45, hs39, hm42⟩
      refine CW_seq ?_
      refine PX_start (fun l W => Has μ0 ((b1, Obj.cells ((encRole a1).toArray : Array Value) 47 (0, 0)) :: ((b_a0, Obj.cells (#[v_a0_in_, v_a0_creds, v_a0_uses, v_a0_words, v_a0_todo, (.int .i64 a0_n)] : Array Value) 134 (0, 0)) :: [])) W ∧ (l.getD 7 true = false → Has μ0 (R40 ++ []) W)) Tryz_mixed ?_
      replace hST := hST.drew
      have hS0 : Has μ0 ((b1, Obj.cells ((encRole a1).toArray : Array Value) 47 (0, 0)) :: ((b_a0, Obj.cells (#[v_a0_in_, v_a0_creds, v_a0_uses, v_a0_words, v_a0_todo, (.int .i64 a0_n)] : Array Value) 134 (0, 0)) :: [])) _ := hST.has.sub (Sub.refl _) (fun p hq => ((List.mem_cons.1 hq).elim (fun hq => by rw [hq]; exact (.head _)) (fun hq => ((List.mem_cons.1 hq).elim (fun hq => by rw [hq]; exact (.tail _ (.head _))) (fun hq => (absurd hq List.not_mem_nil))))))
      have hS1 : Has μ0 (R40 ++ []) _ := hST.has.sub (Sub.refl _) (fun p hq => ((List.mem_append.1 hq).elim (fun hq => (.tail _ (.tail _ (List.mem_append_left _ hq)))) (fun hq => (absurd hq List.not_mem_nil))))
      refine PX_v 0 rfl (by kernel_rfl) (.inl rfl) rfl (by decide) (fun _ _ h => ⟨h.1, til (by rfl) h.2⟩) ⟨hS0, fun _ => hS1⟩ (fun _ _ _ _ => R_move (v := (.pointer (some ⟨b_a0, 0, none⟩))) e43) ?_
      refine PX_v 1 rfl (by kernel_rfl) (.inl rfl) rfl (by decide) (fun _ _ h => ⟨h.1, til (by rfl) h.2⟩) ⟨hS0, fun _ => hS1⟩ (fun _ _ _ _ => R_nilCheck rfl) ?_
      refine PX_v 2 rfl (by kernel_rfl) (.inl rfl) rfl (by decide) (fun _ _ h => ⟨h.1, til (by rfl) h.2⟩) ⟨hS0, fun _ => hS1⟩ (fun _ _ _ _ => R_field fa134_0 rfl) ?_
      refine PX_v 3 rfl (by kernel_rfl) (.inl rfl) rfl (by decide) (fun _ _ h => ⟨h.1, til (by rfl) h.2⟩) ⟨hS0, fun _ => hS1⟩ (fun l W hpd hs => have hS := hs.1; R_load (v := v_a0_in_) rfl (load_box1 hS (.tail _ (.head _)) rfl Tryz.isAgg130)) ?_
      refine PX_v 4 rfl (by kernel_rfl) (.inl rfl) rfl (by decide) (fun _ _ h => ⟨h.1, til (by rfl) h.2⟩) ⟨hS0, fun _ => hS1⟩ (fun l W hpd hs => have hS := hs.1; R_load (v := (.agg (encRole a1).toArray)) e45 (load_boxA hS (.head _) (encRole a1) rfl Tryz.isAgg47 Tryz.sizeOf47)) ?_
      obtain ⟨lv64, hd65⟩ := hs39
      refine PX_v 5 rfl (by kernel_rfl) (.inl rfl) rfl (by decide) (fun _ _ h => ⟨h.1, til (by rfl) h.2⟩) ⟨hS0, fun _ => hS1⟩ (fun l W hpd hs => have hS := (hs.2 (hpd.bar 7 [5] (by kernel_rfl) rfl)); R_lookupDeep (k := a1) (z := (.map none)) kl47 Tryz.underlying130 Tryz.zeroValue119 rfl rfl hd65 (fun b o hq => hS.2 b o (List.mem_append_left _ hq))) ?_
      refine PX_v 6 rfl (by kernel_rfl) (.inl rfl) rfl (by decide) (fun _ _ h => ⟨h.1, til (by rfl) h.2⟩) ⟨hS0, fun _ => hS1⟩ (fun _ _ _ _ => R_move (v := (.string a2)) e44) ?_
      obtain ⟨l66, hr67, hm42⟩ := bind_some hm42
      refine PX_e0 7 rfl (by kernel_rfl) (.inl rfl) rfl (E_updDeep (k := a1) (v := true) (vf := (fun (x : Bool) => (Value.bool x))) [_, _] beqRole_iff.1 kl9 Tryz.underlying119 hST hd65 rfl rfl rfl hr67 (fun W68 R69 hST hR70 => ?_))
      replace hST : ST true (keys ((b_a0, Obj.cells (#[v_a0_in_, v_a0_creds, v_a0_uses, v_a0_words, v_a0_todo, (.int .i64 a0_n)] : Array Value) 134 (0, 0)) :: (R_a0_in_ ++ (R_a0_creds ++ (R_a0_uses ++ (R_a0_words ++ (R_a0_todo ++ []))))))) w _ _ ((b1, Obj.cells ((encRole a1).toArray : Array Value) 47 (0, 0)) :: ((b_a0, Obj.cells (#[v_a0_in_, v_a0_creds, v_a0_uses, v_a0_words, v_a0_todo, (.int .i64 a0_n)] : Array Value) 134 (0, 0)) :: (R69 ++ (R_a0_creds ++ (R_a0_uses ++ (R_a0_words ++ (R_a0_todo ++ L41))))))) := hST
      have hS0 : Has μ0 ((b1, Obj.cells ((encRole a1).toArray : Array Value) 47 (0, 0)) :: ((b_a0, Obj.cells (#[v_a0_in_, v_a0_creds, v_a0_uses, v_a0_words, v_a0_todo, (.int .i64 a0_n)] : Array Value) 134 (0, 0)) :: [])) _ := hST.has.sub (Sub.refl _) (fun p hq => ((List.mem_cons.1 hq).elim (fun hq => by rw [hq]; exact (.head _)) (fun hq => ((List.mem_cons.1 hq).elim (fun hq => by rw [hq]; exact (.tail _ (.head _))) (fun hq => (absurd hq List.not_mem_nil))))))
      refine ⟨⟨hS0, fun h => ffl (by kernel_rfl) h⟩, ?_⟩
      refine PX_done (by kernel_rfl) ?_
      refine sq_n ?_
      refine CW_seq ?_
      refine CW_region ?_
      refine LV (R_move (v := (.pointer (some ⟨b_a0, 0, none⟩))) e43) ?_
      refine LV (R_nilCheck rfl) ?_
      refine LV (R_field fa134_5 rfl) ?_
      refine LV (R_load (v := (.int .i64 a0_n)) rfl (load_box1 hST.has (.tail _ (.head _)) rfl Tryz.isAgg3)) ?_
      refine LV (R_int (k := .i64) (a := a0_n) (b := 1) (v := (.int .i64 ((IntKind.i64.wrap (a0_n + 1))))) rfl rfl rfl) ?_
      refine LV (R_nilCheck rfl) ?_
      refine LV (R_field fa134_5 rfl) ?_
      refine LW_e0 (.inl rfl) rfl (E_store [_] (.int .i64 ((IntKind.i64.wrap (a0_n + 1)))) (#[v_a0_in_, v_a0_creds, v_a0_uses, v_a0_words, v_a0_todo, (.int .i64 ((IntKind.i64.wrap (a0_n + 1))))]) hST rfl rfl Tryz.sizeOf3 (oneI _ ((IntKind.i64.wrap (a0_n + 1)))) (Nat.le_of_ble_eq_true rfl) rfl (fun W71 hST => ?_))
      refine LW_nil ?_
      refine sq_n ?_
      refine PX_start (fun l W => Has μ0 ((b1, Obj.cells ((encRole a1).toArray : Array Value) 47 (0, 0)) :: []) W ∧ (l.getD 12 true = false → Has μ0 ((b_a0, Obj.cells (#[v_a0_in_, v_a0_creds, v_a0_uses, v_a0_words, v_a0_todo, (.int .i64 ((IntKind.i64.wrap (a0_n + 1))))] : Array Value) 134 (0, 0)) :: []) W)) Tryz_mixed ?_
      replace hST := hST.drew
      replace hST : ST true (keys ((b_a0, Obj.cells (#[v_a0_in_, v_a0_creds, v_a0_uses, v_a0_words, v_a0_todo, (.int .i64 a0_n)] : Array Value) 134 (0, 0)) :: (R_a0_in_ ++ (R_a0_creds ++ (R_a0_uses ++ (R_a0_words ++ (R_a0_todo ++ []))))))) w _ _ ((b1, Obj.cells ((encRole a1).toArray : Array Value) 47 (0, 0)) :: ((b_a0, Obj.cells (#[v_a0_in_, v_a0_creds, v_a0_uses, v_a0_words, v_a0_todo, (.int .i64 ((IntKind.i64.wrap (a0_n + 1))))] : Array Value) 134 (0, 0)) :: (R69 ++ (R_a0_creds ++ (R_a0_uses ++ (R_a0_words ++ (R_a0_todo ++ L41))))))) := hST
      have hS0 : Has μ0 ((b1, Obj.cells ((encRole a1).toArray : Array Value) 47 (0, 0)) :: []) _ := hST.has.sub (Sub.refl _) (fun p hq => ((List.mem_cons.1 hq).elim (fun hq => by rw [hq]; exact (.head _)) (fun hq => (absurd hq List.not_mem_nil))))
      have hS1 : Has μ0 ((b_a0, Obj.cells (#[v_a0_in_, v_a0_creds, v_a0_uses, v_a0_words, v_a0_todo, (.int .i64 ((IntKind.i64.wrap (a0_n + 1))))] : Array Value) 134 (0, 0)) :: []) _ := hST.has.sub (Sub.refl _) (fun p hq => ((List.mem_cons.1 hq).elim (fun hq => by rw [hq]; exact (.tail _ (.head _))) (fun hq => (absurd hq List.not_mem_nil))))
      refine PX_v 0 rfl (by kernel_rfl) (.inl rfl) rfl (by decide) (fun _ _ h => ⟨h.1, til (by rfl) h.2⟩) ⟨hS0, fun _ => hS1⟩ (fun _ _ _ _ => R_move (v := (.pointer (some ⟨b_a0, 0, none⟩))) e43) ?_
      refine PX_v 1 rfl (by kernel_rfl) (.inl rfl) rfl (by decide) (fun _ _ h => ⟨h.1, til (by rfl) h.2⟩) ⟨hS0, fun _ => hS1⟩ (fun _ _ _ _ => R_move (v := (.pointer (some ⟨b_a0, 0, none⟩))) e43) ?_
      refine PX_v 2 rfl (by kernel_rfl) (.inl rfl) rfl (by decide) (fun _ _ h => ⟨h.1, til (by rfl) h.2⟩) ⟨hS0, fun _ => hS1⟩ (fun _ _ _ _ => R_nilCheck rfl) ?_
      refine PX_v 3 rfl (by kernel_rfl) (.inl rfl) rfl (by decide) (fun _ _ h => ⟨h.1, til (by rfl) h.2⟩) ⟨hS0, fun _ => hS1⟩ (fun _ _ _ _ => R_field fa134_4 rfl) ?_
      refine PX_v 4 rfl (by kernel_rfl) (.inl rfl) rfl (by decide) (fun _ _ h => ⟨h.1, til (by rfl) h.2⟩) ⟨hS0, fun _ => hS1⟩ (fun l W hpd hs => have hS := (hs.2 (hpd.bar 12 [4] (by kernel_rfl) rfl)); R_load (v := v_a0_todo) rfl (load_box1 hS (.head _) rfl Tryz.isAgg53)) ?_
      refine PX_v 5 rfl (by kernel_rfl) (.inl rfl) rfl (by decide) (fun _ _ h => ⟨h.1, til (by rfl) h.2⟩) ⟨hS0, fun _ => hS1⟩ (fun l W hpd hs => have hS := hs.1; R_load (v := (.agg (encRole a1).toArray)) e45 (load_boxA hS (.head _) (encRole a1) rfl Tryz.isAgg47 Tryz.sizeOf47)) ?_
      refine PX_v 6 rfl (by kernel_rfl) (.inl rfl) rfl (by decide) (fun _ _ h => ⟨h.1, til (by rfl) h.2⟩) ⟨hS0, fun _ => hS1⟩ (fun _ _ _ _ => R_move (v := (.string a2)) e44) ?_
      refine PX_v 7 rfl (by kernel_rfl) (.inl rfl) rfl (by decide) (fun _ _ h => ⟨h.1, til (by rfl) h.2⟩) ⟨hS0, fun _ => hS1⟩ (fun _ _ _ _ => R_build (qs := #[(0, (.agg (encRole a1).toArray)), (1, (.string a2))]) (v := (.agg (encFact ((⟨a1, a2⟩ : Fact))).toArray)) (parts2 rfl rfl) (run_build Tryz.zeroValue78 Tryz.underlying78 (pl78 _ Tryz.underlying78) (by kernel_rfl))) ?_
      refine PX_e 8 rfl (by kernel_rfl) (.inl rfl) rfl (by decide) (E_buildSlice (qs := #[(0, (.agg (encFact ((⟨a1, a2⟩ : Fact))).toArray))]) (cs := (encFact ((⟨a1, a2⟩ : Fact))).toArray) hST (parts1 rfl) (run_lit [(.agg (encFact ((⟨a1, a2⟩ : Fact))).toArray)] Tryz.underlying53 Tryz.sizeOf78 Tryz.zeroValue78 (by decide) rfl (by intro v hv; simp only [List.mem_cons, List.not_mem_nil, or_false] at hv; rcases hv with rfl <;> rfl) rfl rfl) (fun W95 b94 hST => ?_))
      have hS0 : Has μ0 ((b1, Obj.cells ((encRole a1).toArray : Array Value) 47 (0, 0)) :: []) _ := hST.has.sub (Sub.refl _) (fun p hq => ((List.mem_cons.1 hq).elim (fun hq => by rw [hq]; exact (.tail _ (.head _))) (fun hq => (absurd hq List.not_mem_nil))))
      have hS1 : Has μ0 ((b_a0, Obj.cells (#[v_a0_in_, v_a0_creds, v_a0_uses, v_a0_words, v_a0_todo, (.int .i64 ((IntKind.i64.wrap (a0_n + 1))))] : Array Value) 134 (0, 0)) :: []) _ := hST.has.sub (Sub.refl _) (fun p hq => ((List.mem_cons.1 hq).elim (fun hq => by rw [hq]; exact (.tail _ (.tail _ (.head _)))) (fun hq => (absurd hq List.not_mem_nil))))
      refine ⟨⟨hS0, fun _ => hS1⟩, ?_⟩
      replace hST : ST true (keys ((b_a0, Obj.cells (#[v_a0_in_, v_a0_creds, v_a0_uses, v_a0_words, v_a0_todo, (.int .i64 a0_n)] : Array Value) 134 (0, 0)) :: (R_a0_in_ ++ (R_a0_creds ++ (R_a0_uses ++ (R_a0_words ++ (R_a0_todo ++ []))))))) w _ _ ((b94, Obj.cells ((encFact ((⟨a1, a2⟩ : Fact))).toArray : Array Value) 78 (0, 0)) :: ((b1, Obj.cells ((encRole a1).toArray : Array Value) 47 (0, 0)) :: ((b_a0, Obj.cells (#[v_a0_in_, v_a0_creds, v_a0_uses, v_a0_words, v_a0_todo, (.int .i64 ((IntKind.i64.wrap (a0_n + 1))))] : Array Value) 134 (0, 0)) :: (R_a0_todo ++ (R69 ++ (R_a0_creds ++ (R_a0_uses ++ (R_a0_words ++ L41)))))))) := hST.perm (permD [[(b94, Obj.cells ((encFact ((⟨a1, a2⟩ : Fact))).toArray : Array Value) 78 (0, 0))], [(b1, Obj.cells ((encRole a1).toArray : Array Value) 47 (0, 0))], [(b_a0, Obj.cells (#[v_a0_in_, v_a0_creds, v_a0_uses, v_a0_words, v_a0_todo, (.int .i64 ((IntKind.i64.wrap (a0_n + 1))))] : Array Value) 134 (0, 0))], R69, R_a0_creds, R_a0_uses, R_a0_words, R_a0_todo] [0, 1, 2, 3, 4, 5, 6, 7] [0, 1, 2, 7, 3, 4, 5, 6] L41 (by decide) rfl rfl)
      obtain ⟨l96, hb97, hm42⟩ := bind_some hm42
      refine PX_e 9 rfl (by kernel_rfl) (.inl rfl) rfl (by decide) (E_appendQue (enc := encFact) (v := v_a0_todo) (vs := (.slice (some ⟨b94, 0, none⟩) 1 1)) (R := R_a0_todo) [_, _, _] hST lenFact (by decide) oneFact Tryz.underlying53 info78.1 info78.2.1 rfl info78.2.2.1 info78.2.2.2 rfl rfl h_a0_todo (Sl.lit (enc := encFact) (l := [(⟨a1, a2⟩ : Fact)]) lenFact rfl (Nat.le_of_ble_eq_true rfl) rfl (hST.at_ (.head _))) hb97 (fun W98 v101 R99 hST hR100 => ?_))
      replace hST : ST true (keys ((b_a0, Obj.cells (#[v_a0_in_, v_a0_creds, v_a0_uses, v_a0_words, v_a0_todo, (.int .i64 a0_n)] : Array Value) 134 (0, 0)) :: (R_a0_in_ ++ (R_a0_creds ++ (R_a0_uses ++ (R_a0_words ++ (R_a0_todo ++ []))))))) w _ _ ((b94, Obj.cells ((encFact ((⟨a1, a2⟩ : Fact))).toArray : Array Value) 78 (0, 0)) :: ((b1, Obj.cells ((encRole a1).toArray : Array Value) 47 (0, 0)) :: ((b_a0, Obj.cells (#[v_a0_in_, v_a0_creds, v_a0_uses, v_a0_words, v_a0_todo, (.int .i64 ((IntKind.i64.wrap (a0_n + 1))))] : Array Value) 134 (0, 0)) :: (R99 ++ (R69 ++ (R_a0_creds ++ (R_a0_uses ++ (R_a0_words ++ L41)))))))) := hST
      have hS0 : Has μ0 ((b1, Obj.cells ((encRole a1).toArray : Array Value) 47 (0, 0)) :: []) _ := hST.has.sub (Sub.refl _) (fun p hq => ((List.mem_cons.1 hq).elim (fun hq => by rw [hq]; exact (.tail _ (.head _))) (fun hq => (absurd hq List.not_mem_nil))))
      have hS1 : Has μ0 ((b_a0, Obj.cells (#[v_a0_in_, v_a0_creds, v_a0_uses, v_a0_words, v_a0_todo, (.int .i64 ((IntKind.i64.wrap (a0_n + 1))))] : Array Value) 134 (0, 0)) :: []) _ := hST.has.sub (Sub.refl _) (fun p hq => ((List.mem_cons.1 hq).elim (fun hq => by rw [hq]; exact (.tail _ (.tail _ (.head _)))) (fun hq => (absurd hq List.not_mem_nil))))
      refine ⟨⟨hS0, fun _ => hS1⟩, ?_⟩
      refine PX_v 10 rfl (by kernel_rfl) (.inl rfl) rfl (by decide) (fun _ _ h => ⟨h.1, til (by rfl) h.2⟩) ⟨hS0, fun _ => hS1⟩ (fun _ _ _ _ => R_nilCheck rfl) ?_
      refine PX_v 11 rfl (by kernel_rfl) (.inl rfl) rfl (by decide) (fun _ _ h => ⟨h.1, til (by rfl) h.2⟩) ⟨hS0, fun _ => hS1⟩ (fun _ _ _ _ => R_field fa134_4 rfl) ?_
      obtain ⟨A102, c103, rfl⟩ := hR100.form
      refine PX_e0 12 rfl (by kernel_rfl) (.inl rfl) rfl (E_store [_, _] (.slice A102 l96.length c103) (#[v_a0_in_, v_a0_creds, v_a0_uses, v_a0_words, (.slice A102 l96.length c103), (.int .i64 ((IntKind.i64.wrap (a0_n + 1))))]) hST rfl rfl Tryz.sizeOf53 (by simp [Value.cells, Value.oneCell']) (Nat.le_of_ble_eq_true rfl) rfl (fun W104 hST => ?_))
      replace hST : ST true (keys ((b_a0, Obj.cells (#[v_a0_in_, v_a0_creds, v_a0_uses, v_a0_words, v_a0_todo, (.int .i64 a0_n)] : Array Value) 134 (0, 0)) :: (R_a0_in_ ++ (R_a0_creds ++ (R_a0_uses ++ (R_a0_words ++ (R_a0_todo ++ []))))))) w _ _ ((b94, Obj.cells ((encFact ((⟨a1, a2⟩ : Fact))).toArray : Array Value) 78 (0, 0)) :: ((b1, Obj.cells ((encRole a1).toArray : Array Value) 47 (0, 0)) :: ((b_a0, Obj.cells (#[v_a0_in_, v_a0_creds, v_a0_uses, v_a0_words, (.slice A102 l96.length c103), (.int .i64 ((IntKind.i64.wrap (a0_n + 1))))] : Array Value) 134 (0, 0)) :: (R99 ++ (R69 ++ (R_a0_creds ++ (R_a0_uses ++ (R_a0_words ++ L41)))))))) := hST
      have hS0 : Has μ0 ((b1, Obj.cells ((encRole a1).toArray : Array Value) 47 (0, 0)) :: []) _ := hST.has.sub (Sub.refl _) (fun p hq => ((List.mem_cons.1 hq).elim (fun hq => by rw [hq]; exact (.tail _ (.head _))) (fun hq => (absurd hq List.not_mem_nil))))
      refine ⟨⟨hS0, fun h => ffl (by kernel_rfl) h⟩, ?_⟩
      refine PX_done (by kernel_rfl) ?_
      refine retQ_n ?_
      replace hm42 := Option.some.inj hm42; subst hm42
      refine retQ_0 rfl ?_
      replace hST : ST true (keys ((b_a0, Obj.cells (#[v_a0_in_, v_a0_creds, v_a0_uses, v_a0_words, v_a0_todo, (.int .i64 a0_n)] : Array Value) 134 (0, 0)) :: (R_a0_in_ ++ (R_a0_creds ++ (R_a0_uses ++ (R_a0_words ++ (R_a0_todo ++ []))))))) w _ _ ((b94, Obj.cells ((encFact ((⟨a1, a2⟩ : Fact))).toArray : Array Value) 78 (0, 0)) :: ((b1, Obj.cells ((encRole a1).toArray : Array Value) 47 (0, 0)) :: ((b_a0, Obj.cells (#[v_a0_in_, v_a0_creds, v_a0_uses, v_a0_words, (.slice A102 l96.length c103), (.int .i64 ((IntKind.i64.wrap (a0_n + 1))))] : Array Value) 134 (0, 0)) :: (R99 ++ (R69 ++ (R_a0_creds ++ (R_a0_uses ++ (R_a0_words ++ L41)))))))) := hST
      exact ⟨_, ((b_a0, Obj.cells (#[v_a0_in_, v_a0_creds, v_a0_uses, v_a0_words, (.slice A102 l96.length c103), (.int .i64 ((IntKind.i64.wrap (a0_n + 1))))] : Array Value) 134 (0, 0)) :: (R69 ++ (R_a0_creds ++ (R_a0_uses ++ (R_a0_words ++ (R99 ++ [])))))), rfl, (ST.backM (L1 := ((b_a0, Obj.cells (#[v_a0_in_, v_a0_creds, v_a0_uses, v_a0_words, (.slice A102 l96.length c103), (.int .i64 ((IntKind.i64.wrap (a0_n + 1))))] : Array Value) 134 (0, 0)) :: (R69 ++ (R_a0_creds ++ (R_a0_uses ++ (R_a0_words ++ (R99 ++ []))))))) (by have hh : ST true (keys ((b_a0, Obj.cells (#[v_a0_in_, v_a0_creds, v_a0_uses, v_a0_words, v_a0_todo, (.int .i64 a0_n)] : Array Value) 134 (0, 0)) :: (R_a0_in_ ++ (R_a0_creds ++ (R_a0_uses ++ (R_a0_words ++ (R_a0_todo ++ []))))))) w _ _ ((b_a0, Obj.cells (#[v_a0_in_, v_a0_creds, v_a0_uses, v_a0_words, (.slice A102 l96.length c103), (.int .i64 ((IntKind.i64.wrap (a0_n + 1))))] : Array Value) 134 (0, 0)) :: (R69 ++ (R_a0_creds ++ (R_a0_uses ++ (R_a0_words ++ (R99 ++ ((b94, Obj.cells ((encFact ((⟨a1, a2⟩ : Fact))).toArray : Array Value) 78 (0, 0)) :: ((b1, Obj.cells ((encRole a1).toArray : Array Value) 47 (0, 0)) :: L41)))))))) := hST.perm (permD [[(b94, Obj.cells ((encFact ((⟨a1, a2⟩ : Fact))).toArray : Array Value) 78 (0, 0))], [(b1, Obj.cells ((encRole a1).toArray : Array Value) 47 (0, 0))], [(b_a0, Obj.cells (#[v_a0_in_, v_a0_creds, v_a0_uses, v_a0_words, (.slice A102 l96.length c103), (.int .i64 ((IntKind.i64.wrap (a0_n + 1))))] : Array Value) 134 (0, 0))], R99, R69, R_a0_creds, R_a0_uses, R_a0_words] [0, 1, 2, 3, 4, 5, 6, 7] [2, 4, 5, 6, 7, 3, 0, 1] L41 (by decide) rfl rfl); simpa only [List.append_assoc, List.cons_append, List.nil_append] using hh)), R69, (.slice A102 l96.length c103), R99, rfl, rfl, hR70.e, hR100⟩
theorem w_maps_Keys_map_stringbool_string_bool_ (v_a0 : Value) (a0 : List (ByteArray × Bool)) (r : Unit) (w : World) (h_a0 : MapAt Value.string (fun (x : Bool) => (Value.bool x)) (hp w) v_a0 a0) (hm : m_maps_Keys_map_stringbool_string_bool_ a0 = some r) :
    GivesM true Tryz.prog 97 [v_a0] w [] (fun v L1 W' => ∃ (b1 : Nat), v = (.func (.func 144) #[] #[(.pointer (some ⟨b1, 0, none⟩))]) ∧ L1 = ((b1, Obj.cells (#[v_a0] : Array Value) 119 (0, 0)) :: [])) := by
  have hST := ST.start (dd := true) w
  unfold m_maps_Keys_map_stringbool_string_bool_ at hm
  refine calls_of_CW (n := 4) Tryz.func97 rfl rfl (Nat.le_of_ble_eq_true rfl) ?_
  refine CW_seq ?_
  refine CW_region ?_
  obtain ⟨m1, rfl⟩ := h_a0.form
  refine LE (E_box (v := (.map m1)) hST rfl (fun W3 b2 hST => ?_))
  refine LV (R_assign (v := .nilFunc) rfl) ?_
  refine LW_nil ?_
  refine sq_n ?_
  refine CW_seq ?_
  refine CW_region ?_
  refine LV (R_makeFuncC (by exact args1 rfl) rfl) ?_
  refine LV (R_assign (v := (.func (.func 144) #[] #[(.pointer (some ⟨b2, 0, none⟩))])) rfl) ?_
  refine LW_nil ?_
  refine sq_n ?_
  refine CW_ret ?_
  replace hm := Option.some.inj hm; subst hm
  refine retQ_1 (v := (.func (.func 144) #[] #[(.pointer (some ⟨b2, 0, none⟩))])) rfl rfl ?_
  replace hST : ST true NoF w _ _ ((b2, Obj.cells (#[(.map m1)] : Array Value) 119 (0, 0)) :: []) := hST
  exact ⟨_, ((b2, Obj.cells (#[(.map m1)] : Array Value) 119 (0, 0)) :: []), rfl, (ST.backL (L1 := ((b2, Obj.cells (#[(.map m1)] : Array Value) 119 (0, 0)) :: [])) (by have hh : ST true NoF w _ _ ((b2, Obj.cells (#[(.map m1)] : Array Value) 119 (0, 0)) :: []) := hST.perm (List.Perm.refl _); simpa only [List.append_assoc, List.cons_append, List.nil_append] using hh)), b2, rfl, rfl⟩
theorem keysS_gives144 {β : Type} {vf : β → Value} {l : List (ByteArray × β)} {b : Nat} {mv : Value} {W : World} {r : List ByteArray} (hb : W.heap[b]? = some (.cells #[mv] 119 (0, 0))) (hm : MapAt Value.string vf (hp W) mv l) (hk : keysS l = some r) : GivesRow false Tryz.prog 96 [.func (.func 144) #[] #[.pointer (some ⟨b, 0, none⟩)]] W 9 encSk 1 r := keysS_gives (P := Tryz.prog) layK144 layT96 lay135 rfl Tryz.underlying9 Tryz.call144 Tryz.call135 hb hm hk
theorem w_model_Model_Members (b_a0 : Nat) (v_a0_in_ : Value) (a0_in_ : List (Role × (List (ByteArray × Bool)))) (v_a0_creds : Value) (a0_creds : List Cred) (v_a0_uses : Value) (a0_uses : List (Role × (List Cred))) (v_a0_words : Value) (a0_words : List (ByteArray × (List Cred))) (v_a0_todo : Value) (a0_todo : List Fact) (a0_n : Int) (a1 : Role) (r : List ByteArray) (w : World) (h_a0_in_ : DeepAt (fun (x : Role) => (.agg (encRole x).toArray)) (MapRow Value.string (fun (x : Bool) => (Value.bool x))) (hp w) v_a0_in_ a0_in_) (h_a0_creds : Sl (Pl encCred) 9 (hp w) v_a0_creds a0_creds) (h_a0_uses : DeepAt (fun (x : Role) => (.agg (encRole x).toArray)) (Row 83 encCred 9) (hp w) v_a0_uses a0_uses) (h_a0_words : DeepAt Value.string (Row 83 encCred 9) (hp w) v_a0_words a0_words) (h_a0_todo : Sl (Pl encFact) 3 (hp w) v_a0_todo a0_todo) (hA_a0 : At (hp w) (.pointer (some ⟨b_a0, 0, none⟩)) [v_a0_in_, v_a0_creds, v_a0_uses, v_a0_words, v_a0_todo, (.int .i64 a0_n)]) (hm : m_model_Model_Members a0_in_ a0_creds a0_uses a0_words a0_todo a0_n a1 = some r) :
    GivesRow false Tryz.prog 37 [(.pointer (some ⟨b_a0, 0, none⟩)), (.agg (encRole a1).toArray)] w 9 encSk 1 r := by
  have hST := ST.start (dd := false) w
  unfold m_model_Model_Members at hm
  refine calls_of_CW (n := 15) Tryz.func37 rfl rfl (Nat.le_of_ble_eq_true rfl) ?_
  refine CW_seq ?_
  refine CW_region ?_
  refine LE (E_box (v := (.agg (encRole a1).toArray)) hST rfl (fun W2 b1 hST => ?_))
  refine LV (R_assign (v := (.slice none 0 0)) rfl) ?_
  refine LW_nil ?_
  refine sq_n ?_
  refine CW_seq ?_
  refine CW_seq ?_
  refine CW_region ?_
  refine LV (R_move (v := (.pointer (some ⟨b_a0, 0, none⟩))) rfl) ?_
  refine LV (R_ptrEqNil Tryz.underlying51 rfl rfl) ?_
  refine LW_nil ?_
  refine sq_n ?_
  refine CW_if_false rfl ?_
  refine CW_skip ?_
  refine sq_n ?_
  refine CW_seq ?_
  refine PX_start (fun l W => Has (hp w) ((b1, Obj.cells ((encRole a1).toArray : Array Value) 47 (0, 0)) :: []) W) Tryz_mixed ?_
  replace hST := hST.drew
  have hS0 : Has (hp w) ((b1, Obj.cells ((encRole a1).toArray : Array Value) 47 (0, 0)) :: []) _ := hST.has.sub (Sub.refl _) (fun p hq => ((List.mem_cons.1 hq).elim (fun hq => by rw [hq]; exact (.head _)) (fun hq => (absurd hq List.not_mem_nil))))
  refine PV 0 rfl hS0 (R_move (v := (.pointer (some ⟨b_a0, 0, none⟩))) rfl) ?_
  refine PV 1 rfl hS0 (R_nilCheck rfl) ?_
  refine PX_q 2 rfl (by kernel_rfl) (.inl rfl) rfl (by decide) (fun _ _ h => h) hS0 (R_fieldAt [v_a0_in_] fa134_0 rfl hA_a0 rfl) (fun p53 hp54 => ?_)
  refine PX_v 3 rfl (by kernel_rfl) (.inl rfl) rfl (by decide) (fun _ _ h => h) hS0 (fun l W hpd hs => have hS := hs; R_load rfl (load_at1 hS (y := v_a0_in_) hp54 Tryz.isAgg130)) ?_
  refine PX_v 4 rfl (by kernel_rfl) (.inl rfl) rfl (by decide) (fun _ _ h => h) hS0 (fun l W hpd hs => have hS := hs; R_load (v := (.agg (encRole a1).toArray)) rfl (load_boxA hS (.head _) (encRole a1) rfl Tryz.isAgg47 Tryz.sizeOf47)) ?_
  obtain ⟨lv56, R57, hd58, hq59⟩ := h_a0_in_
  refine PX_v 5 rfl (by kernel_rfl) (.inl rfl) rfl (by decide) (fun _ _ h => h) hS0 (fun l W hpd hs => have hS := hs; R_lookupDeep (k := a1) (z := (.map none)) kl47 Tryz.underlying130 Tryz.zeroValue119 rfl rfl hd58 (fun b o hq => hS.1 b o (hq59 b o hq))) ?_
  obtain ⟨r60, hr61, hm⟩ := bind_some hm
  have hsz := hST.size
  refine PX_e 6 rfl (by kernel_rfl) (.inl rfl) rfl (by decide) (E_callM (args := [(valAt beqRole lv56 a1 (.map none))]) (caps := #[]) [] (((b1, Obj.cells ((encRole a1).toArray : Array Value) 47 (0, 0)) :: [])) hST (List.Perm.refl _) rfl Tryz.call97 (by exact args1 rfl) (fun _ _ _ _ => GivesM.weak (w_maps_Keys_map_stringbool_string_bool_ (valAt beqRole lv56 a1 (.map none)) (((mget beqRole a0_in_ a1).getD [])) _ _ ((DeepV.mapAt beqRole_iff.1 hd58 a1 hq59).mono hST.sub_hp) hr61)) (fun W62 v65 μ63 L67 hST hle64 hlift hK66 => ?_))
  obtain ⟨b68, hv69, rfl⟩ := hK66
  replace hv69 := hv69.symm; subst hv69
  simp only [List.append_assoc, List.cons_append, List.nil_append] at hST
  replace hST : ST false NoF w _ _ ((b68, Obj.cells (#[(valAt beqRole lv56 a1 (.map none))] : Array Value) 119 (0, 0)) :: ((b1, Obj.cells ((encRole a1).toArray : Array Value) 47 (0, 0)) :: [])) := hST
  have hS0 : Has (hp w) ((b1, Obj.cells ((encRole a1).toArray : Array Value) 47 (0, 0)) :: []) _ := hST.has.sub hle64 (fun p hq => ((List.mem_cons.1 hq).elim (fun hq => by rw [hq]; exact (.tail _ (.head _))) (fun hq => (absurd hq List.not_mem_nil))))
  refine ⟨hS0, ?_⟩
  obtain ⟨r70, hr71, hm⟩ := bind_some hm
  refine PX_e 7 rfl (by kernel_rfl) (.inl rfl) rfl (by decide) (E_givesRow (args := [(.func (.func 144) #[] #[(.pointer (some ⟨b68, 0, none⟩))])]) [_, _] _ hST rfl Tryz.call96 (by exact args1 rfl) (keysS_gives144 (vf := (fun (x : Bool) => (Value.bool x))) (hST.has.2 _ _ (.head _)) ((DeepV.mapAt beqRole_iff.1 hd58 a1 hq59).mono (fun b o hq => hST.has.1 b o (hle64 b o hq))) hr71) (fun W72 v75 μ73 R76 hST hle74 hR77 => ?_))
  replace hST : ST false NoF w _ _ ((b68, Obj.cells (#[(valAt beqRole lv56 a1 (.map none))] : Array Value) 119 (0, 0)) :: ((b1, Obj.cells ((encRole a1).toArray : Array Value) 47 (0, 0)) :: (R76 ++ []))) := hST
  have hS0 : Has (hp w) ((b1, Obj.cells ((encRole a1).toArray : Array Value) 47 (0, 0)) :: []) _ := hST.has.sub (hle64.trans hle74) (fun p hq => ((List.mem_cons.1 hq).elim (fun hq => by rw [hq]; exact (.tail _ (.head _))) (fun hq => (absurd hq List.not_mem_nil))))
  refine ⟨hS0, ?_⟩
  refine PV 8 rfl hS0 (R_assign (v := v75) rfl) ?_
  refine PX_done (by kernel_rfl) ?_
  refine sq_n ?_
  replace hST : ST false NoF w _ _ (R76 ++ []) := hST.sublist (List.Sublist.cons _ (List.Sublist.cons _ (List.Sublist.refl _)))
  refine CW_ret ?_
  replace hm := Option.some.inj hm; subst hm
  refine retQ_1 (v := v75) rfl rfl ?_
  exact ⟨_, R76, rfl, hST.backRow (fun p hq => by simp [hq]) hR77.nd, hR77⟩
theorem w_model_Model_all_w (b_a0 : Nat) (v_a0_in_ : Value) (a0_in_ : List (Role × (List (ByteArray × Bool)))) (R_a0_in_ : List (Nat × Obj)) (v_a0_creds : Value) (a0_creds : List Cred) (R_a0_creds : List (Nat × Obj)) (v_a0_uses : Value) (a0_uses : List (Role × (List Cred))) (R_a0_uses : List (Nat × Obj)) (v_a0_words : Value) (a0_words : List (ByteArray × (List Cred))) (R_a0_words : List (Nat × Obj)) (v_a0_todo : Value) (a0_todo : List Fact) (R_a0_todo : List (Nat × Obj)) (a0_n : Int) (a1 : Role) (a2 : Role) (r : ((List (Role × (List (ByteArray × Bool)))) × (List Fact) × Int)) (w : World) {μ0 : Mem} (hH : Held ((b_a0, Obj.cells (#[v_a0_in_, v_a0_creds, v_a0_uses, v_a0_words, v_a0_todo, (.int .i64 a0_n)] : Array Value) 134 (0, 0)) :: (R_a0_in_ ++ (R_a0_creds ++ (R_a0_uses ++ (R_a0_words ++ (R_a0_todo ++ [])))))) w) (hN : ((((b_a0, Obj.cells (#[v_a0_in_, v_a0_creds, v_a0_uses, v_a0_words, v_a0_todo, (.int .i64 a0_n)] : Array Value) 134 (0, 0)) :: (R_a0_in_ ++ (R_a0_creds ++ (R_a0_uses ++ (R_a0_words ++ (R_a0_todo ++ [])))))) : List (Nat × Obj)).map (·.1)).Nodup) (hS0 : Sub μ0 (hpx w ((b_a0, Obj.cells (#[v_a0_in_, v_a0_creds, v_a0_uses, v_a0_words, v_a0_todo, (.int .i64 a0_n)] : Array Value) 134 (0, 0)) :: (R_a0_in_ ++ (R_a0_creds ++ (R_a0_uses ++ (R_a0_words ++ (R_a0_todo ++ [])))))))) (h_a0_in_ : DeepE (fun (x : Role) => (.agg (encRole x).toArray)) (MapRow Value.string (fun (x : Bool) => (Value.bool x))) v_a0_in_ a0_in_ R_a0_in_) (h_a0_creds : Row 83 encCred 9 v_a0_creds a0_creds R_a0_creds) (h_a0_uses : DeepE (fun (x : Role) => (.agg (encRole x).toArray)) (Row 83 encCred 9) v_a0_uses a0_uses R_a0_uses) (h_a0_words : DeepE Value.string (Row 83 encCred 9) v_a0_words a0_words R_a0_words) (h_a0_todo : Que 78 encFact 3 v_a0_todo a0_todo R_a0_todo) (hm : m_model_Model_all_w a0_in_ a0_creds a0_uses a0_words a0_todo a0_n a1 a2 = some r) :
    GivesM false Tryz.prog 187 [(.pointer (some ⟨b_a0, 0, none⟩)), (.agg (encRole a1).toArray), (.agg (encRole a2).toArray)] w ((b_a0, Obj.cells (#[v_a0_in_, v_a0_creds, v_a0_uses, v_a0_words, v_a0_todo, (.int .i64 a0_n)] : Array Value) 134 (0, 0)) :: (R_a0_in_ ++ (R_a0_creds ++ (R_a0_uses ++ (R_a0_words ++ (R_a0_todo ++ [])))))) (fun v L1 W' => ∃ (S1 : List (Nat × Obj)) (y3 : Value) (S4 : List (Nat × Obj)), v = (.tuple #[]) ∧ L1 = ((b_a0, Obj.cells (#[v_a0_in_, v_a0_creds, v_a0_uses, v_a0_words, y3, (.int .i64 (r.2.2))] : Array Value) 134 (0, 0)) :: (S1 ++ (R_a0_creds ++ (R_a0_uses ++ (R_a0_words ++ (S4 ++ [])))))) ∧ DeepE (fun (x : Role) => (.agg (encRole x).toArray)) (MapRow Value.string (fun (x : Bool) => (Value.bool x))) v_a0_in_ r.1 S1 ∧ Que 78 encFact 3 y3 r.2.1 S4) := by
  have hST := (ST.startM (dd := false) hH hN).weak hS0
  unfold m_model_Model_all_w at hm
  refine calls_of_CW (n := 21) Tryz.func187 rfl rfl (Nat.le_of_ble_eq_true rfl) ?_
  refine CW_seq ?_
  refine CW_region ?_
  refine LE (E_box (v := (.agg (encRole a1).toArray)) hST rfl (fun W2 b1 hST => ?_))
  refine LE (E_box (v := (.agg (encRole a2).toArray)) hST rfl (fun W4 b3 hST => ?_))
  refine LW_nil ?_
  refine sq_n ?_
  refine CW_seq ?_
  refine CW_region ?_
  refine LV (R_move (v := (.pointer (some ⟨b_a0, 0, none⟩))) rfl) ?_
  refine LV (R_load (v := (.agg (encRole a1).toArray)) rfl (load_boxA hST.has (.tail _ (.head _)) (encRole a1) rfl Tryz.isAgg47 Tryz.sizeOf47)) ?_
  obtain ⟨r5, hr6, hm⟩ := bind_some hm
  refine LE (E_givesRow (args := [(.pointer (some ⟨b_a0, 0, none⟩)), (.agg (encRole a1).toArray)]) [_, _, _] _ hST rfl Tryz.call37 (by exact args2 rfl rfl) ((w_model_Model_Members b_a0 v_a0_in_ a0_in_ v_a0_creds a0_creds v_a0_uses a0_uses v_a0_words a0_words v_a0_todo a0_todo a0_n a1 _ _ (h_a0_in_.at (fun b o hq => hST.at_ (.tail _ (.tail _ (.tail _ (List.mem_append_left _ hq)))))) (h_a0_creds.sl lenCred (fun b o hq => hST.at_ (.tail _ (.tail _ (.tail _ (List.mem_append_right _ (List.mem_append_left _ hq))))))) (h_a0_uses.at (fun b o hq => hST.at_ (.tail _ (.tail _ (.tail _ (List.mem_append_right _ (List.mem_append_right _ (List.mem_append_left _ hq)))))))) (h_a0_words.at (fun b o hq => hST.at_ (.tail _ (.tail _ (.tail _ (List.mem_append_right _ (List.mem_append_right _ (List.mem_append_right _ (List.mem_append_left _ hq))))))))) ((h_a0_todo.slL lenFact).mono (Pl.mono _) (memL_held (fun b o hq => hST.at_ (.tail _ (.tail _ (.tail _ (List.mem_append_right _ (List.mem_append_right _ (List.mem_append_right _ (List.mem_append_right _ (List.mem_append_left _ hq))))))))))) (At.of (hST.at_ (.tail _ (.tail _ (.head _)))) _ rfl) hr6)) (fun W7 v10 μ8 R11 hST hle9 hR12 => ?_))
  refine LV (R_lenRow Tryz.underlying27 rfl hR12) ?_
  refine LV (R_move (v := (.int .i64 0)) rfl) ?_
  refine LW_nil ?_
  refine sq_n ?_
  replace hST : ST false (keys ((b_a0, Obj.cells (#[v_a0_in_, v_a0_creds, v_a0_uses, v_a0_words, v_a0_todo, (.int .i64 a0_n)] : Array Value) 134 (0, 0)) :: (R_a0_in_ ++ (R_a0_creds ++ (R_a0_uses ++ (R_a0_words ++ (R_a0_todo ++ []))))))) w _ _ ((b3, Obj.cells ((encRole a2).toArray : Array Value) 47 (0, 0)) :: ((b1, Obj.cells ((encRole a1).toArray : Array Value) 47 (0, 0)) :: ((b_a0, Obj.cells (#[v_a0_in_, v_a0_creds, v_a0_uses, v_a0_words, v_a0_todo, (.int .i64 a0_n)] : Array Value) 134 (0, 0)) :: (R11 ++ (R_a0_in_ ++ (R_a0_creds ++ (R_a0_uses ++ (R_a0_words ++ (R_a0_todo ++ []))))))))) := hST
  replace hST : ST false (keys ((b_a0, Obj.cells (#[v_a0_in_, v_a0_creds, v_a0_uses, v_a0_words, v_a0_todo, (.int .i64 a0_n)] : Array Value) 134 (0, 0)) :: (R_a0_in_ ++ (R_a0_creds ++ (R_a0_uses ++ (R_a0_words ++ (R_a0_todo ++ []))))))) w _ _ ((b3, Obj.cells ((encRole a2).toArray : Array Value) 47 (0, 0)) :: ((b_a0, Obj.cells (#[v_a0_in_, v_a0_creds, v_a0_uses, v_a0_words, v_a0_todo, (.int .i64 a0_n)] : Array Value) 134 (0, 0)) :: (R11 ++ (R_a0_in_ ++ (R_a0_creds ++ (R_a0_uses ++ (R_a0_words ++ (R_a0_todo ++ [])))))))) := hST.sublist (List.Sublist.cons_cons _ (List.Sublist.cons _ (List.Sublist.refl _)))
  refine CW_tail ?_
  replace hST : ST false (keys ((b_a0, Obj.cells (#[v_a0_in_, v_a0_creds, v_a0_uses, v_a0_words, v_a0_todo, (.int .i64 a0_n)] : Array Value) 134 (0, 0)) :: (R_a0_in_ ++ (R_a0_creds ++ (R_a0_uses ++ (R_a0_words ++ (R_a0_todo ++ []))))))) w _ _ ((b_a0, Obj.cells (#[v_a0_in_, v_a0_creds, v_a0_uses, v_a0_words, v_a0_todo, (.int .i64 a0_n)] : Array Value) 134 (0, 0)) :: ((b3, Obj.cells ((encRole a2).toArray : Array Value) 47 (0, 0)) :: (R_a0_in_ ++ (R_a0_creds ++ (R_a0_uses ++ (R_a0_words ++ (R_a0_todo ++ (R11 ++ [])))))))) := hST.perm (permD [[(b3, Obj.cells ((encRole a2).toArray : Array Value) 47 (0, 0))], [(b_a0, Obj.cells (#[v_a0_in_, v_a0_creds, v_a0_uses, v_a0_words, v_a0_todo, (.int .i64 a0_n)] : Array Value) 134 (0, 0))], R11, R_a0_in_, R_a0_creds, R_a0_uses, R_a0_words, R_a0_todo] [0, 1, 2, 3, 4, 5, 6, 7] [1, 0, 3, 4, 5, 6, 7, 2] ([]) (by decide) rfl rfl)
  refine CW_range (fun i E W => ∃ (l124 : List (Role × (List (ByteArray × Bool)))) (R126 : List (Nat × Obj)) (v127 : Value) (l128 : List Fact) (R130 : List (Nat × Obj)) (x131 : Int) (μ123 : Mem) (L162 : List (Nat × Obj)), (E 12 = .int .i64 (i : Nat) ∧ E 11 = .int .i64 (r5.length : Nat)) ∧ Sub μ8 μ123 ∧ ST false (keys ((b_a0, Obj.cells (#[v_a0_in_, v_a0_creds, v_a0_uses, v_a0_words, v_a0_todo, (.int .i64 a0_n)] : Array Value) 134 (0, 0)) :: (R_a0_in_ ++ (R_a0_creds ++ (R_a0_uses ++ (R_a0_words ++ (R_a0_todo ++ []))))))) w W μ123 ((b_a0, Obj.cells (#[v_a0_in_, v_a0_creds, v_a0_uses, v_a0_words, v127, (.int .i64 x131)] : Array Value) 134 (0, 0)) :: ((b3, Obj.cells ((encRole a2).toArray : Array Value) 47 (0, 0)) :: (R126 ++ (R_a0_creds ++ (R_a0_uses ++ (R_a0_words ++ (R130 ++ (R11 ++ L162)))))))) ∧ E 0 = (.pointer (some ⟨b_a0, 0, none⟩)) ∧ E 5 = (.pointer (some ⟨b3, 0, none⟩)) ∧ E 10 = v10 ∧ DeepE (fun (x : Role) => (.agg (encRole x).toArray)) (MapRow Value.string (fun (x : Bool) => (Value.bool x))) v_a0_in_ l124 R126 ∧ Que 78 encFact 3 v127 l128 R130 ∧ m_model_Model_all_w_L1 a0_creds a0_uses a0_words a2 (r5.drop i) l124 l128 x131 = some r) r5.length hR12.len ⟨a0_in_, R_a0_in_, v_a0_todo, a0_todo, R_a0_todo, a0_n, μ8, _, ⟨rfl, rfl⟩, (Sub.refl _), (hST.sublist (List.Sublist.refl _)), rfl, rfl, rfl, h_a0_in_, h_a0_todo, hm⟩ (by decide) (by decide) (by decide) (fun _ _ _ h => by obtain ⟨_, _, _, _, _, _, _, _, eIN, _⟩ := h; exact eIN) ?_ ?_
  · rintro i99 E W hi105 ⟨l124, R126, v127, l128, R130, x131, μ123, L162, ⟨eI, eN⟩, hle164, hST, e165, e166, e167, hs125, hs129, hm163⟩
    obtain ⟨x100, xs101, hx103, hx102, hx104⟩ := drop_cons hi105
    rw [hx103] at hm163
    rw [m_model_Model_all_w_L1] at hm163
    refine CW_block ?_
    refine CW_seq ?_
    refine CW_region ?_
    refine LQ (R_indexRow (i := (i99 : Int)) (x0 := x100) Tryz.underlying27 Tryz.sizeOf9 e167 eI hR12 (Int.natCast_nonneg _) hx102) (fun p168 hp169 => ?_)
    refine LV (R_load (v := (.string x100)) rfl (load_ix1 hST.has (fun p hq => by simp [hq]) hR12 (fun _ => rfl) hp169 hx102 (y := (.string x100)) rfl Tryz.isAgg9)) ?_
    refine LV (R_assign (v := (.string x100)) rfl) ?_
    refine LW_nil ?_
    refine sq_n ?_
    refine CW_region ?_
    refine LV (R_move (v := (.pointer (some ⟨b_a0, 0, none⟩))) e165) ?_
    refine LV (R_load (v := (.agg (encRole a2).toArray)) e166 (load_boxA hST.has (.tail _ (.head _)) (encRole a2) rfl Tryz.isAgg47 Tryz.sizeOf47)) ?_
    refine LV (R_move (v := (.string x100)) rfl) ?_
    obtain ⟨r171, hr172, hm163⟩ := bind_some hm163
    replace hST : ST false (keys ((b_a0, Obj.cells (#[v_a0_in_, v_a0_creds, v_a0_uses, v_a0_words, v_a0_todo, (.int .i64 a0_n)] : Array Value) 134 (0, 0)) :: (R_a0_in_ ++ (R_a0_creds ++ (R_a0_uses ++ (R_a0_words ++ (R_a0_todo ++ []))))))) w _ _ ((b_a0, Obj.cells (#[v_a0_in_, v_a0_creds, v_a0_uses, v_a0_words, v127, (.int .i64 x131)] : Array Value) 134 (0, 0)) :: (R126 ++ (R_a0_creds ++ (R_a0_uses ++ (R_a0_words ++ (R130 ++ ((b3, Obj.cells ((encRole a2).toArray : Array Value) 47 (0, 0)) :: (R11 ++ L162)))))))) := hST.perm (permD [[(b_a0, Obj.cells (#[v_a0_in_, v_a0_creds, v_a0_uses, v_a0_words, v127, (.int .i64 x131)] : Array Value) 134 (0, 0))], [(b3, Obj.cells ((encRole a2).toArray : Array Value) 47 (0, 0))], R126, R_a0_creds, R_a0_uses, R_a0_words, R130] [0, 1, 2, 3, 4, 5, 6] [0, 2, 3, 4, 5, 6, 1] ((R11 ++ L162)) (by decide) rfl rfl)
    have hsz := hST.size
    refine LE (E_callM (args := [(.pointer (some ⟨b_a0, 0, none⟩)), (.agg (encRole a2).toArray), (.string x100)]) (caps := #[]) (((b_a0, Obj.cells (#[v_a0_in_, v_a0_creds, v_a0_uses, v_a0_words, v127, (.int .i64 x131)] : Array Value) 134 (0, 0)) :: (R126 ++ (R_a0_creds ++ (R_a0_uses ++ (R_a0_words ++ (R130 ++ []))))))) (((b3, Obj.cells ((encRole a2).toArray : Array Value) 47 (0, 0)) :: (R11 ++ L162))) hST (by simp only [List.append_assoc, List.cons_append, List.nil_append]; exact List.Perm.refl _) rfl Tryz.call146 (by exact args3 rfl rfl rfl) (fun hH hN hsb hmm => GivesM.weak (w_model_Model_tell_w b_a0 v_a0_in_ l124 R126 v_a0_creds a0_creds R_a0_creds v_a0_uses a0_uses R_a0_uses v_a0_words a0_words R_a0_words v127 l128 R130 x131 a2 x100 _ _ hH hN (Sub.refl _) hs125 h_a0_creds h_a0_uses h_a0_words hs129 hr172)) (fun W173 v176 μ174 L178 hST hle175 hlift hK177 => ?_))
    obtain ⟨S179, y181, S182, hv184, rfl, hy180, hy183⟩ := hK177
    replace hv184 := hv184.symm; subst hv184
    simp only [List.append_assoc, List.cons_append, List.nil_append] at hST
    replace hST : ST false (keys ((b_a0, Obj.cells (#[v_a0_in_, v_a0_creds, v_a0_uses, v_a0_words, v_a0_todo, (.int .i64 a0_n)] : Array Value) 134 (0, 0)) :: (R_a0_in_ ++ (R_a0_creds ++ (R_a0_uses ++ (R_a0_words ++ (R_a0_todo ++ []))))))) w _ _ ((b_a0, Obj.cells (#[v_a0_in_, v_a0_creds, v_a0_uses, v_a0_words, y181, (.int .i64 (r171.2.2))] : Array Value) 134 (0, 0)) :: ((b3, Obj.cells ((encRole a2).toArray : Array Value) 47 (0, 0)) :: (S179 ++ (R_a0_creds ++ (R_a0_uses ++ (R_a0_words ++ (S182 ++ (R11 ++ L162)))))))) := hST.perm (permD [[(b_a0, Obj.cells (#[v_a0_in_, v_a0_creds, v_a0_uses, v_a0_words, y181, (.int .i64 (r171.2.2))] : Array Value) 134 (0, 0))], S179, R_a0_creds, R_a0_uses, R_a0_words, S182, [(b3, Obj.cells ((encRole a2).toArray : Array Value) 47 (0, 0))]] [0, 1, 2, 3, 4, 5, 6] [0, 6, 1, 2, 3, 4, 5] ((R11 ++ L162)) (by decide) rfl rfl)
    refine LW_nil ?_
    refine bq_n ?_
    refine sq_n ?_
    exact ⟨eI, r171.1, S179, y181, r171.2.1, S182, r171.2.2, μ174, _, ⟨rfl, eN⟩, (hle164.trans hle175), (hST.sublist (List.Sublist.refl _)), e165, e166, e167, hy180, hy183, (by rw [hx104]; exact hm163)⟩
  · rintro E W ⟨l124, R126, v127, l128, R130, x131, μ123, L162, ⟨eI, eN⟩, hle164, hST, e165, e166, e167, hs125, hs129, hm163⟩
    rw [List.drop_length] at hm163
    rw [m_model_Model_all_w_L1] at hm163
    refine sq_n ?_
    replace hST : ST false (keys ((b_a0, Obj.cells (#[v_a0_in_, v_a0_creds, v_a0_uses, v_a0_words, v_a0_todo, (.int .i64 a0_n)] : Array Value) 134 (0, 0)) :: (R_a0_in_ ++ (R_a0_creds ++ (R_a0_uses ++ (R_a0_words ++ (R_a0_todo ++ []))))))) w _ _ ((b_a0, Obj.cells (#[v_a0_in_, v_a0_creds, v_a0_uses, v_a0_words, v127, (.int .i64 x131)] : Array Value) 134 (0, 0)) :: (R126 ++ (R_a0_creds ++ (R_a0_uses ++ (R_a0_words ++ (R130 ++ L162)))))) := hST.sublist (List.Sublist.cons_cons _ (List.Sublist.cons _ (List.Sublist.append (List.Sublist.refl _) (List.Sublist.append (List.Sublist.refl _) (List.Sublist.append (List.Sublist.refl _) (List.Sublist.append (List.Sublist.refl _) (List.Sublist.append (List.Sublist.refl _) ((List.Sublist.refl _).trans (List.sublist_append_right _ _)))))))))
    refine retQ_n ?_
    replace hm163 := Option.some.inj hm163; subst hm163
    refine retQ_0 rfl ?_
    replace hST : ST false (keys ((b_a0, Obj.cells (#[v_a0_in_, v_a0_creds, v_a0_uses, v_a0_words, v_a0_todo, (.int .i64 a0_n)] : Array Value) 134 (0, 0)) :: (R_a0_in_ ++ (R_a0_creds ++ (R_a0_uses ++ (R_a0_words ++ (R_a0_todo ++ []))))))) w _ _ ((b_a0, Obj.cells (#[v_a0_in_, v_a0_creds, v_a0_uses, v_a0_words, v127, (.int .i64 x131)] : Array Value) 134 (0, 0)) :: (R126 ++ (R_a0_creds ++ (R_a0_uses ++ (R_a0_words ++ (R130 ++ L162)))))) := hST
    exact ⟨_, ((b_a0, Obj.cells (#[v_a0_in_, v_a0_creds, v_a0_uses, v_a0_words, v127, (.int .i64 x131)] : Array Value) 134 (0, 0)) :: (R126 ++ (R_a0_creds ++ (R_a0_uses ++ (R_a0_words ++ (R130 ++ [])))))), rfl, (ST.backM (L1 := ((b_a0, Obj.cells (#[v_a0_in_, v_a0_creds, v_a0_uses, v_a0_words, v127, (.int .i64 x131)] : Array Value) 134 (0, 0)) :: (R126 ++ (R_a0_creds ++ (R_a0_uses ++ (R_a0_words ++ (R130 ++ []))))))) (by have hh : ST false (keys ((b_a0, Obj.cells (#[v_a0_in_, v_a0_creds, v_a0_uses, v_a0_words, v_a0_todo, (.int .i64 a0_n)] : Array Value) 134 (0, 0)) :: (R_a0_in_ ++ (R_a0_creds ++ (R_a0_uses ++ (R_a0_words ++ (R_a0_todo ++ []))))))) w _ _ ((b_a0, Obj.cells (#[v_a0_in_, v_a0_creds, v_a0_uses, v_a0_words, v127, (.int .i64 x131)] : Array Value) 134 (0, 0)) :: (R126 ++ (R_a0_creds ++ (R_a0_uses ++ (R_a0_words ++ (R130 ++ L162)))))) := hST.perm (List.Perm.refl _); simpa only [List.append_assoc, List.cons_append, List.nil_append] using hh)), R126, v127, R130, rfl, rfl, hs125, hs129⟩
theorem w_model_Model_use_w (b_a0 : Nat) (v_a0_in_ : Value) (a0_in_ : List (Role × (List (ByteArray × Bool)))) (R_a0_in_ : List (Nat × Obj)) (v_a0_creds : Value) (a0_creds : List Cred) (R_a0_creds : List (Nat × Obj)) (v_a0_uses : Value) (a0_uses : List (Role × (List Cred))) (R_a0_uses : List (Nat × Obj)) (v_a0_words : Value) (a0_words : List (ByteArray × (List Cred))) (R_a0_words : List (Nat × Obj)) (v_a0_todo : Value) (a0_todo : List Fact) (R_a0_todo : List (Nat × Obj)) (a0_n : Int) (a1 : Cred) (a2 : Fact) (r : ((List (Role × (List (ByteArray × Bool)))) × (List Fact) × Int)) (w : World) {μ0 : Mem} (hH : Held ((b_a0, Obj.cells (#[v_a0_in_, v_a0_creds, v_a0_uses, v_a0_words, v_a0_todo, (.int .i64 a0_n)] : Array Value) 134 (0, 0)) :: (R_a0_in_ ++ (R_a0_creds ++ (R_a0_uses ++ (R_a0_words ++ (R_a0_todo ++ [])))))) w) (hN : ((((b_a0, Obj.cells (#[v_a0_in_, v_a0_creds, v_a0_uses, v_a0_words, v_a0_todo, (.int .i64 a0_n)] : Array Value) 134 (0, 0)) :: (R_a0_in_ ++ (R_a0_creds ++ (R_a0_uses ++ (R_a0_words ++ (R_a0_todo ++ [])))))) : List (Nat × Obj)).map (·.1)).Nodup) (hS0 : Sub μ0 (hpx w ((b_a0, Obj.cells (#[v_a0_in_, v_a0_creds, v_a0_uses, v_a0_words, v_a0_todo, (.int .i64 a0_n)] : Array Value) 134 (0, 0)) :: (R_a0_in_ ++ (R_a0_creds ++ (R_a0_uses ++ (R_a0_words ++ (R_a0_todo ++ [])))))))) (h_a0_in_ : DeepE (fun (x : Role) => (.agg (encRole x).toArray)) (MapRow Value.string (fun (x : Bool) => (Value.bool x))) v_a0_in_ a0_in_ R_a0_in_) (h_a0_creds : Row 83 encCred 9 v_a0_creds a0_creds R_a0_creds) (h_a0_uses : DeepE (fun (x : Role) => (.agg (encRole x).toArray)) (Row 83 encCred 9) v_a0_uses a0_uses R_a0_uses) (h_a0_words : DeepE Value.string (Row 83 encCred 9) v_a0_words a0_words R_a0_words) (h_a0_todo : Que 78 encFact 3 v_a0_todo a0_todo R_a0_todo) (hm : m_model_Model_use_w a0_in_ a0_creds a0_uses a0_words a0_todo a0_n a1 a2 = some r) :
    GivesM false Tryz.prog 147 [(.pointer (some ⟨b_a0, 0, none⟩)), (.agg (encCred a1).toArray), (.agg (encFact a2).toArray)] w ((b_a0, Obj.cells (#[v_a0_in_, v_a0_creds, v_a0_uses, v_a0_words, v_a0_todo, (.int .i64 a0_n)] : Array Value) 134 (0, 0)) :: (R_a0_in_ ++ (R_a0_creds ++ (R_a0_uses ++ (R_a0_words ++ (R_a0_todo ++ [])))))) (fun v L1 W' => ∃ (S1 : List (Nat × Obj)) (y3 : Value) (S4 : List (Nat × Obj)), v = (.tuple #[]) ∧ L1 = ((b_a0, Obj.cells (#[v_a0_in_, v_a0_creds, v_a0_uses, v_a0_words, y3, (.int .i64 (r.2.2))] : Array Value) 134 (0, 0)) :: (S1 ++ (R_a0_creds ++ (R_a0_uses ++ (R_a0_words ++ (S4 ++ [])))))) ∧ DeepE (fun (x : Role) => (.agg (encRole x).toArray)) (MapRow Value.string (fun (x : Bool) => (Value.bool x))) v_a0_in_ r.1 S1 ∧ Que 78 encFact 3 y3 r.2.1 S4) := by
  have hST := (ST.startM (dd := false) hH hN).weak hS0
  unfold m_model_Model_use_w at hm
  refine calls_of_CW (n := 57) Tryz.func147 rfl rfl (Nat.le_of_ble_eq_true rfl) ?_
  refine CW_seq ?_
  refine CW_region ?_
  refine LE (E_box (v := (.agg (encCred a1).toArray)) hST rfl (fun W2 b1 hST => ?_))
  refine LE (E_box (v := (.agg (encFact a2).toArray)) hST rfl (fun W4 b3 hST => ?_))
  refine LW_nil ?_
  refine sq_n ?_
  refine CW_seq ?_
  refine CW_region ?_
  refine LV (R_field fa83_0 rfl) ?_
  refine LV (R_load (v := (.int .i64 a1.Kind)) rfl (load_box1 hST.has (.tail _ (.head _)) rfl Tryz.isAgg3)) ?_
  refine LW_nil ?_
  refine sq_n ?_
  refine CW_block ?_
  refine CW_seq ?_
  refine CW_region ?_
  refine LV (R_int (k := .i64) (a := a1.Kind) (b := 2) (v := (.bool ((a1.Kind == 2)))) rfl rfl rfl) ?_
  refine LV (R_assign (v := (.bool ((a1.Kind == 2)))) rfl) ?_
  refine LW_nil ?_
  refine sq_n ?_
  refine CW_if (b := (a1.Kind == 2)) rfl (fun hb5 => ?_) (fun hb5 => ?_)
  · replace hm := if_t hb5 hm
    refine CW_region ?_
    refine LV (R_move (v := (.pointer (some ⟨b_a0, 0, none⟩))) rfl) ?_
    refine LV (R_field fa83_1 rfl) ?_
    refine LV (R_load (v := (.agg (encRole a1.Head).toArray)) rfl (load_boxA hST.has (.tail _ (.head _)) (encRole a1.Head) rfl Tryz.isAgg47 Tryz.sizeOf47)) ?_
    refine LV (R_field fa78_1 rfl) ?_
    refine LV (R_load (v := (.string a2.Who)) rfl (load_box1 hST.has (.head _) rfl Tryz.isAgg9)) ?_
    obtain ⟨r6, hr7, hm⟩ := bind_some hm
    replace hST : ST false (keys ((b_a0, Obj.cells (#[v_a0_in_, v_a0_creds, v_a0_uses, v_a0_words, v_a0_todo, (.int .i64 a0_n)] : Array Value) 134 (0, 0)) :: (R_a0_in_ ++ (R_a0_creds ++ (R_a0_uses ++ (R_a0_words ++ (R_a0_todo ++ []))))))) w _ _ ((b_a0, Obj.cells (#[v_a0_in_, v_a0_creds, v_a0_uses, v_a0_words, v_a0_todo, (.int .i64 a0_n)] : Array Value) 134 (0, 0)) :: (R_a0_in_ ++ (R_a0_creds ++ (R_a0_uses ++ (R_a0_words ++ (R_a0_todo ++ ((b3, Obj.cells ((encFact a2).toArray : Array Value) 78 (0, 0)) :: ((b1, Obj.cells ((encCred a1).toArray : Array Value) 83 (0, 0)) :: [])))))))) := hST.perm (permD [[(b3, Obj.cells ((encFact a2).toArray : Array Value) 78 (0, 0))], [(b1, Obj.cells ((encCred a1).toArray : Array Value) 83 (0, 0))], [(b_a0, Obj.cells (#[v_a0_in_, v_a0_creds, v_a0_uses, v_a0_words, v_a0_todo, (.int .i64 a0_n)] : Array Value) 134 (0, 0))], R_a0_in_, R_a0_creds, R_a0_uses, R_a0_words, R_a0_todo] [0, 1, 2, 3, 4, 5, 6, 7] [2, 3, 4, 5, 6, 7, 0, 1] ([]) (by decide) rfl rfl)
    have hsz := hST.size
    refine LE (E_callM (args := [(.pointer (some ⟨b_a0, 0, none⟩)), (.agg (encRole a1.Head).toArray), (.string a2.Who)]) (caps := #[]) (((b_a0, Obj.cells (#[v_a0_in_, v_a0_creds, v_a0_uses, v_a0_words, v_a0_todo, (.int .i64 a0_n)] : Array Value) 134 (0, 0)) :: (R_a0_in_ ++ (R_a0_creds ++ (R_a0_uses ++ (R_a0_words ++ (R_a0_todo ++ []))))))) (((b3, Obj.cells ((encFact a2).toArray : Array Value) 78 (0, 0)) :: ((b1, Obj.cells ((encCred a1).toArray : Array Value) 83 (0, 0)) :: []))) hST (by simp only [List.append_assoc, List.cons_append, List.nil_append]; exact List.Perm.refl _) rfl Tryz.call146 (by exact args3 rfl rfl rfl) (fun hH hN hsb hmm => GivesM.weak (w_model_Model_tell_w b_a0 v_a0_in_ a0_in_ R_a0_in_ v_a0_creds a0_creds R_a0_creds v_a0_uses a0_uses R_a0_uses v_a0_words a0_words R_a0_words v_a0_todo a0_todo R_a0_todo a0_n a1.Head a2.Who _ _ hH hN (Sub.refl _) h_a0_in_ h_a0_creds h_a0_uses h_a0_words h_a0_todo hr7)) (fun W8 v11 μ9 L13 hST hle10 hlift hK12 => ?_))
    obtain ⟨S14, y16, S17, hv19, rfl, hy15, hy18⟩ := hK12
    replace hv19 := hv19.symm; subst hv19
    simp only [List.append_assoc, List.cons_append, List.nil_append] at hST
    replace hST : ST false (keys ((b_a0, Obj.cells (#[v_a0_in_, v_a0_creds, v_a0_uses, v_a0_words, v_a0_todo, (.int .i64 a0_n)] : Array Value) 134 (0, 0)) :: (R_a0_in_ ++ (R_a0_creds ++ (R_a0_uses ++ (R_a0_words ++ (R_a0_todo ++ []))))))) w _ _ ((b_a0, Obj.cells (#[v_a0_in_, v_a0_creds, v_a0_uses, v_a0_words, y16, (.int .i64 (r6.2.2))] : Array Value) 134 (0, 0)) :: ((b3, Obj.cells ((encFact a2).toArray : Array Value) 78 (0, 0)) :: ((b1, Obj.cells ((encCred a1).toArray : Array Value) 83 (0, 0)) :: (S14 ++ (R_a0_creds ++ (R_a0_uses ++ (R_a0_words ++ (S17 ++ [])))))))) := hST.perm (permD [[(b_a0, Obj.cells (#[v_a0_in_, v_a0_creds, v_a0_uses, v_a0_words, y16, (.int .i64 (r6.2.2))] : Array Value) 134 (0, 0))], S14, R_a0_creds, R_a0_uses, R_a0_words, S17, [(b3, Obj.cells ((encFact a2).toArray : Array Value) 78 (0, 0))], [(b1, Obj.cells ((encCred a1).toArray : Array Value) 83 (0, 0))]] [0, 1, 2, 3, 4, 5, 6, 7] [0, 6, 7, 1, 2, 3, 4, 5] ([]) (by decide) rfl rfl)
    refine LW_nil ?_
    refine bq_n ?_
    refine retQ_n ?_
    replace hm := Option.some.inj hm; subst hm
    refine retQ_0 rfl ?_
    replace hST : ST false (keys ((b_a0, Obj.cells (#[v_a0_in_, v_a0_creds, v_a0_uses, v_a0_words, v_a0_todo, (.int .i64 a0_n)] : Array Value) 134 (0, 0)) :: (R_a0_in_ ++ (R_a0_creds ++ (R_a0_uses ++ (R_a0_words ++ (R_a0_todo ++ []))))))) w _ _ ((b_a0, Obj.cells (#[v_a0_in_, v_a0_creds, v_a0_uses, v_a0_words, y16, (.int .i64 (r6.2.2))] : Array Value) 134 (0, 0)) :: ((b3, Obj.cells ((encFact a2).toArray : Array Value) 78 (0, 0)) :: ((b1, Obj.cells ((encCred a1).toArray : Array Value) 83 (0, 0)) :: (S14 ++ (R_a0_creds ++ (R_a0_uses ++ (R_a0_words ++ (S17 ++ [])))))))) := hST
    exact ⟨_, ((b_a0, Obj.cells (#[v_a0_in_, v_a0_creds, v_a0_uses, v_a0_words, y16, (.int .i64 (r6.2.2))] : Array Value) 134 (0, 0)) :: (S14 ++ (R_a0_creds ++ (R_a0_uses ++ (R_a0_words ++ (S17 ++ [])))))), rfl, (ST.backM (L1 := ((b_a0, Obj.cells (#[v_a0_in_, v_a0_creds, v_a0_uses, v_a0_words, y16, (.int .i64 (r6.2.2))] : Array Value) 134 (0, 0)) :: (S14 ++ (R_a0_creds ++ (R_a0_uses ++ (R_a0_words ++ (S17 ++ []))))))) (by have hh : ST false (keys ((b_a0, Obj.cells (#[v_a0_in_, v_a0_creds, v_a0_uses, v_a0_words, v_a0_todo, (.int .i64 a0_n)] : Array Value) 134 (0, 0)) :: (R_a0_in_ ++ (R_a0_creds ++ (R_a0_uses ++ (R_a0_words ++ (R_a0_todo ++ []))))))) w _ _ ((b_a0, Obj.cells (#[v_a0_in_, v_a0_creds, v_a0_uses, v_a0_words, y16, (.int .i64 (r6.2.2))] : Array Value) 134 (0, 0)) :: (S14 ++ (R_a0_creds ++ (R_a0_uses ++ (R_a0_words ++ (S17 ++ ((b3, Obj.cells ((encFact a2).toArray : Array Value) 78 (0, 0)) :: ((b1, Obj.cells ((encCred a1).toArray : Array Value) 83 (0, 0)) :: [])))))))) := hST.perm (permD [[(b_a0, Obj.cells (#[v_a0_in_, v_a0_creds, v_a0_uses, v_a0_words, y16, (.int .i64 (r6.2.2))] : Array Value) 134 (0, 0))], [(b3, Obj.cells ((encFact a2).toArray : Array Value) 78 (0, 0))], [(b1, Obj.cells ((encCred a1).toArray : Array Value) 83 (0, 0))], S14, R_a0_creds, R_a0_uses, R_a0_words, S17] [0, 1, 2, 3, 4, 5, 6, 7] [0, 3, 4, 5, 6, 7, 1, 2] ([]) (by decide) rfl rfl); simpa only [List.append_assoc, List.cons_append, List.nil_append] using hh)), S14, y16, S17, rfl, rfl, hy15, hy18⟩
  · replace hm := if_f hb5 hm
    refine CW_seq ?_
    refine CW_region ?_
    refine LV (R_int (k := .i64) (a := a1.Kind) (b := 3) (v := (.bool ((a1.Kind == 3)))) rfl rfl rfl) ?_
    refine LV (R_assign (v := (.bool ((a1.Kind == 3)))) rfl) ?_
    refine LW_nil ?_
    refine sq_n ?_
    refine CW_if (b := (a1.Kind == 3)) rfl (fun hb20 => ?_) (fun hb20 => ?_)
    · replace hm := if_t hb20 hm
      refine CW_region ?_
      refine LV (R_move (v := (.pointer (some ⟨b_a0, 0, none⟩))) rfl) ?_
      refine LV (R_field fa78_1 rfl) ?_
      refine LV (R_load (v := (.string a2.Who)) rfl (load_box1 hST.has (.head _) rfl Tryz.isAgg9)) ?_
      refine LV (R_field fa83_5 rfl) ?_
      refine LV (R_load (v := (.string a1.Word2)) rfl (load_box1 hST.has (.tail _ (.head _)) rfl Tryz.isAgg9)) ?_
      refine LV (R_build (qs := #[(0, (.string a2.Who)), (1, (.string a1.Word2))]) (v := (.agg (encRole ((⟨a2.Who, a1.Word2⟩ : Role))).toArray)) (parts2 rfl rfl) (run_build Tryz.zeroValue47 Tryz.underlying47 (pl47 _ Tryz.underlying47) (by kernel_rfl))) ?_
      refine LV (R_field fa83_1 rfl) ?_
      refine LV (R_load (v := (.agg (encRole a1.Head).toArray)) rfl (load_boxA hST.has (.tail _ (.head _)) (encRole a1.Head) rfl Tryz.isAgg47 Tryz.sizeOf47)) ?_
      obtain ⟨r21, hr22, hm⟩ := bind_some hm
      replace hST : ST false (keys ((b_a0, Obj.cells (#[v_a0_in_, v_a0_creds, v_a0_uses, v_a0_words, v_a0_todo, (.int .i64 a0_n)] : Array Value) 134 (0, 0)) :: (R_a0_in_ ++ (R_a0_creds ++ (R_a0_uses ++ (R_a0_words ++ (R_a0_todo ++ []))))))) w _ _ ((b_a0, Obj.cells (#[v_a0_in_, v_a0_creds, v_a0_uses, v_a0_words, v_a0_todo, (.int .i64 a0_n)] : Array Value) 134 (0, 0)) :: (R_a0_in_ ++ (R_a0_creds ++ (R_a0_uses ++ (R_a0_words ++ (R_a0_todo ++ ((b3, Obj.cells ((encFact a2).toArray : Array Value) 78 (0, 0)) :: ((b1, Obj.cells ((encCred a1).toArray : Array Value) 83 (0, 0)) :: [])))))))) := hST.perm (permD [[(b3, Obj.cells ((encFact a2).toArray : Array Value) 78 (0, 0))], [(b1, Obj.cells ((encCred a1).toArray : Array Value) 83 (0, 0))], [(b_a0, Obj.cells (#[v_a0_in_, v_a0_creds, v_a0_uses, v_a0_words, v_a0_todo, (.int .i64 a0_n)] : Array Value) 134 (0, 0))], R_a0_in_, R_a0_creds, R_a0_uses, R_a0_words, R_a0_todo] [0, 1, 2, 3, 4, 5, 6, 7] [2, 3, 4, 5, 6, 7, 0, 1] ([]) (by decide) rfl rfl)
      have hsz := hST.size
      refine LE (E_callM (args := [(.pointer (some ⟨b_a0, 0, none⟩)), (.agg (encRole ((⟨a2.Who, a1.Word2⟩ : Role))).toArray), (.agg (encRole a1.Head).toArray)]) (caps := #[]) (((b_a0, Obj.cells (#[v_a0_in_, v_a0_creds, v_a0_uses, v_a0_words, v_a0_todo, (.int .i64 a0_n)] : Array Value) 134 (0, 0)) :: (R_a0_in_ ++ (R_a0_creds ++ (R_a0_uses ++ (R_a0_words ++ (R_a0_todo ++ []))))))) (((b3, Obj.cells ((encFact a2).toArray : Array Value) 78 (0, 0)) :: ((b1, Obj.cells ((encCred a1).toArray : Array Value) 83 (0, 0)) :: []))) hST (by simp only [List.append_assoc, List.cons_append, List.nil_append]; exact List.Perm.refl _) rfl Tryz.call187 (by exact args3 rfl rfl rfl) (fun hH hN hsb hmm => (w_model_Model_all_w b_a0 v_a0_in_ a0_in_ R_a0_in_ v_a0_creds a0_creds R_a0_creds v_a0_uses a0_uses R_a0_uses v_a0_words a0_words R_a0_words v_a0_todo a0_todo R_a0_todo a0_n ((⟨a2.Who, a1.Word2⟩ : Role)) a1.Head _ _ hH hN (Sub.refl _) h_a0_in_ h_a0_creds h_a0_uses h_a0_words h_a0_todo hr22)) (fun W23 v26 μ24 L28 hST hle25 hlift hK27 => ?_))
      obtain ⟨S29, y31, S32, hv34, rfl, hy30, hy33⟩ := hK27
      replace hv34 := hv34.symm; subst hv34
      simp only [List.append_assoc, List.cons_append, List.nil_append] at hST
      replace hST : ST false (keys ((b_a0, Obj.cells (#[v_a0_in_, v_a0_creds, v_a0_uses, v_a0_words, v_a0_todo, (.int .i64 a0_n)] : Array Value) 134 (0, 0)) :: (R_a0_in_ ++ (R_a0_creds ++ (R_a0_uses ++ (R_a0_words ++ (R_a0_todo ++ []))))))) w _ _ ((b_a0, Obj.cells (#[v_a0_in_, v_a0_creds, v_a0_uses, v_a0_words, y31, (.int .i64 (r21.2.2))] : Array Value) 134 (0, 0)) :: ((b3, Obj.cells ((encFact a2).toArray : Array Value) 78 (0, 0)) :: ((b1, Obj.cells ((encCred a1).toArray : Array Value) 83 (0, 0)) :: (S29 ++ (R_a0_creds ++ (R_a0_uses ++ (R_a0_words ++ (S32 ++ [])))))))) := hST.perm (permD [[(b_a0, Obj.cells (#[v_a0_in_, v_a0_creds, v_a0_uses, v_a0_words, y31, (.int .i64 (r21.2.2))] : Array Value) 134 (0, 0))], S29, R_a0_creds, R_a0_uses, R_a0_words, S32, [(b3, Obj.cells ((encFact a2).toArray : Array Value) 78 (0, 0))], [(b1, Obj.cells ((encCred a1).toArray : Array Value) 83 (0, 0))]] [0, 1, 2, 3, 4, 5, 6, 7] [0, 6, 7, 1, 2, 3, 4, 5] ([]) (by decide) rfl rfl)
      refine LW_nil ?_
      refine bq_n ?_
      refine retQ_n ?_
      replace hm := Option.some.inj hm; subst hm
      refine retQ_0 rfl ?_
      replace hST : ST false (keys ((b_a0, Obj.cells (#[v_a0_in_, v_a0_creds, v_a0_uses, v_a0_words, v_a0_todo, (.int .i64 a0_n)] : Array Value) 134 (0, 0)) :: (R_a0_in_ ++ (R_a0_creds ++ (R_a0_uses ++ (R_a0_words ++ (R_a0_todo ++ []))))))) w _ _ ((b_a0, Obj.cells (#[v_a0_in_, v_a0_creds, v_a0_uses, v_a0_words, y31, (.int .i64 (r21.2.2))] : Array Value) 134 (0, 0)) :: ((b3, Obj.cells ((encFact a2).toArray : Array Value) 78 (0, 0)) :: ((b1, Obj.cells ((encCred a1).toArray : Array Value) 83 (0, 0)) :: (S29 ++ (R_a0_creds ++ (R_a0_uses ++ (R_a0_words ++ (S32 ++ [])))))))) := hST
      exact ⟨_, ((b_a0, Obj.cells (#[v_a0_in_, v_a0_creds, v_a0_uses, v_a0_words, y31, (.int .i64 (r21.2.2))] : Array Value) 134 (0, 0)) :: (S29 ++ (R_a0_creds ++ (R_a0_uses ++ (R_a0_words ++ (S32 ++ [])))))), rfl, (ST.backM (L1 := ((b_a0, Obj.cells (#[v_a0_in_, v_a0_creds, v_a0_uses, v_a0_words, y31, (.int .i64 (r21.2.2))] : Array Value) 134 (0, 0)) :: (S29 ++ (R_a0_creds ++ (R_a0_uses ++ (R_a0_words ++ (S32 ++ []))))))) (by have hh : ST false (keys ((b_a0, Obj.cells (#[v_a0_in_, v_a0_creds, v_a0_uses, v_a0_words, v_a0_todo, (.int .i64 a0_n)] : Array Value) 134 (0, 0)) :: (R_a0_in_ ++ (R_a0_creds ++ (R_a0_uses ++ (R_a0_words ++ (R_a0_todo ++ []))))))) w _ _ ((b_a0, Obj.cells (#[v_a0_in_, v_a0_creds, v_a0_uses, v_a0_words, y31, (.int .i64 (r21.2.2))] : Array Value) 134 (0, 0)) :: (S29 ++ (R_a0_creds ++ (R_a0_uses ++ (R_a0_words ++ (S32 ++ ((b3, Obj.cells ((encFact a2).toArray : Array Value) 78 (0, 0)) :: ((b1, Obj.cells ((encCred a1).toArray : Array Value) 83 (0, 0)) :: [])))))))) := hST.perm (permD [[(b_a0, Obj.cells (#[v_a0_in_, v_a0_creds, v_a0_uses, v_a0_words, y31, (.int .i64 (r21.2.2))] : Array Value) 134 (0, 0))], [(b3, Obj.cells ((encFact a2).toArray : Array Value) 78 (0, 0))], [(b1, Obj.cells ((encCred a1).toArray : Array Value) 83 (0, 0))], S29, R_a0_creds, R_a0_uses, R_a0_words, S32] [0, 1, 2, 3, 4, 5, 6, 7] [0, 3, 4, 5, 6, 7, 1, 2] ([]) (by decide) rfl rfl); simpa only [List.append_assoc, List.cons_append, List.nil_append] using hh)), S29, y31, S32, rfl, rfl, hy30, hy33⟩
    · replace hm := if_f hb20 hm
      refine CW_seq ?_
      refine CW_region ?_
      refine LV (R_int (k := .i64) (a := a1.Kind) (b := 4) (v := (.bool ((a1.Kind == 4)))) rfl rfl rfl) ?_
      refine LV (R_assign (v := (.bool ((a1.Kind == 4)))) rfl) ?_
      refine LW_nil ?_
      refine sq_n ?_
      refine CW_if (b := (a1.Kind == 4)) rfl (fun hb35 => ?_) (fun hb35 => ?_)
      · replace hm := if_t hb35 hm
        refine CW_seq ?_
        refine PX_start (fun l W => Has μ0 ((b3, Obj.cells ((encFact a2).toArray : Array Value) 78 (0, 0)) :: ((b1, Obj.cells ((encCred a1).toArray : Array Value) 83 (0, 0)) :: ((b_a0, Obj.cells (#[v_a0_in_, v_a0_creds, v_a0_uses, v_a0_words, v_a0_todo, (.int .i64 a0_n)] : Array Value) 134 (0, 0)) :: (R_a0_in_ ++ [])))) W) Tryz_mixed ?_
        replace hST := hST.drew
        have hS0 : Has μ0 ((b3, Obj.cells ((encFact a2).toArray : Array Value) 78 (0, 0)) :: ((b1, Obj.cells ((encCred a1).toArray : Array Value) 83 (0, 0)) :: ((b_a0, Obj.cells (#[v_a0_in_, v_a0_creds, v_a0_uses, v_a0_words, v_a0_todo, (.int .i64 a0_n)] : Array Value) 134 (0, 0)) :: (R_a0_in_ ++ [])))) _ := hST.has.sub (Sub.refl _) (fun p hq => ((List.mem_cons.1 hq).elim (fun hq => by rw [hq]; exact (.head _)) (fun hq => ((List.mem_cons.1 hq).elim (fun hq => by rw [hq]; exact (.tail _ (.head _))) (fun hq => ((List.mem_cons.1 hq).elim (fun hq => by rw [hq]; exact (.tail _ (.tail _ (.head _)))) (fun hq => ((List.mem_append.1 hq).elim (fun hq => (.tail _ (.tail _ (.tail _ (List.mem_append_left _ hq))))) (fun hq => (absurd hq List.not_mem_nil))))))))))
        refine PV 0 rfl hS0 (R_move (v := (.pointer (some ⟨b_a0, 0, none⟩))) rfl) ?_
        refine PV 1 rfl hS0 (R_nilCheck rfl) ?_
        refine PV 2 rfl hS0 (R_field fa134_0 rfl) ?_
        refine PX_v 3 rfl (by kernel_rfl) (.inl rfl) rfl (by decide) (fun _ _ h => h) hS0 (fun l W hpd hs => have hS := hs; R_load (v := v_a0_in_) rfl (load_box1 hS (.tail _ (.tail _ (.head _))) rfl Tryz.isAgg130)) ?_
        refine PV 4 rfl hS0 (R_field fa83_3 rfl) ?_
        refine PX_v 5 rfl (by kernel_rfl) (.inl rfl) rfl (by decide) (fun _ _ h => h) hS0 (fun l W hpd hs => have hS := hs; R_load (v := (.agg (encRole a1.B).toArray)) rfl (load_boxA hS (.tail _ (.head _)) (encRole a1.B) rfl Tryz.isAgg47 Tryz.sizeOf47)) ?_
        obtain ⟨lv64, hd65⟩ := h_a0_in_
        refine PX_v 6 rfl (by kernel_rfl) (.inl rfl) rfl (by decide) (fun _ _ h => h) hS0 (fun l W hpd hs => have hS := hs; R_lookupDeep (k := a1.B) (z := (.map none)) kl47 Tryz.underlying130 Tryz.zeroValue119 rfl rfl hd65 (fun b o hq => hS.2 b o (.tail _ (.tail _ (.tail _ (List.mem_append_left _ hq)))))) ?_
        refine PV 7 rfl hS0 (R_field fa78_1 rfl) ?_
        refine PX_v 8 rfl (by kernel_rfl) (.inl rfl) rfl (by decide) (fun _ _ h => h) hS0 (fun l W hpd hs => have hS := hs; R_load (v := (.string a2.Who)) rfl (load_box1 hS (.head _) rfl Tryz.isAgg9)) ?_
        refine PX_v 9 rfl (by kernel_rfl) (.inl rfl) rfl (by decide) (fun _ _ h => h) hS0 (fun l W hpd hs => have hS := hs; R_lookupD (k := a2.Who) (z := false) (vf := (fun (x : Bool) => (Value.bool x))) kl9 Tryz.underlying119 Tryz.zeroValue4 rfl rfl (DeepV.mapAt (μ := hp _) beqRole_iff.1 hd65 a1.B (fun b o hq => hS.2 b o (.tail _ (.tail _ (.tail _ (List.mem_append_left _ hq))))))) ?_
        refine PV 10 rfl hS0 (R_move (v := (.bool ((mgetD beqS (((mget beqRole a0_in_ a1.B).getD [])) a2.Who false)))) rfl) ?_
        obtain ⟨s89, hm90, hm91⟩ := bind_some hm
        refine PX_join (J := fun E W => ∃ (x67 : Bool) (L68 : List (Nat × Obj)), ST false (keys ((b_a0, Obj.cells (#[v_a0_in_, v_a0_creds, v_a0_uses, v_a0_words, v_a0_todo, (.int .i64 a0_n)] : Array Value) 134 (0, 0)) :: (R_a0_in_ ++ (R_a0_creds ++ (R_a0_uses ++ (R_a0_words ++ (R_a0_todo ++ []))))))) w W μ0 ((b3, Obj.cells ((encFact a2).toArray : Array Value) 78 (0, 0)) :: ((b1, Obj.cells ((encCred a1).toArray : Array Value) 83 (0, 0)) :: ((b_a0, Obj.cells (#[v_a0_in_, v_a0_creds, v_a0_uses, v_a0_words, v_a0_todo, (.int .i64 a0_n)] : Array Value) 134 (0, 0)) :: (R_a0_in_ ++ (R_a0_creds ++ (R_a0_uses ++ (R_a0_words ++ (R_a0_todo ++ L68)))))))) ∧ E 0 = (.pointer (some ⟨b_a0, 0, none⟩)) ∧ E 4 = (.pointer (some ⟨b1, 0, none⟩)) ∧ E 5 = (.pointer (some ⟨b3, 0, none⟩)) ∧ E 50 = (.bool x67) ∧ (if x67 then (((m_model_Model_tell_w a0_in_ a0_creds a0_uses a0_words a0_todo a0_n a1.Head a2.Who)).bind fun r75 => some (r75.1, r75.2.1, r75.2.2)) else some (a0_in_, a0_todo, a0_n)) = some r) #[true, true, true, true, true, true, true, true, true, true, true, true, true, true, true, true, true, true, true, true, true, true] 0 ?_ (fun key92 => ?_)
        · rintro E W ⟨x67, L68, hST, e70, e71, e72, e73, hm69⟩
          have hS0 : Has μ0 ((b3, Obj.cells ((encFact a2).toArray : Array Value) 78 (0, 0)) :: ((b1, Obj.cells ((encCred a1).toArray : Array Value) 83 (0, 0)) :: ((b_a0, Obj.cells (#[v_a0_in_, v_a0_creds, v_a0_uses, v_a0_words, v_a0_todo, (.int .i64 a0_n)] : Array Value) 134 (0, 0)) :: (R_a0_in_ ++ [])))) _ := hST.has.sub (Sub.refl _) (fun p hq => ((List.mem_cons.1 hq).elim (fun hq => by rw [hq]; exact (.head _)) (fun hq => ((List.mem_cons.1 hq).elim (fun hq => by rw [hq]; exact (.tail _ (.head _))) (fun hq => ((List.mem_cons.1 hq).elim (fun hq => by rw [hq]; exact (.tail _ (.tail _ (.head _)))) (fun hq => ((List.mem_append.1 hq).elim (fun hq => (.tail _ (.tail _ (.tail _ (List.mem_append_left _ hq))))) (fun hq => (absurd hq List.not_mem_nil))))))))))
          refine PX_done (by kernel_rfl) ?_
          refine sq_n ?_
          refine CW_if (b := x67) e73 (fun hb74 => ?_) (fun hb74 => ?_)
          · replace hm69 := if_t hb74 hm69
            refine CW_region ?_
            refine LV (R_move (v := (.pointer (some ⟨b_a0, 0, none⟩))) e70) ?_
            refine LV (R_field fa83_1 e71) ?_
            refine LV (R_load (v := (.agg (encRole a1.Head).toArray)) rfl (load_boxA hST.has (.tail _ (.head _)) (encRole a1.Head) rfl Tryz.isAgg47 Tryz.sizeOf47)) ?_
            refine LV (R_field fa78_1 e72) ?_
            refine LV (R_load (v := (.string a2.Who)) rfl (load_box1 hST.has (.head _) rfl Tryz.isAgg9)) ?_
            obtain ⟨r75, hr76, hm69⟩ := bind_some hm69
            replace hST : ST false (keys ((b_a0, Obj.cells (#[v_a0_in_, v_a0_creds, v_a0_uses, v_a0_words, v_a0_todo, (.int .i64 a0_n)] : Array Value) 134 (0, 0)) :: (R_a0_in_ ++ (R_a0_creds ++ (R_a0_uses ++ (R_a0_words ++ (R_a0_todo ++ []))))))) w _ _ ((b_a0, Obj.cells (#[v_a0_in_, v_a0_creds, v_a0_uses, v_a0_words, v_a0_todo, (.int .i64 a0_n)] : Array Value) 134 (0, 0)) :: (R_a0_in_ ++ (R_a0_creds ++ (R_a0_uses ++ (R_a0_words ++ (R_a0_todo ++ ((b3, Obj.cells ((encFact a2).toArray : Array Value) 78 (0, 0)) :: ((b1, Obj.cells ((encCred a1).toArray : Array Value) 83 (0, 0)) :: L68)))))))) := hST.perm (permD [[(b3, Obj.cells ((encFact a2).toArray : Array Value) 78 (0, 0))], [(b1, Obj.cells ((encCred a1).toArray : Array Value) 83 (0, 0))], [(b_a0, Obj.cells (#[v_a0_in_, v_a0_creds, v_a0_uses, v_a0_words, v_a0_todo, (.int .i64 a0_n)] : Array Value) 134 (0, 0))], R_a0_in_, R_a0_creds, R_a0_uses, R_a0_words, R_a0_todo] [0, 1, 2, 3, 4, 5, 6, 7] [2, 3, 4, 5, 6, 7, 0, 1] L68 (by decide) rfl rfl)
            have hsz := hST.size
            refine LE (E_callM (args := [(.pointer (some ⟨b_a0, 0, none⟩)), (.agg (encRole a1.Head).toArray), (.string a2.Who)]) (caps := #[]) (((b_a0, Obj.cells (#[v_a0_in_, v_a0_creds, v_a0_uses, v_a0_words, v_a0_todo, (.int .i64 a0_n)] : Array Value) 134 (0, 0)) :: (R_a0_in_ ++ (R_a0_creds ++ (R_a0_uses ++ (R_a0_words ++ (R_a0_todo ++ []))))))) (((b3, Obj.cells ((encFact a2).toArray : Array Value) 78 (0, 0)) :: ((b1, Obj.cells ((encCred a1).toArray : Array Value) 83 (0, 0)) :: L68))) hST (by simp only [List.append_assoc, List.cons_append, List.nil_append]; exact List.Perm.refl _) rfl Tryz.call146 (by exact args3 rfl rfl rfl) (fun hH hN hsb hmm => GivesM.weak (w_model_Model_tell_w b_a0 v_a0_in_ a0_in_ R_a0_in_ v_a0_creds a0_creds R_a0_creds v_a0_uses a0_uses R_a0_uses v_a0_words a0_words R_a0_words v_a0_todo a0_todo R_a0_todo a0_n a1.Head a2.Who _ _ hH hN (Sub.refl _) hd65.e h_a0_creds h_a0_uses h_a0_words h_a0_todo hr76)) (fun W77 v80 μ78 L82 hST hle79 hlift hK81 => ?_))
            obtain ⟨S83, y85, S86, hv88, rfl, hy84, hy87⟩ := hK81
            replace hv88 := hv88.symm; subst hv88
            simp only [List.append_assoc, List.cons_append, List.nil_append] at hST
            replace hST : ST false (keys ((b_a0, Obj.cells (#[v_a0_in_, v_a0_creds, v_a0_uses, v_a0_words, v_a0_todo, (.int .i64 a0_n)] : Array Value) 134 (0, 0)) :: (R_a0_in_ ++ (R_a0_creds ++ (R_a0_uses ++ (R_a0_words ++ (R_a0_todo ++ []))))))) w _ _ ((b_a0, Obj.cells (#[v_a0_in_, v_a0_creds, v_a0_uses, v_a0_words, y85, (.int .i64 (r75.2.2))] : Array Value) 134 (0, 0)) :: ((b3, Obj.cells ((encFact a2).toArray : Array Value) 78 (0, 0)) :: ((b1, Obj.cells ((encCred a1).toArray : Array Value) 83 (0, 0)) :: (S83 ++ (R_a0_creds ++ (R_a0_uses ++ (R_a0_words ++ (S86 ++ L68)))))))) := hST.perm (permD [[(b_a0, Obj.cells (#[v_a0_in_, v_a0_creds, v_a0_uses, v_a0_words, y85, (.int .i64 (r75.2.2))] : Array Value) 134 (0, 0))], S83, R_a0_creds, R_a0_uses, R_a0_words, S86, [(b3, Obj.cells ((encFact a2).toArray : Array Value) 78 (0, 0))], [(b1, Obj.cells ((encCred a1).toArray : Array Value) 83 (0, 0))]] [0, 1, 2, 3, 4, 5, 6, 7] [0, 6, 7, 1, 2, 3, 4, 5] L68 (by decide) rfl rfl)
            refine LW_nil ?_
            refine bq_n ?_
            refine retQ_n ?_
            replace hm69 := Option.some.inj hm69; subst hm69
            refine retQ_0 rfl ?_
            replace hST : ST false (keys ((b_a0, Obj.cells (#[v_a0_in_, v_a0_creds, v_a0_uses, v_a0_words, v_a0_todo, (.int .i64 a0_n)] : Array Value) 134 (0, 0)) :: (R_a0_in_ ++ (R_a0_creds ++ (R_a0_uses ++ (R_a0_words ++ (R_a0_todo ++ []))))))) w _ _ ((b_a0, Obj.cells (#[v_a0_in_, v_a0_creds, v_a0_uses, v_a0_words, y85, (.int .i64 (r75.2.2))] : Array Value) 134 (0, 0)) :: ((b3, Obj.cells ((encFact a2).toArray : Array Value) 78 (0, 0)) :: ((b1, Obj.cells ((encCred a1).toArray : Array Value) 83 (0, 0)) :: (S83 ++ (R_a0_creds ++ (R_a0_uses ++ (R_a0_words ++ (S86 ++ L68)))))))) := hST
            exact ⟨_, ((b_a0, Obj.cells (#[v_a0_in_, v_a0_creds, v_a0_uses, v_a0_words, y85, (.int .i64 (r75.2.2))] : Array Value) 134 (0, 0)) :: (S83 ++ (R_a0_creds ++ (R_a0_uses ++ (R_a0_words ++ (S86 ++ [])))))), rfl, (ST.backM (L1 := ((b_a0, Obj.cells (#[v_a0_in_, v_a0_creds, v_a0_uses, v_a0_words, y85, (.int .i64 (r75.2.2))] : Array Value) 134 (0, 0)) :: (S83 ++ (R_a0_creds ++ (R_a0_uses ++ (R_a0_words ++ (S86 ++ []))))))) (by have hh : ST false (keys ((b_a0, Obj.cells (#[v_a0_in_, v_a0_creds, v_a0_uses, v_a0_words, v_a0_todo, (.int .i64 a0_n)] : Array Value) 134 (0, 0)) :: (R_a0_in_ ++ (R_a0_creds ++ (R_a0_uses ++ (R_a0_words ++ (R_a0_todo ++ []))))))) w _ _ ((b_a0, Obj.cells (#[v_a0_in_, v_a0_creds, v_a0_uses, v_a0_words, y85, (.int .i64 (r75.2.2))] : Array Value) 134 (0, 0)) :: (S83 ++ (R_a0_creds ++ (R_a0_uses ++ (R_a0_words ++ (S86 ++ ((b3, Obj.cells ((encFact a2).toArray : Array Value) 78 (0, 0)) :: ((b1, Obj.cells ((encCred a1).toArray : Array Value) 83 (0, 0)) :: L68)))))))) := hST.perm (permD [[(b_a0, Obj.cells (#[v_a0_in_, v_a0_creds, v_a0_uses, v_a0_words, y85, (.int .i64 (r75.2.2))] : Array Value) 134 (0, 0))], [(b3, Obj.cells ((encFact a2).toArray : Array Value) 78 (0, 0))], [(b1, Obj.cells ((encCred a1).toArray : Array Value) 83 (0, 0))], S83, R_a0_creds, R_a0_uses, R_a0_words, S86] [0, 1, 2, 3, 4, 5, 6, 7] [0, 3, 4, 5, 6, 7, 1, 2] L68 (by decide) rfl rfl); simpa only [List.append_assoc, List.cons_append, List.nil_append] using hh)), S83, y85, S86, rfl, rfl, hy84, hy87⟩
          · replace hm69 := if_f hb74 hm69
            refine CW_skip ?_
            refine bq_n ?_
            refine retQ_n ?_
            replace hm69 := Option.some.inj hm69; subst hm69
            refine retQ_0 rfl ?_
            replace hST : ST false (keys ((b_a0, Obj.cells (#[v_a0_in_, v_a0_creds, v_a0_uses, v_a0_words, v_a0_todo, (.int .i64 a0_n)] : Array Value) 134 (0, 0)) :: (R_a0_in_ ++ (R_a0_creds ++ (R_a0_uses ++ (R_a0_words ++ (R_a0_todo ++ []))))))) w _ _ ((b3, Obj.cells ((encFact a2).toArray : Array Value) 78 (0, 0)) :: ((b1, Obj.cells ((encCred a1).toArray : Array Value) 83 (0, 0)) :: ((b_a0, Obj.cells (#[v_a0_in_, v_a0_creds, v_a0_uses, v_a0_words, v_a0_todo, (.int .i64 a0_n)] : Array Value) 134 (0, 0)) :: (R_a0_in_ ++ (R_a0_creds ++ (R_a0_uses ++ (R_a0_words ++ (R_a0_todo ++ L68)))))))) := hST
            exact ⟨_, ((b_a0, Obj.cells (#[v_a0_in_, v_a0_creds, v_a0_uses, v_a0_words, v_a0_todo, (.int .i64 a0_n)] : Array Value) 134 (0, 0)) :: (R_a0_in_ ++ (R_a0_creds ++ (R_a0_uses ++ (R_a0_words ++ (R_a0_todo ++ [])))))), rfl, (ST.backM (L1 := ((b_a0, Obj.cells (#[v_a0_in_, v_a0_creds, v_a0_uses, v_a0_words, v_a0_todo, (.int .i64 a0_n)] : Array Value) 134 (0, 0)) :: (R_a0_in_ ++ (R_a0_creds ++ (R_a0_uses ++ (R_a0_words ++ (R_a0_todo ++ []))))))) (by have hh : ST false (keys ((b_a0, Obj.cells (#[v_a0_in_, v_a0_creds, v_a0_uses, v_a0_words, v_a0_todo, (.int .i64 a0_n)] : Array Value) 134 (0, 0)) :: (R_a0_in_ ++ (R_a0_creds ++ (R_a0_uses ++ (R_a0_words ++ (R_a0_todo ++ []))))))) w _ _ ((b_a0, Obj.cells (#[v_a0_in_, v_a0_creds, v_a0_uses, v_a0_words, v_a0_todo, (.int .i64 a0_n)] : Array Value) 134 (0, 0)) :: (R_a0_in_ ++ (R_a0_creds ++ (R_a0_uses ++ (R_a0_words ++ (R_a0_todo ++ ((b3, Obj.cells ((encFact a2).toArray : Array Value) 78 (0, 0)) :: ((b1, Obj.cells ((encCred a1).toArray : Array Value) 83 (0, 0)) :: L68)))))))) := hST.perm (permD [[(b3, Obj.cells ((encFact a2).toArray : Array Value) 78 (0, 0))], [(b1, Obj.cells ((encCred a1).toArray : Array Value) 83 (0, 0))], [(b_a0, Obj.cells (#[v_a0_in_, v_a0_creds, v_a0_uses, v_a0_words, v_a0_todo, (.int .i64 a0_n)] : Array Value) 134 (0, 0))], R_a0_in_, R_a0_creds, R_a0_uses, R_a0_words, R_a0_todo] [0, 1, 2, 3, 4, 5, 6, 7] [2, 3, 4, 5, 6, 7, 0, 1] L68 (by decide) rfl rfl); simpa only [List.append_assoc, List.cons_append, List.nil_append] using hh)), R_a0_in_, v_a0_todo, R_a0_todo, rfl, rfl, hd65.e, h_a0_todo⟩
        · rcases bool_cases ((mgetD beqS (((mget beqRole a0_in_ a1.B).getD [])) a2.Who false)) with hb66 | hb66
          · replace hm90 := if_t hb66 hm90
            refine PX_v 11 rfl (by kernel_rfl) (.inr ⟨10, true, 39, rfl, rfl, by decide, (congrArg Value.bool hb66)⟩) rfl (by decide) (fun _ _ h => h) hS0 (fun _ _ _ _ => R_move (v := (.pointer (some ⟨b_a0, 0, none⟩))) rfl) ?_
            refine PX_v 12 rfl (by kernel_rfl) (.inr ⟨10, true, 39, rfl, rfl, by decide, (congrArg Value.bool hb66)⟩) rfl (by decide) (fun _ _ h => h) hS0 (fun _ _ _ _ => R_nilCheck rfl) ?_
            refine PX_v 13 rfl (by kernel_rfl) (.inr ⟨10, true, 39, rfl, rfl, by decide, (congrArg Value.bool hb66)⟩) rfl (by decide) (fun _ _ h => h) hS0 (fun _ _ _ _ => R_field fa134_0 rfl) ?_
            refine PX_v 14 rfl (by kernel_rfl) (.inr ⟨10, true, 39, rfl, rfl, by decide, (congrArg Value.bool hb66)⟩) rfl (by decide) (fun _ _ h => h) hS0 (fun l W hpd hs => have hS := hs; R_load (v := v_a0_in_) rfl (load_box1 hS (.tail _ (.tail _ (.head _))) rfl Tryz.isAgg130)) ?_
            refine PX_v 15 rfl (by kernel_rfl) (.inr ⟨10, true, 39, rfl, rfl, by decide, (congrArg Value.bool hb66)⟩) rfl (by decide) (fun _ _ h => h) hS0 (fun _ _ _ _ => R_field fa83_4 rfl) ?_
            refine PX_v 16 rfl (by kernel_rfl) (.inr ⟨10, true, 39, rfl, rfl, by decide, (congrArg Value.bool hb66)⟩) rfl (by decide) (fun _ _ h => h) hS0 (fun l W hpd hs => have hS := hs; R_load (v := (.agg (encRole a1.C).toArray)) rfl (load_boxA hS (.tail _ (.head _)) (encRole a1.C) rfl Tryz.isAgg47 Tryz.sizeOf47)) ?_
            refine PX_v 17 rfl (by kernel_rfl) (.inr ⟨10, true, 39, rfl, rfl, by decide, (congrArg Value.bool hb66)⟩) rfl (by decide) (fun _ _ h => h) hS0 (fun l W hpd hs => have hS := hs; R_lookupDeep (k := a1.C) (z := (.map none)) kl47 Tryz.underlying130 Tryz.zeroValue119 rfl rfl hd65 (fun b o hq => hS.2 b o (.tail _ (.tail _ (.tail _ (List.mem_append_left _ hq)))))) ?_
            refine PX_v 18 rfl (by kernel_rfl) (.inr ⟨10, true, 39, rfl, rfl, by decide, (congrArg Value.bool hb66)⟩) rfl (by decide) (fun _ _ h => h) hS0 (fun _ _ _ _ => R_field fa78_1 rfl) ?_
            refine PX_v 19 rfl (by kernel_rfl) (.inr ⟨10, true, 39, rfl, rfl, by decide, (congrArg Value.bool hb66)⟩) rfl (by decide) (fun _ _ h => h) hS0 (fun l W hpd hs => have hS := hs; R_load (v := (.string a2.Who)) rfl (load_box1 hS (.head _) rfl Tryz.isAgg9)) ?_
            refine PX_v 20 rfl (by kernel_rfl) (.inr ⟨10, true, 39, rfl, rfl, by decide, (congrArg Value.bool hb66)⟩) rfl (by decide) (fun _ _ h => h) hS0 (fun l W hpd hs => have hS := hs; R_lookupD (k := a2.Who) (z := false) (vf := (fun (x : Bool) => (Value.bool x))) kl9 Tryz.underlying119 Tryz.zeroValue4 rfl rfl (DeepV.mapAt (μ := hp _) beqRole_iff.1 hd65 a1.C (fun b o hq => hS.2 b o (.tail _ (.tail _ (.tail _ (List.mem_append_left _ hq))))))) ?_
            refine PV 21 rfl hS0 (R_pickT (v := (.bool ((mgetD beqS (((mget beqRole a0_in_ a1.C).getD [])) a2.Who false)))) (congrArg Value.bool hb66) rfl) ?_
            replace hm90 := Option.some.inj hm90; subst hm90
            refine PX_at (by kernel_rfl) (key92 _ _ ⟨((mgetD beqS (((mget beqRole a0_in_ a1.C).getD [])) a2.Who false)), _, (hST.sublist (List.Sublist.refl _)), rfl, rfl, rfl, rfl, hm91⟩)
          · replace hm90 := if_f hb66 hm90
            refine PX_no 11 rfl (by kernel_rfl) rfl rfl (by decide) (congrArg Value.bool hb66) rfl (by decide) (fun _ _ h => h) hS0 ?_
            refine PX_no 12 rfl (by kernel_rfl) rfl rfl (by decide) (congrArg Value.bool hb66) rfl (by decide) (fun _ _ h => h) hS0 ?_
            refine PX_no 13 rfl (by kernel_rfl) rfl rfl (by decide) (congrArg Value.bool hb66) rfl (by decide) (fun _ _ h => h) hS0 ?_
            refine PX_no 14 rfl (by kernel_rfl) rfl rfl (by decide) (congrArg Value.bool hb66) rfl (by decide) (fun _ _ h => h) hS0 ?_
            refine PX_no 15 rfl (by kernel_rfl) rfl rfl (by decide) (congrArg Value.bool hb66) rfl (by decide) (fun _ _ h => h) hS0 ?_
            refine PX_no 16 rfl (by kernel_rfl) rfl rfl (by decide) (congrArg Value.bool hb66) rfl (by decide) (fun _ _ h => h) hS0 ?_
            refine PX_no 17 rfl (by kernel_rfl) rfl rfl (by decide) (congrArg Value.bool hb66) rfl (by decide) (fun _ _ h => h) hS0 ?_
            refine PX_no 18 rfl (by kernel_rfl) rfl rfl (by decide) (congrArg Value.bool hb66) rfl (by decide) (fun _ _ h => h) hS0 ?_
            refine PX_no 19 rfl (by kernel_rfl) rfl rfl (by decide) (congrArg Value.bool hb66) rfl (by decide) (fun _ _ h => h) hS0 ?_
            refine PX_no 20 rfl (by kernel_rfl) rfl rfl (by decide) (congrArg Value.bool hb66) rfl (by decide) (fun _ _ h => h) hS0 ?_
            refine PV 21 rfl hS0 (R_pickF (v := (.bool false)) (congrArg Value.bool hb66) rfl) ?_
            replace hm90 := Option.some.inj hm90; subst hm90
            refine PX_at (by kernel_rfl) (key92 _ _ ⟨false, _, (hST.sublist (List.Sublist.refl _)), rfl, rfl, rfl, rfl, hm91⟩)
      · replace hm := if_f hb35 hm
        refine CW_skip ?_
        refine bq_n ?_
        refine retQ_n ?_
        replace hm := Option.some.inj hm; subst hm
        refine retQ_0 rfl ?_
        replace hST : ST false (keys ((b_a0, Obj.cells (#[v_a0_in_, v_a0_creds, v_a0_uses, v_a0_words, v_a0_todo, (.int .i64 a0_n)] : Array Value) 134 (0, 0)) :: (R_a0_in_ ++ (R_a0_creds ++ (R_a0_uses ++ (R_a0_words ++ (R_a0_todo ++ []))))))) w _ _ ((b3, Obj.cells ((encFact a2).toArray : Array Value) 78 (0, 0)) :: ((b1, Obj.cells ((encCred a1).toArray : Array Value) 83 (0, 0)) :: ((b_a0, Obj.cells (#[v_a0_in_, v_a0_creds, v_a0_uses, v_a0_words, v_a0_todo, (.int .i64 a0_n)] : Array Value) 134 (0, 0)) :: (R_a0_in_ ++ (R_a0_creds ++ (R_a0_uses ++ (R_a0_words ++ (R_a0_todo ++ [])))))))) := hST
        exact ⟨_, ((b_a0, Obj.cells (#[v_a0_in_, v_a0_creds, v_a0_uses, v_a0_words, v_a0_todo, (.int .i64 a0_n)] : Array Value) 134 (0, 0)) :: (R_a0_in_ ++ (R_a0_creds ++ (R_a0_uses ++ (R_a0_words ++ (R_a0_todo ++ [])))))), rfl, (ST.backM (L1 := ((b_a0, Obj.cells (#[v_a0_in_, v_a0_creds, v_a0_uses, v_a0_words, v_a0_todo, (.int .i64 a0_n)] : Array Value) 134 (0, 0)) :: (R_a0_in_ ++ (R_a0_creds ++ (R_a0_uses ++ (R_a0_words ++ (R_a0_todo ++ []))))))) (by have hh : ST false (keys ((b_a0, Obj.cells (#[v_a0_in_, v_a0_creds, v_a0_uses, v_a0_words, v_a0_todo, (.int .i64 a0_n)] : Array Value) 134 (0, 0)) :: (R_a0_in_ ++ (R_a0_creds ++ (R_a0_uses ++ (R_a0_words ++ (R_a0_todo ++ []))))))) w _ _ ((b_a0, Obj.cells (#[v_a0_in_, v_a0_creds, v_a0_uses, v_a0_words, v_a0_todo, (.int .i64 a0_n)] : Array Value) 134 (0, 0)) :: (R_a0_in_ ++ (R_a0_creds ++ (R_a0_uses ++ (R_a0_words ++ (R_a0_todo ++ ((b3, Obj.cells ((encFact a2).toArray : Array Value) 78 (0, 0)) :: ((b1, Obj.cells ((encCred a1).toArray : Array Value) 83 (0, 0)) :: [])))))))) := hST.perm (permD [[(b3, Obj.cells ((encFact a2).toArray : Array Value) 78 (0, 0))], [(b1, Obj.cells ((encCred a1).toArray : Array Value) 83 (0, 0))], [(b_a0, Obj.cells (#[v_a0_in_, v_a0_creds, v_a0_uses, v_a0_words, v_a0_todo, (.int .i64 a0_n)] : Array Value) 134 (0, 0))], R_a0_in_, R_a0_creds, R_a0_uses, R_a0_words, R_a0_todo] [0, 1, 2, 3, 4, 5, 6, 7] [2, 3, 4, 5, 6, 7, 0, 1] ([]) (by decide) rfl rfl); simpa only [List.append_assoc, List.cons_append, List.nil_append] using hh)), R_a0_in_, v_a0_todo, R_a0_todo, rfl, rfl, h_a0_in_, h_a0_todo⟩
theorem w_model_Model_begin_w (b_a0 : Nat) (v_a0_in_ : Value) (a0_in_ : List (Role × (List (ByteArray × Bool)))) (R_a0_in_ : List (Nat × Obj)) (v_a0_creds : Value) (a0_creds : List Cred) (R_a0_creds : List (Nat × Obj)) (v_a0_uses : Value) (a0_uses : List (Role × (List Cred))) (R_a0_uses : List (Nat × Obj)) (v_a0_words : Value) (a0_words : List (ByteArray × (List Cred))) (R_a0_words : List (Nat × Obj)) (v_a0_todo : Value) (a0_todo : List Fact) (R_a0_todo : List (Nat × Obj)) (a0_n : Int) (a1 : Cred) (r : ((List (Role × (List (ByteArray × Bool)))) × (List Fact) × Int)) (w : World) {μ0 : Mem} (hH : Held ((b_a0, Obj.cells (#[v_a0_in_, v_a0_creds, v_a0_uses, v_a0_words, v_a0_todo, (.int .i64 a0_n)] : Array Value) 134 (0, 0)) :: (R_a0_in_ ++ (R_a0_creds ++ (R_a0_uses ++ (R_a0_words ++ (R_a0_todo ++ [])))))) w) (hN : ((((b_a0, Obj.cells (#[v_a0_in_, v_a0_creds, v_a0_uses, v_a0_words, v_a0_todo, (.int .i64 a0_n)] : Array Value) 134 (0, 0)) :: (R_a0_in_ ++ (R_a0_creds ++ (R_a0_uses ++ (R_a0_words ++ (R_a0_todo ++ [])))))) : List (Nat × Obj)).map (·.1)).Nodup) (hS0 : Sub μ0 (hpx w ((b_a0, Obj.cells (#[v_a0_in_, v_a0_creds, v_a0_uses, v_a0_words, v_a0_todo, (.int .i64 a0_n)] : Array Value) 134 (0, 0)) :: (R_a0_in_ ++ (R_a0_creds ++ (R_a0_uses ++ (R_a0_words ++ (R_a0_todo ++ [])))))))) (h_a0_in_ : DeepE (fun (x : Role) => (.agg (encRole x).toArray)) (MapRow Value.string (fun (x : Bool) => (Value.bool x))) v_a0_in_ a0_in_ R_a0_in_) (h_a0_creds : Row 83 encCred 9 v_a0_creds a0_creds R_a0_creds) (h_a0_uses : DeepE (fun (x : Role) => (.agg (encRole x).toArray)) (Row 83 encCred 9) v_a0_uses a0_uses R_a0_uses) (h_a0_words : DeepE Value.string (Row 83 encCred 9) v_a0_words a0_words R_a0_words) (h_a0_todo : Que 78 encFact 3 v_a0_todo a0_todo R_a0_todo) (hm : m_model_Model_begin_w a0_in_ a0_creds a0_uses a0_words a0_todo a0_n a1 = some r) :
    GivesM false Tryz.prog 101 [(.pointer (some ⟨b_a0, 0, none⟩)), (.agg (encCred a1).toArray)] w ((b_a0, Obj.cells (#[v_a0_in_, v_a0_creds, v_a0_uses, v_a0_words, v_a0_todo, (.int .i64 a0_n)] : Array Value) 134 (0, 0)) :: (R_a0_in_ ++ (R_a0_creds ++ (R_a0_uses ++ (R_a0_words ++ (R_a0_todo ++ [])))))) (fun v L1 W' => ∃ (S1 : List (Nat × Obj)) (y3 : Value) (S4 : List (Nat × Obj)), v = (.tuple #[]) ∧ L1 = ((b_a0, Obj.cells (#[v_a0_in_, v_a0_creds, v_a0_uses, v_a0_words, y3, (.int .i64 (r.2.2))] : Array Value) 134 (0, 0)) :: (S1 ++ (R_a0_creds ++ (R_a0_uses ++ (R_a0_words ++ (S4 ++ [])))))) ∧ DeepE (fun (x : Role) => (.agg (encRole x).toArray)) (MapRow Value.string (fun (x : Bool) => (Value.bool x))) v_a0_in_ r.1 S1 ∧ Que 78 encFact 3 y3 r.2.1 S4) := by
  have hST := (ST.startM (dd := false) hH hN).weak hS0
  unfold m_model_Model_begin_w at hm
  refine calls_of_CW (n := 33) Tryz.func101 rfl rfl (Nat.le_of_ble_eq_true rfl) ?_
  refine CW_seq ?_
  refine CW_region ?_
  refine LE (E_box (v := (.agg (encCred a1).toArray)) hST rfl (fun W2 b1 hST => ?_))
  refine LW_nil ?_
  refine sq_n ?_
  refine CW_seq ?_
  refine CW_region ?_
  refine LV (R_field fa83_0 rfl) ?_
  refine LV (R_load (v := (.int .i64 a1.Kind)) rfl (load_box1 hST.has (.head _) rfl Tryz.isAgg3)) ?_
  refine LW_nil ?_
  refine sq_n ?_
  refine CW_block ?_
  refine CW_seq ?_
  refine CW_region ?_
  refine LV (R_int (k := .i64) (a := a1.Kind) (b := 1) (v := (.bool ((a1.Kind == 1)))) rfl rfl rfl) ?_
  refine LV (R_assign (v := (.bool ((a1.Kind == 1)))) rfl) ?_
  refine LW_nil ?_
  refine sq_n ?_
  refine CW_if (b := (a1.Kind == 1)) rfl (fun hb3 => ?_) (fun hb3 => ?_)
  · replace hm := if_t hb3 hm
    refine CW_region ?_
    refine LV (R_move (v := (.pointer (some ⟨b_a0, 0, none⟩))) rfl) ?_
    refine LV (R_field fa83_1 rfl) ?_
    refine LV (R_load (v := (.agg (encRole a1.Head).toArray)) rfl (load_boxA hST.has (.head _) (encRole a1.Head) rfl Tryz.isAgg47 Tryz.sizeOf47)) ?_
    refine LV (R_field fa83_2 rfl) ?_
    refine LV (R_load (v := (.string a1.Who)) rfl (load_box1 hST.has (.head _) rfl Tryz.isAgg9)) ?_
    obtain ⟨r4, hr5, hm⟩ := bind_some hm
    replace hST : ST false (keys ((b_a0, Obj.cells (#[v_a0_in_, v_a0_creds, v_a0_uses, v_a0_words, v_a0_todo, (.int .i64 a0_n)] : Array Value) 134 (0, 0)) :: (R_a0_in_ ++ (R_a0_creds ++ (R_a0_uses ++ (R_a0_words ++ (R_a0_todo ++ []))))))) w _ _ ((b_a0, Obj.cells (#[v_a0_in_, v_a0_creds, v_a0_uses, v_a0_words, v_a0_todo, (.int .i64 a0_n)] : Array Value) 134 (0, 0)) :: (R_a0_in_ ++ (R_a0_creds ++ (R_a0_uses ++ (R_a0_words ++ (R_a0_todo ++ ((b1, Obj.cells ((encCred a1).toArray : Array Value) 83 (0, 0)) :: []))))))) := hST.perm (permD [[(b1, Obj.cells ((encCred a1).toArray : Array Value) 83 (0, 0))], [(b_a0, Obj.cells (#[v_a0_in_, v_a0_creds, v_a0_uses, v_a0_words, v_a0_todo, (.int .i64 a0_n)] : Array Value) 134 (0, 0))], R_a0_in_, R_a0_creds, R_a0_uses, R_a0_words, R_a0_todo] [0, 1, 2, 3, 4, 5, 6] [1, 2, 3, 4, 5, 6, 0] ([]) (by decide) rfl rfl)
    have hsz := hST.size
    refine LE (E_callM (args := [(.pointer (some ⟨b_a0, 0, none⟩)), (.agg (encRole a1.Head).toArray), (.string a1.Who)]) (caps := #[]) (((b_a0, Obj.cells (#[v_a0_in_, v_a0_creds, v_a0_uses, v_a0_words, v_a0_todo, (.int .i64 a0_n)] : Array Value) 134 (0, 0)) :: (R_a0_in_ ++ (R_a0_creds ++ (R_a0_uses ++ (R_a0_words ++ (R_a0_todo ++ []))))))) (((b1, Obj.cells ((encCred a1).toArray : Array Value) 83 (0, 0)) :: [])) hST (by simp only [List.append_assoc, List.cons_append, List.nil_append]; exact List.Perm.refl _) rfl Tryz.call146 (by exact args3 rfl rfl rfl) (fun hH hN hsb hmm => GivesM.weak (w_model_Model_tell_w b_a0 v_a0_in_ a0_in_ R_a0_in_ v_a0_creds a0_creds R_a0_creds v_a0_uses a0_uses R_a0_uses v_a0_words a0_words R_a0_words v_a0_todo a0_todo R_a0_todo a0_n a1.Head a1.Who _ _ hH hN (Sub.refl _) h_a0_in_ h_a0_creds h_a0_uses h_a0_words h_a0_todo hr5)) (fun W6 v9 μ7 L11 hST hle8 hlift hK10 => ?_))
    obtain ⟨S12, y14, S15, hv17, rfl, hy13, hy16⟩ := hK10
    replace hv17 := hv17.symm; subst hv17
    simp only [List.append_assoc, List.cons_append, List.nil_append] at hST
    replace hST : ST false (keys ((b_a0, Obj.cells (#[v_a0_in_, v_a0_creds, v_a0_uses, v_a0_words, v_a0_todo, (.int .i64 a0_n)] : Array Value) 134 (0, 0)) :: (R_a0_in_ ++ (R_a0_creds ++ (R_a0_uses ++ (R_a0_words ++ (R_a0_todo ++ []))))))) w _ _ ((b_a0, Obj.cells (#[v_a0_in_, v_a0_creds, v_a0_uses, v_a0_words, y14, (.int .i64 (r4.2.2))] : Array Value) 134 (0, 0)) :: ((b1, Obj.cells ((encCred a1).toArray : Array Value) 83 (0, 0)) :: (S12 ++ (R_a0_creds ++ (R_a0_uses ++ (R_a0_words ++ (S15 ++ []))))))) := hST.perm (permD [[(b_a0, Obj.cells (#[v_a0_in_, v_a0_creds, v_a0_uses, v_a0_words, y14, (.int .i64 (r4.2.2))] : Array Value) 134 (0, 0))], S12, R_a0_creds, R_a0_uses, R_a0_words, S15, [(b1, Obj.cells ((encCred a1).toArray : Array Value) 83 (0, 0))]] [0, 1, 2, 3, 4, 5, 6] [0, 6, 1, 2, 3, 4, 5] ([]) (by decide) rfl rfl)
    refine LW_nil ?_
    refine bq_n ?_
    refine retQ_n ?_
    replace hm := Option.some.inj hm; subst hm
    refine retQ_0 rfl ?_
    replace hST : ST false (keys ((b_a0, Obj.cells (#[v_a0_in_, v_a0_creds, v_a0_uses, v_a0_words, v_a0_todo, (.int .i64 a0_n)] : Array Value) 134 (0, 0)) :: (R_a0_in_ ++ (R_a0_creds ++ (R_a0_uses ++ (R_a0_words ++ (R_a0_todo ++ []))))))) w _ _ ((b_a0, Obj.cells (#[v_a0_in_, v_a0_creds, v_a0_uses, v_a0_words, y14, (.int .i64 (r4.2.2))] : Array Value) 134 (0, 0)) :: ((b1, Obj.cells ((encCred a1).toArray : Array Value) 83 (0, 0)) :: (S12 ++ (R_a0_creds ++ (R_a0_uses ++ (R_a0_words ++ (S15 ++ []))))))) := hST
    exact ⟨_, ((b_a0, Obj.cells (#[v_a0_in_, v_a0_creds, v_a0_uses, v_a0_words, y14, (.int .i64 (r4.2.2))] : Array Value) 134 (0, 0)) :: (S12 ++ (R_a0_creds ++ (R_a0_uses ++ (R_a0_words ++ (S15 ++ [])))))), rfl, (ST.backM (L1 := ((b_a0, Obj.cells (#[v_a0_in_, v_a0_creds, v_a0_uses, v_a0_words, y14, (.int .i64 (r4.2.2))] : Array Value) 134 (0, 0)) :: (S12 ++ (R_a0_creds ++ (R_a0_uses ++ (R_a0_words ++ (S15 ++ []))))))) (by have hh : ST false (keys ((b_a0, Obj.cells (#[v_a0_in_, v_a0_creds, v_a0_uses, v_a0_words, v_a0_todo, (.int .i64 a0_n)] : Array Value) 134 (0, 0)) :: (R_a0_in_ ++ (R_a0_creds ++ (R_a0_uses ++ (R_a0_words ++ (R_a0_todo ++ []))))))) w _ _ ((b_a0, Obj.cells (#[v_a0_in_, v_a0_creds, v_a0_uses, v_a0_words, y14, (.int .i64 (r4.2.2))] : Array Value) 134 (0, 0)) :: (S12 ++ (R_a0_creds ++ (R_a0_uses ++ (R_a0_words ++ (S15 ++ ((b1, Obj.cells ((encCred a1).toArray : Array Value) 83 (0, 0)) :: []))))))) := hST.perm (permD [[(b_a0, Obj.cells (#[v_a0_in_, v_a0_creds, v_a0_uses, v_a0_words, y14, (.int .i64 (r4.2.2))] : Array Value) 134 (0, 0))], [(b1, Obj.cells ((encCred a1).toArray : Array Value) 83 (0, 0))], S12, R_a0_creds, R_a0_uses, R_a0_words, S15] [0, 1, 2, 3, 4, 5, 6] [0, 2, 3, 4, 5, 6, 1] ([]) (by decide) rfl rfl); simpa only [List.append_assoc, List.cons_append, List.nil_append] using hh)), S12, y14, S15, rfl, rfl, hy13, hy16⟩
  · replace hm := if_f hb3 hm
    refine CW_seq ?_
    refine CW_region ?_
    refine LV (R_move (v := (.pointer (some ⟨b_a0, 0, none⟩))) rfl) ?_
    refine LV (R_field fa83_3 rfl) ?_
    refine LV (R_load (v := (.agg (encRole a1.B).toArray)) rfl (load_boxA hST.has (.head _) (encRole a1.B) rfl Tryz.isAgg47 Tryz.sizeOf47)) ?_
    obtain ⟨r18, hr19, hm⟩ := bind_some hm
    refine LE (E_givesRow (args := [(.pointer (some ⟨b_a0, 0, none⟩)), (.agg (encRole a1.B).toArray)]) [_, _] _ hST rfl Tryz.call37 (by exact args2 rfl rfl) ((w_model_Model_Members b_a0 v_a0_in_ a0_in_ v_a0_creds a0_creds v_a0_uses a0_uses v_a0_words a0_words v_a0_todo a0_todo a0_n a1.B _ _ (h_a0_in_.at (fun b o hq => hST.at_ (.tail _ (.tail _ (List.mem_append_left _ hq))))) (h_a0_creds.sl lenCred (fun b o hq => hST.at_ (.tail _ (.tail _ (List.mem_append_right _ (List.mem_append_left _ hq)))))) (h_a0_uses.at (fun b o hq => hST.at_ (.tail _ (.tail _ (List.mem_append_right _ (List.mem_append_right _ (List.mem_append_left _ hq))))))) (h_a0_words.at (fun b o hq => hST.at_ (.tail _ (.tail _ (List.mem_append_right _ (List.mem_append_right _ (List.mem_append_right _ (List.mem_append_left _ hq)))))))) ((h_a0_todo.slL lenFact).mono (Pl.mono _) (memL_held (fun b o hq => hST.at_ (.tail _ (.tail _ (List.mem_append_right _ (List.mem_append_right _ (List.mem_append_right _ (List.mem_append_right _ (List.mem_append_left _ hq)))))))))) (At.of (hST.at_ (.tail _ (.head _))) _ rfl) hr19)) (fun W20 v23 μ21 R24 hST hle22 hR25 => ?_))
    refine LV (R_lenRow Tryz.underlying27 rfl hR25) ?_
    refine LV (R_move (v := (.int .i64 0)) rfl) ?_
    refine LW_nil ?_
    refine sq_n ?_
    refine CW_tail ?_
    replace hST : ST false (keys ((b_a0, Obj.cells (#[v_a0_in_, v_a0_creds, v_a0_uses, v_a0_words, v_a0_todo, (.int .i64 a0_n)] : Array Value) 134 (0, 0)) :: (R_a0_in_ ++ (R_a0_creds ++ (R_a0_uses ++ (R_a0_words ++ (R_a0_todo ++ []))))))) w _ _ ((b1, Obj.cells ((encCred a1).toArray : Array Value) 83 (0, 0)) :: ((b_a0, Obj.cells (#[v_a0_in_, v_a0_creds, v_a0_uses, v_a0_words, v_a0_todo, (.int .i64 a0_n)] : Array Value) 134 (0, 0)) :: (R24 ++ (R_a0_in_ ++ (R_a0_creds ++ (R_a0_uses ++ (R_a0_words ++ (R_a0_todo ++ [])))))))) := hST
    replace hST : ST false (keys ((b_a0, Obj.cells (#[v_a0_in_, v_a0_creds, v_a0_uses, v_a0_words, v_a0_todo, (.int .i64 a0_n)] : Array Value) 134 (0, 0)) :: (R_a0_in_ ++ (R_a0_creds ++ (R_a0_uses ++ (R_a0_words ++ (R_a0_todo ++ []))))))) w _ _ ((b_a0, Obj.cells (#[v_a0_in_, v_a0_creds, v_a0_uses, v_a0_words, v_a0_todo, (.int .i64 a0_n)] : Array Value) 134 (0, 0)) :: ((b1, Obj.cells ((encCred a1).toArray : Array Value) 83 (0, 0)) :: (R_a0_in_ ++ (R_a0_creds ++ (R_a0_uses ++ (R_a0_words ++ (R_a0_todo ++ (R24 ++ [])))))))) := hST.perm (permD [[(b1, Obj.cells ((encCred a1).toArray : Array Value) 83 (0, 0))], [(b_a0, Obj.cells (#[v_a0_in_, v_a0_creds, v_a0_uses, v_a0_words, v_a0_todo, (.int .i64 a0_n)] : Array Value) 134 (0, 0))], R24, R_a0_in_, R_a0_creds, R_a0_uses, R_a0_words, R_a0_todo] [0, 1, 2, 3, 4, 5, 6, 7] [1, 0, 3, 4, 5, 6, 7, 2] ([]) (by decide) rfl rfl)
    refine CW_range (fun i E W => ∃ (l137 : List (Role × (List (ByteArray × Bool)))) (R139 : List (Nat × Obj)) (v140 : Value) (l141 : List Fact) (R143 : List (Nat × Obj)) (x144 : Int) (μ136 : Mem) (L175 : List (Nat × Obj)), (E 13 = .int .i64 (i : Nat) ∧ E 12 = .int .i64 (r18.length : Nat)) ∧ Sub μ21 μ136 ∧ ST false (keys ((b_a0, Obj.cells (#[v_a0_in_, v_a0_creds, v_a0_uses, v_a0_words, v_a0_todo, (.int .i64 a0_n)] : Array Value) 134 (0, 0)) :: (R_a0_in_ ++ (R_a0_creds ++ (R_a0_uses ++ (R_a0_words ++ (R_a0_todo ++ []))))))) w W μ136 ((b_a0, Obj.cells (#[v_a0_in_, v_a0_creds, v_a0_uses, v_a0_words, v140, (.int .i64 x144)] : Array Value) 134 (0, 0)) :: ((b1, Obj.cells ((encCred a1).toArray : Array Value) 83 (0, 0)) :: (R139 ++ (R_a0_creds ++ (R_a0_uses ++ (R_a0_words ++ (R143 ++ (R24 ++ L175)))))))) ∧ E 0 = (.pointer (some ⟨b_a0, 0, none⟩)) ∧ E 3 = (.pointer (some ⟨b1, 0, none⟩)) ∧ E 11 = v23 ∧ DeepE (fun (x : Role) => (.agg (encRole x).toArray)) (MapRow Value.string (fun (x : Bool) => (Value.bool x))) v_a0_in_ l137 R139 ∧ Que 78 encFact 3 v140 l141 R143 ∧ m_model_Model_begin_w_L1 a0_creds a0_uses a0_words a1 (r18.drop i) l137 l141 x144 = some r) r18.length hR25.len ⟨a0_in_, R_a0_in_, v_a0_todo, a0_todo, R_a0_todo, a0_n, μ21, _, ⟨rfl, rfl⟩, (Sub.refl _), (hST.sublist (List.Sublist.refl _)), rfl, rfl, rfl, h_a0_in_, h_a0_todo, hm⟩ (by decide) (by decide) (by decide) (fun _ _ _ h => by obtain ⟨_, _, _, _, _, _, _, _, eIN, _⟩ := h; exact eIN) ?_ ?_
    · rintro i112 E W hi118 ⟨l137, R139, v140, l141, R143, x144, μ136, L175, ⟨eI, eN⟩, hle177, hST, e178, e179, e180, hs138, hs142, hm176⟩
      obtain ⟨x113, xs114, hx116, hx115, hx117⟩ := drop_cons hi118
      rw [hx116] at hm176
      rw [m_model_Model_begin_w_L1] at hm176
      refine CW_block ?_
      refine CW_seq ?_
      refine CW_region ?_
      refine LQ (R_indexRow (i := (i112 : Int)) (x0 := x113) Tryz.underlying27 Tryz.sizeOf9 e180 eI hR25 (Int.natCast_nonneg _) hx115) (fun p181 hp182 => ?_)
      refine LV (R_load (v := (.string x113)) rfl (load_ix1 hST.has (fun p hq => by simp [hq]) hR25 (fun _ => rfl) hp182 hx115 (y := (.string x113)) rfl Tryz.isAgg9)) ?_
      refine LV (R_assign (v := (.string x113)) rfl) ?_
      refine LW_nil ?_
      refine sq_n ?_
      refine CW_region ?_
      refine LV (R_move (v := (.pointer (some ⟨b_a0, 0, none⟩))) e178) ?_
      refine LV (R_load (v := (.agg (encCred a1).toArray)) e179 (load_boxA hST.has (.tail _ (.head _)) (encCred a1) rfl Tryz.isAgg83 Tryz.sizeOf83)) ?_
      refine LV (R_field fa83_3 e179) ?_
      refine LV (R_load (v := (.agg (encRole a1.B).toArray)) rfl (load_boxA hST.has (.tail _ (.head _)) (encRole a1.B) rfl Tryz.isAgg47 Tryz.sizeOf47)) ?_
      refine LV (R_move (v := (.string x113)) rfl) ?_
      refine LV (R_build (qs := #[(0, (.agg (encRole a1.B).toArray)), (1, (.string x113))]) (v := (.agg (encFact ((⟨a1.B, x113⟩ : Fact))).toArray)) (parts2 rfl rfl) (run_build Tryz.zeroValue78 Tryz.underlying78 (pl78 _ Tryz.underlying78) (by kernel_rfl))) ?_
      obtain ⟨r184, hr185, hm176⟩ := bind_some hm176
      replace hST : ST false (keys ((b_a0, Obj.cells (#[v_a0_in_, v_a0_creds, v_a0_uses, v_a0_words, v_a0_todo, (.int .i64 a0_n)] : Array Value) 134 (0, 0)) :: (R_a0_in_ ++ (R_a0_creds ++ (R_a0_uses ++ (R_a0_words ++ (R_a0_todo ++ []))))))) w _ _ ((b_a0, Obj.cells (#[v_a0_in_, v_a0_creds, v_a0_uses, v_a0_words, v140, (.int .i64 x144)] : Array Value) 134 (0, 0)) :: (R139 ++ (R_a0_creds ++ (R_a0_uses ++ (R_a0_words ++ (R143 ++ ((b1, Obj.cells ((encCred a1).toArray : Array Value) 83 (0, 0)) :: (R24 ++ L175)))))))) := hST.perm (permD [[(b_a0, Obj.cells (#[v_a0_in_, v_a0_creds, v_a0_uses, v_a0_words, v140, (.int .i64 x144)] : Array Value) 134 (0, 0))], [(b1, Obj.cells ((encCred a1).toArray : Array Value) 83 (0, 0))], R139, R_a0_creds, R_a0_uses, R_a0_words, R143] [0, 1, 2, 3, 4, 5, 6] [0, 2, 3, 4, 5, 6, 1] ((R24 ++ L175)) (by decide) rfl rfl)
      have hsz := hST.size
      refine LE (E_callM (args := [(.pointer (some ⟨b_a0, 0, none⟩)), (.agg (encCred a1).toArray), (.agg (encFact ((⟨a1.B, x113⟩ : Fact))).toArray)]) (caps := #[]) (((b_a0, Obj.cells (#[v_a0_in_, v_a0_creds, v_a0_uses, v_a0_words, v140, (.int .i64 x144)] : Array Value) 134 (0, 0)) :: (R139 ++ (R_a0_creds ++ (R_a0_uses ++ (R_a0_words ++ (R143 ++ []))))))) (((b1, Obj.cells ((encCred a1).toArray : Array Value) 83 (0, 0)) :: (R24 ++ L175))) hST (by simp only [List.append_assoc, List.cons_append, List.nil_append]; exact List.Perm.refl _) rfl Tryz.call147 (by exact args3 rfl rfl rfl) (fun hH hN hsb hmm => (w_model_Model_use_w b_a0 v_a0_in_ l137 R139 v_a0_creds a0_creds R_a0_creds v_a0_uses a0_uses R_a0_uses v_a0_words a0_words R_a0_words v140 l141 R143 x144 a1 ((⟨a1.B, x113⟩ : Fact)) _ _ hH hN (Sub.refl _) hs138 h_a0_creds h_a0_uses h_a0_words hs142 hr185)) (fun W186 v189 μ187 L191 hST hle188 hlift hK190 => ?_))
      obtain ⟨S192, y194, S195, hv197, rfl, hy193, hy196⟩ := hK190
      replace hv197 := hv197.symm; subst hv197
      simp only [List.append_assoc, List.cons_append, List.nil_append] at hST
      replace hST : ST false (keys ((b_a0, Obj.cells (#[v_a0_in_, v_a0_creds, v_a0_uses, v_a0_words, v_a0_todo, (.int .i64 a0_n)] : Array Value) 134 (0, 0)) :: (R_a0_in_ ++ (R_a0_creds ++ (R_a0_uses ++ (R_a0_words ++ (R_a0_todo ++ []))))))) w _ _ ((b_a0, Obj.cells (#[v_a0_in_, v_a0_creds, v_a0_uses, v_a0_words, y194, (.int .i64 (r184.2.2))] : Array Value) 134 (0, 0)) :: ((b1, Obj.cells ((encCred a1).toArray : Array Value) 83 (0, 0)) :: (S192 ++ (R_a0_creds ++ (R_a0_uses ++ (R_a0_words ++ (S195 ++ (R24 ++ L175)))))))) := hST.perm (permD [[(b_a0, Obj.cells (#[v_a0_in_, v_a0_creds, v_a0_uses, v_a0_words, y194, (.int .i64 (r184.2.2))] : Array Value) 134 (0, 0))], S192, R_a0_creds, R_a0_uses, R_a0_words, S195, [(b1, Obj.cells ((encCred a1).toArray : Array Value) 83 (0, 0))]] [0, 1, 2, 3, 4, 5, 6] [0, 6, 1, 2, 3, 4, 5] ((R24 ++ L175)) (by decide) rfl rfl)
      refine LW_nil ?_
      refine bq_n ?_
      refine sq_n ?_
      exact ⟨eI, r184.1, S192, y194, r184.2.1, S195, r184.2.2, μ187, _, ⟨rfl, eN⟩, (hle177.trans hle188), (hST.sublist (List.Sublist.refl _)), e178, e179, e180, hy193, hy196, (by rw [hx117]; exact hm176)⟩
    · rintro E W ⟨l137, R139, v140, l141, R143, x144, μ136, L175, ⟨eI, eN⟩, hle177, hST, e178, e179, e180, hs138, hs142, hm176⟩
      rw [List.drop_length] at hm176
      rw [m_model_Model_begin_w_L1] at hm176
      refine sq_n ?_
      replace hST : ST false (keys ((b_a0, Obj.cells (#[v_a0_in_, v_a0_creds, v_a0_uses, v_a0_words, v_a0_todo, (.int .i64 a0_n)] : Array Value) 134 (0, 0)) :: (R_a0_in_ ++ (R_a0_creds ++ (R_a0_uses ++ (R_a0_words ++ (R_a0_todo ++ []))))))) w _ _ ((b_a0, Obj.cells (#[v_a0_in_, v_a0_creds, v_a0_uses, v_a0_words, v140, (.int .i64 x144)] : Array Value) 134 (0, 0)) :: (R139 ++ (R_a0_creds ++ (R_a0_uses ++ (R_a0_words ++ (R143 ++ L175)))))) := hST.sublist (List.Sublist.cons_cons _ (List.Sublist.cons _ (List.Sublist.append (List.Sublist.refl _) (List.Sublist.append (List.Sublist.refl _) (List.Sublist.append (List.Sublist.refl _) (List.Sublist.append (List.Sublist.refl _) (List.Sublist.append (List.Sublist.refl _) ((List.Sublist.refl _).trans (List.sublist_append_right _ _)))))))))
      refine bq_n ?_
      refine retQ_n ?_
      replace hm176 := Option.some.inj hm176; subst hm176
      refine retQ_0 rfl ?_
      replace hST : ST false (keys ((b_a0, Obj.cells (#[v_a0_in_, v_a0_creds, v_a0_uses, v_a0_words, v_a0_todo, (.int .i64 a0_n)] : Array Value) 134 (0, 0)) :: (R_a0_in_ ++ (R_a0_creds ++ (R_a0_uses ++ (R_a0_words ++ (R_a0_todo ++ []))))))) w _ _ ((b_a0, Obj.cells (#[v_a0_in_, v_a0_creds, v_a0_uses, v_a0_words, v140, (.int .i64 x144)] : Array Value) 134 (0, 0)) :: (R139 ++ (R_a0_creds ++ (R_a0_uses ++ (R_a0_words ++ (R143 ++ L175)))))) := hST
      exact ⟨_, ((b_a0, Obj.cells (#[v_a0_in_, v_a0_creds, v_a0_uses, v_a0_words, v140, (.int .i64 x144)] : Array Value) 134 (0, 0)) :: (R139 ++ (R_a0_creds ++ (R_a0_uses ++ (R_a0_words ++ (R143 ++ [])))))), rfl, (ST.backM (L1 := ((b_a0, Obj.cells (#[v_a0_in_, v_a0_creds, v_a0_uses, v_a0_words, v140, (.int .i64 x144)] : Array Value) 134 (0, 0)) :: (R139 ++ (R_a0_creds ++ (R_a0_uses ++ (R_a0_words ++ (R143 ++ []))))))) (by have hh : ST false (keys ((b_a0, Obj.cells (#[v_a0_in_, v_a0_creds, v_a0_uses, v_a0_words, v_a0_todo, (.int .i64 a0_n)] : Array Value) 134 (0, 0)) :: (R_a0_in_ ++ (R_a0_creds ++ (R_a0_uses ++ (R_a0_words ++ (R_a0_todo ++ []))))))) w _ _ ((b_a0, Obj.cells (#[v_a0_in_, v_a0_creds, v_a0_uses, v_a0_words, v140, (.int .i64 x144)] : Array Value) 134 (0, 0)) :: (R139 ++ (R_a0_creds ++ (R_a0_uses ++ (R_a0_words ++ (R143 ++ L175)))))) := hST.perm (List.Perm.refl _); simpa only [List.append_assoc, List.cons_append, List.nil_append] using hh)), R139, v140, R143, rfl, rfl, hs138, hs142⟩
theorem w_model_Model_settle_w (b_a0 : Nat) (v_a0_in_ : Value) (a0_in_ : List (Role × (List (ByteArray × Bool)))) (R_a0_in_ : List (Nat × Obj)) (v_a0_creds : Value) (a0_creds : List Cred) (R_a0_creds : List (Nat × Obj)) (v_a0_uses : Value) (a0_uses : List (Role × (List Cred))) (R_a0_uses : List (Nat × Obj)) (v_a0_words : Value) (a0_words : List (ByteArray × (List Cred))) (R_a0_words : List (Nat × Obj)) (v_a0_todo : Value) (a0_todo : List Fact) (R_a0_todo : List (Nat × Obj)) (a0_n : Int) (r : ((List (Role × (List (ByteArray × Bool)))) × (List Fact) × Int)) (w : World) {μ0 : Mem} (hH : Held ((b_a0, Obj.cells (#[v_a0_in_, v_a0_creds, v_a0_uses, v_a0_words, v_a0_todo, (.int .i64 a0_n)] : Array Value) 134 (0, 0)) :: (R_a0_in_ ++ (R_a0_creds ++ (R_a0_uses ++ (R_a0_words ++ (R_a0_todo ++ [])))))) w) (hN : ((((b_a0, Obj.cells (#[v_a0_in_, v_a0_creds, v_a0_uses, v_a0_words, v_a0_todo, (.int .i64 a0_n)] : Array Value) 134 (0, 0)) :: (R_a0_in_ ++ (R_a0_creds ++ (R_a0_uses ++ (R_a0_words ++ (R_a0_todo ++ [])))))) : List (Nat × Obj)).map (·.1)).Nodup) (hS0 : Sub μ0 (hpx w ((b_a0, Obj.cells (#[v_a0_in_, v_a0_creds, v_a0_uses, v_a0_words, v_a0_todo, (.int .i64 a0_n)] : Array Value) 134 (0, 0)) :: (R_a0_in_ ++ (R_a0_creds ++ (R_a0_uses ++ (R_a0_words ++ (R_a0_todo ++ [])))))))) (h_a0_in_ : DeepE (fun (x : Role) => (.agg (encRole x).toArray)) (MapRow Value.string (fun (x : Bool) => (Value.bool x))) v_a0_in_ a0_in_ R_a0_in_) (h_a0_creds : Row 83 encCred 9 v_a0_creds a0_creds R_a0_creds) (h_a0_uses : DeepE (fun (x : Role) => (.agg (encRole x).toArray)) (Row 83 encCred 9) v_a0_uses a0_uses R_a0_uses) (h_a0_words : DeepE Value.string (Row 83 encCred 9) v_a0_words a0_words R_a0_words) (h_a0_todo : Que 78 encFact 3 v_a0_todo a0_todo R_a0_todo) (hm : m_model_Model_settle_w a0_in_ a0_creds a0_uses a0_words a0_todo a0_n = some r) :
    GivesM false Tryz.prog 102 [(.pointer (some ⟨b_a0, 0, none⟩))] w ((b_a0, Obj.cells (#[v_a0_in_, v_a0_creds, v_a0_uses, v_a0_words, v_a0_todo, (.int .i64 a0_n)] : Array Value) 134 (0, 0)) :: (R_a0_in_ ++ (R_a0_creds ++ (R_a0_uses ++ (R_a0_words ++ (R_a0_todo ++ [])))))) (fun v L1 W' => ∃ (S1 : List (Nat × Obj)) (y3 : Value) (S4 : List (Nat × Obj)), v = (.tuple #[]) ∧ L1 = ((b_a0, Obj.cells (#[v_a0_in_, v_a0_creds, v_a0_uses, v_a0_words, y3, (.int .i64 (r.2.2))] : Array Value) 134 (0, 0)) :: (S1 ++ (R_a0_creds ++ (R_a0_uses ++ (R_a0_words ++ (S4 ++ [])))))) ∧ DeepE (fun (x : Role) => (.agg (encRole x).toArray)) (MapRow Value.string (fun (x : Bool) => (Value.bool x))) v_a0_in_ r.1 S1 ∧ Que 78 encFact 3 y3 r.2.1 S4) := by
  have hST := (ST.startM (dd := false) hH hN).weak hS0
  unfold m_model_Model_settle_w at hm
  refine calls_of_CW (n := 75) Tryz.func102 rfl rfl (Nat.le_of_ble_eq_true rfl) ?_
  refine CW_tail ?_
  refine CW_block (CW_loop (fun m E W => ∃ (l2027 : List (Role × (List (ByteArray × Bool)))) (R2029 : List (Nat × Obj)) (v2030 : Value) (l2031 : List Fact) (R2033 : List (Nat × Obj)) (x2034 : Int) (μ2026 : Mem) (L2546 : List (Nat × Obj)), Sub μ0 μ2026 ∧ ST false (keys ((b_a0, Obj.cells (#[v_a0_in_, v_a0_creds, v_a0_uses, v_a0_words, v_a0_todo, (.int .i64 a0_n)] : Array Value) 134 (0, 0)) :: (R_a0_in_ ++ (R_a0_creds ++ (R_a0_uses ++ (R_a0_words ++ (R_a0_todo ++ []))))))) w W μ2026 ((b_a0, Obj.cells (#[v_a0_in_, v_a0_creds, v_a0_uses, v_a0_words, v2030, (.int .i64 x2034)] : Array Value) 134 (0, 0)) :: (R2029 ++ (R_a0_creds ++ (R_a0_uses ++ (R_a0_words ++ (R2033 ++ L2546)))))) ∧ E 0 = (.pointer (some ⟨b_a0, 0, none⟩)) ∧ DeepE (fun (x : Role) => (.agg (encRole x).toArray)) (MapRow Value.string (fun (x : Bool) => (Value.bool x))) v_a0_in_ l2027 R2029 ∧ Que 78 encFact 3 v2030 l2031 R2033 ∧ m_model_Model_settle_w_L1 a0_creds a0_uses a0_words m l2027 l2031 x2034 = some r) FUEL ⟨a0_in_, R_a0_in_, v_a0_todo, a0_todo, R_a0_todo, a0_n, μ0, _, (Sub.refl _), (hST.sublist (List.Sublist.refl _)), rfl, h_a0_in_, h_a0_todo, hm⟩ ?_)
  rintro m E W ⟨l2027, R2029, v2030, l2031, R2033, x2034, μ2026, L2546, hle2549, hST, e2550, hs2028, hs2032, hm2547⟩
  cases m with
  | zero => rw [m_model_Model_settle_w_L1] at hm2547; cases hm2547
  | succ n2548 =>
    rw [m_model_Model_settle_w_L1] at hm2547
    refine CW_seq ?_
    refine CW_seq ?_
    refine CW_region ?_
    refine LV (R_move (v := (.pointer (some ⟨b_a0, 0, none⟩))) e2550) ?_
    refine LV (R_nilCheck rfl) ?_
    refine LV (R_field fa134_4 rfl) ?_
    refine LV (R_load (v := v2030) rfl (load_box1 hST.has (.head _) rfl Tryz.isAgg53)) ?_
    refine LV (R_lenQue Tryz.underlying53 rfl hs2032) ?_
    refine LV (R_int (k := .i64) (a := ((l2031.length : Int))) (b := 0) (v := (.bool ((decide (((l2031.length : Int)) > 0))))) rfl rfl rfl) ?_
    refine LW_nil ?_
    refine sq_n ?_
    refine CW_if (b := (decide (((l2031.length : Int)) > 0))) rfl (fun hb2551 => ?_) (fun hb2551 => ?_)
    · replace hm2547 := if_t hb2551 hm2547
      refine CW_skip ?_
      refine sq_n ?_
      refine CW_block ?_
      refine CW_seq ?_
      refine CW_region ?_
      refine LV (R_move (v := (.pointer (some ⟨b_a0, 0, none⟩))) e2550) ?_
      refine LV (R_nilCheck rfl) ?_
      refine LV (R_field fa134_4 rfl) ?_
      refine LV (R_load (v := v2030) rfl (load_box1 hST.has (.head _) rfl Tryz.isAgg53)) ?_
      obtain ⟨x2555, hx2556, hm2547⟩ := bind_some hm2547
      refine LQ (R_indexP (enc := encFact) (i := 0) (x0 := x2555) Tryz.underlying53 Tryz.sizeOf78 rfl rfl (hs2032.slL lenFact) (idx_nonneg hx2556) (idx_get hx2556)) (fun p2552 hp2553 => ?_)
      refine LV (R_load rfl (load_atA (Has.hp _) (hp2553.mono (memL_held (fun b o hq => hST.has.2 b o (.tail _ (List.mem_append_right _ (List.mem_append_right _ (List.mem_append_right _ (List.mem_append_right _ (List.mem_append_left _ hq))))))))) Tryz.isAgg78 Tryz.sizeOf78)) ?_
      refine LE (E_alloc hST Tryz.zeroValue78 (fun W2558 b2557 hST => ?_))
      refine LW_e0 (.inl rfl) rfl (E_store [] (.agg (encFact x2555).toArray) ((encFact x2555).toArray) hST rfl rfl Tryz.sizeOf78 (oneFact x2555) (Nat.le_of_ble_eq_true rfl) rfl (fun W2559 hST => ?_))
      refine LW_nil ?_
      refine sq_n ?_
      refine CW_seq ?_
      refine CW_region ?_
      refine LV (R_move (v := (.pointer (some ⟨b_a0, 0, none⟩))) e2550) ?_
      refine LV (R_move (v := (.pointer (some ⟨b_a0, 0, none⟩))) e2550) ?_
      refine LV (R_nilCheck rfl) ?_
      refine LV (R_field fa134_4 rfl) ?_
      refine LV (R_load (v := v2030) rfl (load_box1 hST.has (.tail _ (.head _)) rfl Tryz.isAgg53)) ?_
      obtain ⟨_, hg2562, hm2547⟩ := bind_some hm2547
      refine LQ (R_sliceQue (i := 1) Tryz.underlying53 Tryz.sizeOf78 rfl rfl lenFact hs2032 (chk_1 hg2562) (chk_2 hg2562)) (fun v2560 hs2561 => ?_)
      refine LV (R_nilCheck rfl) ?_
      refine LV (R_field fa134_4 rfl) ?_
      obtain ⟨A2563, c2564, rfl⟩ := hs2561.form
      refine LW_e0 (.inl rfl) rfl (E_store [_] (.slice A2563 ((l2031.drop (Int.toNat 1))).length c2564) (#[v_a0_in_, v_a0_creds, v_a0_uses, v_a0_words, (.slice A2563 ((l2031.drop (Int.toNat 1))).length c2564), (.int .i64 x2034)]) hST rfl rfl Tryz.sizeOf53 (by simp [Value.cells, Value.oneCell']) (Nat.le_of_ble_eq_true rfl) rfl (fun W2565 hST => ?_))
      refine LW_nil ?_
      refine sq_n ?_
      refine CW_seq ?_
      refine CW_seq ?_
      refine PX_start (fun l W => Has μ2026 ((b2557, Obj.cells ((encFact x2555).toArray : Array Value) 78 (0, 0)) :: ((b_a0, Obj.cells (#[v_a0_in_, v_a0_creds, v_a0_uses, v_a0_words, (.slice A2563 ((l2031.drop (Int.toNat 1))).length c2564), (.int .i64 x2034)] : Array Value) 134 (0, 0)) :: (R_a0_uses ++ []))) W) Tryz_mixed ?_
      replace hST := hST.drew
      replace hST : ST false (keys ((b_a0, Obj.cells (#[v_a0_in_, v_a0_creds, v_a0_uses, v_a0_words, v_a0_todo, (.int .i64 a0_n)] : Array Value) 134 (0, 0)) :: (R_a0_in_ ++ (R_a0_creds ++ (R_a0_uses ++ (R_a0_words ++ (R_a0_todo ++ []))))))) w _ _ ((b2557, Obj.cells ((encFact x2555).toArray : Array Value) 78 (0, 0)) :: ((b_a0, Obj.cells (#[v_a0_in_, v_a0_creds, v_a0_uses, v_a0_words, (.slice A2563 ((l2031.drop (Int.toNat 1))).length c2564), (.int .i64 x2034)] : Array Value) 134 (0, 0)) :: (R2029 ++ (R_a0_creds ++ (R_a0_uses ++ (R_a0_words ++ (R2033 ++ L2546))))))) := hST
      have hS0 : Has μ2026 ((b2557, Obj.cells ((encFact x2555).toArray : Array Value) 78 (0, 0)) :: ((b_a0, Obj.cells (#[v_a0_in_, v_a0_creds, v_a0_uses, v_a0_words, (.slice A2563 ((l2031.drop (Int.toNat 1))).length c2564), (.int .i64 x2034)] : Array Value) 134 (0, 0)) :: (R_a0_uses ++ []))) _ := hST.has.sub (Sub.refl _) (fun p hq => ((List.mem_cons.1 hq).elim (fun hq => by rw [hq]; exact (.head _)) (fun hq => ((List.mem_cons.1 hq).elim (fun hq => by rw [hq]; exact (.tail _ (.head _))) (fun hq => ((List.mem_append.1 hq).elim (fun hq => (.tail _ (.tail _ (List.mem_append_right _ (List.mem_append_right _ (List.mem_append_left _ hq)))))) (fun hq => (absurd hq List.not_mem_nil))))))))
      refine PV 0 rfl hS0 (R_move (v := (.pointer (some ⟨b_a0, 0, none⟩))) e2550) ?_
      refine PV 1 rfl hS0 (R_nilCheck rfl) ?_
      refine PV 2 rfl hS0 (R_field fa134_2 rfl) ?_
      refine PX_v 3 rfl (by kernel_rfl) (.inl rfl) rfl (by decide) (fun _ _ h => h) hS0 (fun l W hpd hs => have hS := hs; R_load (v := v_a0_uses) rfl (load_box1 hS (.tail _ (.head _)) rfl Tryz.isAgg131)) ?_
      refine PV 4 rfl hS0 (R_field fa78_0 rfl) ?_
      refine PX_v 5 rfl (by kernel_rfl) (.inl rfl) rfl (by decide) (fun _ _ h => h) hS0 (fun l W hpd hs => have hS := hs; R_load (v := (.agg (encRole x2555.Role).toArray)) rfl (load_boxA hS (.head _) (encRole x2555.Role) rfl Tryz.isAgg47 Tryz.sizeOf47)) ?_
      obtain ⟨lv2576, hd2577⟩ := h_a0_uses
      obtain ⟨R2578, hr2579, hs2580⟩ := DeepV.rowAt beqRole_iff.1 hd2577 x2555.Role
      refine PX_v 6 rfl (by kernel_rfl) (.inl rfl) rfl (by decide) (fun _ _ h => h) hS0 (fun l W hpd hs => have hS := hs; R_lookupDeep (k := x2555.Role) (z := (.slice none 0 0)) kl47 Tryz.underlying131 Tryz.zeroValue22 rfl rfl hd2577 (fun b o hq => hS.2 b o (.tail _ (.tail _ (List.mem_append_left _ hq))))) ?_
      refine PV 7 rfl hS0 (R_len Tryz.underlying22 rfl (hr2579.slL lenCred)) ?_
      refine PV 8 rfl hS0 (R_move (v := (.int .i64 0)) rfl) ?_
      refine PX_done (by kernel_rfl) ?_
      refine sq_n ?_
      obtain ⟨s2953, hm2954, hm2955⟩ := bind_some hm2547
      refine CW_cut (fun E W => ∃ (l2677 : List (Role × (List (ByteArray × Bool)))) (R2679 : List (Nat × Obj)) (v2680 : Value) (l2681 : List Fact) (R2683 : List (Nat × Obj)) (x2684 : Int) (μ2676 : Mem) (L2685 : List (Nat × Obj)), Sub μ2026 μ2676 ∧ ST false (keys ((b_a0, Obj.cells (#[v_a0_in_, v_a0_creds, v_a0_uses, v_a0_words, v_a0_todo, (.int .i64 a0_n)] : Array Value) 134 (0, 0)) :: (R_a0_in_ ++ (R_a0_creds ++ (R_a0_uses ++ (R_a0_words ++ (R_a0_todo ++ []))))))) w W μ2676 ((b_a0, Obj.cells (#[v_a0_in_, v_a0_creds, v_a0_uses, v_a0_words, v2680, (.int .i64 x2684)] : Array Value) 134 (0, 0)) :: ((b2557, Obj.cells ((encFact x2555).toArray : Array Value) 78 (0, 0)) :: (R2679 ++ (R_a0_creds ++ (R_a0_uses ++ (R_a0_words ++ (R2683 ++ L2685))))))) ∧ E 0 = (.pointer (some ⟨b_a0, 0, none⟩)) ∧ E 2 = (.pointer (some ⟨b2557, 0, none⟩)) ∧ DeepE (fun (x : Role) => (.agg (encRole x).toArray)) (MapRow Value.string (fun (x : Bool) => (Value.bool x))) v_a0_in_ l2677 R2679 ∧ Que 78 encFact 3 v2680 l2681 R2683 ∧ ((m_model_Model_settle_w_L2 x2555 a0_creds a0_uses a0_words (((mget beqS a0_words x2555.Role.Word).getD [])) l2677 l2681 x2684 : Option (((List (Role × (List (ByteArray × Bool)))) × (List Fact) × Int))).bind fun (l2822, l2826, x2829) => (m_model_Model_settle_w_L1 a0_creds a0_uses a0_words n2548 l2822 l2826 x2829)) = some r) ?_ ?_
      · replace hST : ST false (keys ((b_a0, Obj.cells (#[v_a0_in_, v_a0_creds, v_a0_uses, v_a0_words, v_a0_todo, (.int .i64 a0_n)] : Array Value) 134 (0, 0)) :: (R_a0_in_ ++ (R_a0_creds ++ (R_a0_uses ++ (R_a0_words ++ (R_a0_todo ++ []))))))) w _ _ ((b_a0, Obj.cells (#[v_a0_in_, v_a0_creds, v_a0_uses, v_a0_words, (.slice A2563 ((l2031.drop (Int.toNat 1))).length c2564), (.int .i64 x2034)] : Array Value) 134 (0, 0)) :: ((b2557, Obj.cells ((encFact x2555).toArray : Array Value) 78 (0, 0)) :: (R2029 ++ (R_a0_creds ++ (R_a0_uses ++ (R_a0_words ++ (R2033 ++ L2546))))))) := hST.perm (permD [[(b2557, Obj.cells ((encFact x2555).toArray : Array Value) 78 (0, 0))], [(b_a0, Obj.cells (#[v_a0_in_, v_a0_creds, v_a0_uses, v_a0_words, (.slice A2563 ((l2031.drop (Int.toNat 1))).length c2564), (.int .i64 x2034)] : Array Value) 134 (0, 0))]] [0, 1] [1, 0] ((R2029 ++ (R_a0_creds ++ (R_a0_uses ++ (R_a0_words ++ (R2033 ++ L2546)))))) (by decide) rfl rfl)
        refine CW_range (fun i E W => ∃ (l2984 : List (Role × (List (ByteArray × Bool)))) (R2986 : List (Nat × Obj)) (v2987 : Value) (l2988 : List Fact) (R2990 : List (Nat × Obj)) (x2991 : Int) (μ2983 : Mem) (L3025 : List (Nat × Obj)), (E 35 = .int .i64 (i : Nat) ∧ E 34 = .int .i64 ((((mget beqRole a0_uses x2555.Role).getD [])).length : Nat)) ∧ Sub μ2026 μ2983 ∧ ST false (keys ((b_a0, Obj.cells (#[v_a0_in_, v_a0_creds, v_a0_uses, v_a0_words, v_a0_todo, (.int .i64 a0_n)] : Array Value) 134 (0, 0)) :: (R_a0_in_ ++ (R_a0_creds ++ (R_a0_uses ++ (R_a0_words ++ (R_a0_todo ++ []))))))) w W μ2983 ((b_a0, Obj.cells (#[v_a0_in_, v_a0_creds, v_a0_uses, v_a0_words, v2987, (.int .i64 x2991)] : Array Value) 134 (0, 0)) :: ((b2557, Obj.cells ((encFact x2555).toArray : Array Value) 78 (0, 0)) :: (R2986 ++ (R_a0_creds ++ (R_a0_uses ++ (R_a0_words ++ (R2990 ++ L3025))))))) ∧ E 0 = (.pointer (some ⟨b_a0, 0, none⟩)) ∧ E 2 = (.pointer (some ⟨b2557, 0, none⟩)) ∧ E 33 = (valAt beqRole lv2576 x2555.Role (.slice none 0 0)) ∧ DeepE (fun (x : Role) => (.agg (encRole x).toArray)) (MapRow Value.string (fun (x : Bool) => (Value.bool x))) v_a0_in_ l2984 R2986 ∧ Que 78 encFact 3 v2987 l2988 R2990 ∧ m_model_Model_settle_w_L3 a0_creds a0_uses a0_words x2555 ((((mget beqRole a0_uses x2555.Role).getD [])).drop i) l2984 l2988 x2991 = some s2953) (((mget beqRole a0_uses x2555.Role).getD [])).length (hr2579.slL lenCred).len ⟨l2027, R2029, (.slice A2563 ((l2031.drop (Int.toNat 1))).length c2564), ((l2031.drop (Int.toNat 1))), R2033, x2034, μ2026, _, ⟨rfl, rfl⟩, (Sub.refl _), (hST.sublist (List.Sublist.refl _)), e2550, rfl, rfl, hs2028, hs2561, hm2954⟩ (by decide) (by decide) (by decide) (fun _ _ _ h => by obtain ⟨_, _, _, _, _, _, _, _, eIN, _⟩ := h; exact eIN) ?_ ?_
        · rintro i2956 E W hi2962 ⟨l2984, R2986, v2987, l2988, R2990, x2991, μ2983, L3025, ⟨eI, eN⟩, hle3027, hST, e3028, e3029, e3030, hs2985, hs2989, hm3026⟩
          obtain ⟨x2957, xs2958, hx2960, hx2959, hx2961⟩ := drop_cons hi2962
          rw [hx2960] at hm3026
          rw [m_model_Model_settle_w_L3] at hm3026
          refine CW_block ?_
          refine CW_seq ?_
          refine CW_region ?_
          refine LQ (R_indexP (enc := encCred) (i := (i2956 : Int)) (x0 := x2957) Tryz.underlying22 Tryz.sizeOf83 e3030 eI (hr2579.slL lenCred) (Int.natCast_nonneg _) hx2959) (fun p3031 hp3032 => ?_)
          refine LV (R_load rfl (load_atA (Has.hp _) (hp3032.mono (memL_held (fun b o hq => hST.has.2 b o (.tail _ (.tail _ (List.mem_append_right _ (List.mem_append_right _ (List.mem_append_left _ (hs2580 b o hq))))))))) Tryz.isAgg83 Tryz.sizeOf83)) ?_
          refine LE (E_alloc hST Tryz.zeroValue83 (fun W3035 b3034 hST => ?_))
          refine LW_e0 (.inl rfl) rfl (E_store [] (.agg (encCred x2957).toArray) ((encCred x2957).toArray) hST rfl rfl Tryz.sizeOf83 (oneCred x2957) (Nat.le_of_ble_eq_true rfl) rfl (fun W3036 hST => ?_))
          refine LW_nil ?_
          refine sq_n ?_
          refine CW_region ?_
          refine LV (R_move (v := (.pointer (some ⟨b_a0, 0, none⟩))) e3028) ?_
          refine LV (R_load (v := (.agg (encCred x2957).toArray)) rfl (load_boxA hST.has (.head _) (encCred x2957) rfl Tryz.isAgg83 Tryz.sizeOf83)) ?_
          refine LV (R_load (v := (.agg (encFact x2555).toArray)) e3029 (load_boxA hST.has (.tail _ (.tail _ (.head _))) (encFact x2555) rfl Tryz.isAgg78 Tryz.sizeOf78)) ?_
          replace hST : ST false (keys ((b_a0, Obj.cells (#[v_a0_in_, v_a0_creds, v_a0_uses, v_a0_words, v_a0_todo, (.int .i64 a0_n)] : Array Value) 134 (0, 0)) :: (R_a0_in_ ++ (R_a0_creds ++ (R_a0_uses ++ (R_a0_words ++ (R_a0_todo ++ []))))))) w _ _ ((b3034, Obj.cells ((encCred x2957).toArray : Array Value) 83 (0, 0)) :: ((b_a0, Obj.cells (#[v_a0_in_, v_a0_creds, v_a0_uses, v_a0_words, v2987, (.int .i64 x2991)] : Array Value) 134 (0, 0)) :: ((b2557, Obj.cells ((encFact x2555).toArray : Array Value) 78 (0, 0)) :: (R2986 ++ (R_a0_creds ++ (R_a0_uses ++ (R_a0_words ++ (R2990 ++ L3025)))))))) := hST
          obtain ⟨r3037, hr3038, hm3026⟩ := bind_some hm3026
          replace hST : ST false (keys ((b_a0, Obj.cells (#[v_a0_in_, v_a0_creds, v_a0_uses, v_a0_words, v_a0_todo, (.int .i64 a0_n)] : Array Value) 134 (0, 0)) :: (R_a0_in_ ++ (R_a0_creds ++ (R_a0_uses ++ (R_a0_words ++ (R_a0_todo ++ []))))))) w _ _ ((b_a0, Obj.cells (#[v_a0_in_, v_a0_creds, v_a0_uses, v_a0_words, v2987, (.int .i64 x2991)] : Array Value) 134 (0, 0)) :: (R2986 ++ (R_a0_creds ++ (R_a0_uses ++ (R_a0_words ++ (R2990 ++ ((b3034, Obj.cells ((encCred x2957).toArray : Array Value) 83 (0, 0)) :: ((b2557, Obj.cells ((encFact x2555).toArray : Array Value) 78 (0, 0)) :: L3025)))))))) := hST.perm (permD [[(b3034, Obj.cells ((encCred x2957).toArray : Array Value) 83 (0, 0))], [(b_a0, Obj.cells (#[v_a0_in_, v_a0_creds, v_a0_uses, v_a0_words, v2987, (.int .i64 x2991)] : Array Value) 134 (0, 0))], [(b2557, Obj.cells ((encFact x2555).toArray : Array Value) 78 (0, 0))], R2986, R_a0_creds, R_a0_uses, R_a0_words, R2990] [0, 1, 2, 3, 4, 5, 6, 7] [1, 3, 4, 5, 6, 7, 0, 2] L3025 (by decide) rfl rfl)
          have hsz := hST.size
          refine LE (E_callM (args := [(.pointer (some ⟨b_a0, 0, none⟩)), (.agg (encCred x2957).toArray), (.agg (encFact x2555).toArray)]) (caps := #[]) (((b_a0, Obj.cells (#[v_a0_in_, v_a0_creds, v_a0_uses, v_a0_words, v2987, (.int .i64 x2991)] : Array Value) 134 (0, 0)) :: (R2986 ++ (R_a0_creds ++ (R_a0_uses ++ (R_a0_words ++ (R2990 ++ []))))))) (((b3034, Obj.cells ((encCred x2957).toArray : Array Value) 83 (0, 0)) :: ((b2557, Obj.cells ((encFact x2555).toArray : Array Value) 78 (0, 0)) :: L3025))) hST (by simp only [List.append_assoc, List.cons_append, List.nil_append]; exact List.Perm.refl _) rfl Tryz.call147 (by exact args3 rfl rfl rfl) (fun hH hN hsb hmm => (w_model_Model_use_w b_a0 v_a0_in_ l2984 R2986 v_a0_creds a0_creds R_a0_creds v_a0_uses a0_uses R_a0_uses v_a0_words a0_words R_a0_words v2987 l2988 R2990 x2991 x2957 x2555 _ _ hH hN (Sub.refl _) hs2985 h_a0_creds hd2577.e h_a0_words hs2989 hr3038)) (fun W3039 v3042 μ3040 L3044 hST hle3041 hlift hK3043 => ?_))
          obtain ⟨S3045, y3047, S3048, hv3050, rfl, hy3046, hy3049⟩ := hK3043
          replace hv3050 := hv3050.symm; subst hv3050
          simp only [List.append_assoc, List.cons_append, List.nil_append] at hST
          replace hST : ST false (keys ((b_a0, Obj.cells (#[v_a0_in_, v_a0_creds, v_a0_uses, v_a0_words, v_a0_todo, (.int .i64 a0_n)] : Array Value) 134 (0, 0)) :: (R_a0_in_ ++ (R_a0_creds ++ (R_a0_uses ++ (R_a0_words ++ (R_a0_todo ++ []))))))) w _ _ ((b_a0, Obj.cells (#[v_a0_in_, v_a0_creds, v_a0_uses, v_a0_words, y3047, (.int .i64 (r3037.2.2))] : Array Value) 134 (0, 0)) :: ((b3034, Obj.cells ((encCred x2957).toArray : Array Value) 83 (0, 0)) :: ((b2557, Obj.cells ((encFact x2555).toArray : Array Value) 78 (0, 0)) :: (S3045 ++ (R_a0_creds ++ (R_a0_uses ++ (R_a0_words ++ (S3048 ++ L3025)))))))) := hST.perm (permD [[(b_a0, Obj.cells (#[v_a0_in_, v_a0_creds, v_a0_uses, v_a0_words, y3047, (.int .i64 (r3037.2.2))] : Array Value) 134 (0, 0))], S3045, R_a0_creds, R_a0_uses, R_a0_words, S3048, [(b3034, Obj.cells ((encCred x2957).toArray : Array Value) 83 (0, 0))], [(b2557, Obj.cells ((encFact x2555).toArray : Array Value) 78 (0, 0))]] [0, 1, 2, 3, 4, 5, 6, 7] [0, 6, 7, 1, 2, 3, 4, 5] L3025 (by decide) rfl rfl)
          refine LW_nil ?_
          refine bq_n ?_
          refine sq_n ?_
          replace hST : ST false (keys ((b_a0, Obj.cells (#[v_a0_in_, v_a0_creds, v_a0_uses, v_a0_words, v_a0_todo, (.int .i64 a0_n)] : Array Value) 134 (0, 0)) :: (R_a0_in_ ++ (R_a0_creds ++ (R_a0_uses ++ (R_a0_words ++ (R_a0_todo ++ []))))))) w _ _ ((b_a0, Obj.cells (#[v_a0_in_, v_a0_creds, v_a0_uses, v_a0_words, y3047, (.int .i64 (r3037.2.2))] : Array Value) 134 (0, 0)) :: ((b2557, Obj.cells ((encFact x2555).toArray : Array Value) 78 (0, 0)) :: (S3045 ++ (R_a0_creds ++ (R_a0_uses ++ (R_a0_words ++ (S3048 ++ L3025))))))) := hST.sublist (List.Sublist.cons_cons _ (List.Sublist.cons _ (List.Sublist.refl _)))
          exact ⟨eI, r3037.1, S3045, y3047, r3037.2.1, S3048, r3037.2.2, μ3040, _, ⟨rfl, eN⟩, (hle3027.trans hle3041), (hST.sublist (List.Sublist.refl _)), e3028, e3029, e3030, hy3046, hy3049, (by rw [hx2961]; exact hm3026)⟩
        · rintro E W ⟨l2984, R2986, v2987, l2988, R2990, x2991, μ2983, L3025, ⟨eI, eN⟩, hle3027, hST, e3028, e3029, e3030, hs2985, hs2989, hm3026⟩
          rw [List.drop_length] at hm3026
          rw [m_model_Model_settle_w_L3] at hm3026
          refine sq_n ?_
          replace hm3026 := Option.some.inj hm3026; subst hm3026
          exact ⟨l2984, R2986, v2987, l2988, R2990, x2991, μ2983, _, hle3027, (hST.sublist (List.Sublist.refl _)), e3028, e3029, hs2985, hs2989, hm2955⟩
      · rintro E W ⟨l2677, R2679, v2680, l2681, R2683, x2684, μ2676, L2685, hle2687, hST, e2688, e2689, hs2678, hs2682, hm2686⟩
        refine CW_seq ?_
        refine PX_start (fun l W => Has μ2676 ((b_a0, Obj.cells (#[v_a0_in_, v_a0_creds, v_a0_uses, v_a0_words, v2680, (.int .i64 x2684)] : Array Value) 134 (0, 0)) :: ((b2557, Obj.cells ((encFact x2555).toArray : Array Value) 78 (0, 0)) :: (R_a0_words ++ []))) W) Tryz_mixed ?_
        replace hST := hST.drew
        have hS0 : Has μ2676 ((b_a0, Obj.cells (#[v_a0_in_, v_a0_creds, v_a0_uses, v_a0_words, v2680, (.int .i64 x2684)] : Array Value) 134 (0, 0)) :: ((b2557, Obj.cells ((encFact x2555).toArray : Array Value) 78 (0, 0)) :: (R_a0_words ++ []))) _ := hST.has.sub (Sub.refl _) (fun p hq => ((List.mem_cons.1 hq).elim (fun hq => by rw [hq]; exact (.head _)) (fun hq => ((List.mem_cons.1 hq).elim (fun hq => by rw [hq]; exact (.tail _ (.head _))) (fun hq => ((List.mem_append.1 hq).elim (fun hq => (.tail _ (.tail _ (List.mem_append_right _ (List.mem_append_right _ (List.mem_append_right _ (List.mem_append_left _ hq))))))) (fun hq => (absurd hq List.not_mem_nil))))))))
        refine PV 0 rfl hS0 (R_move (v := (.pointer (some ⟨b_a0, 0, none⟩))) e2688) ?_
        refine PV 1 rfl hS0 (R_nilCheck rfl) ?_
        refine PV 2 rfl hS0 (R_field fa134_3 rfl) ?_
        refine PX_v 3 rfl (by kernel_rfl) (.inl rfl) rfl (by decide) (fun _ _ h => h) hS0 (fun l W hpd hs => have hS := hs; R_load (v := v_a0_words) rfl (load_box1 hS (.head _) rfl Tryz.isAgg132)) ?_
        refine PV 4 rfl hS0 (R_field fa78_0 e2689) ?_
        refine PV 5 rfl hS0 (R_field fa47_1 rfl) ?_
        refine PX_v 6 rfl (by kernel_rfl) (.inl rfl) rfl (by decide) (fun _ _ h => h) hS0 (fun l W hpd hs => have hS := hs; R_load (v := (.string x2555.Role.Word)) rfl (load_box1 hS (.tail _ (.head _)) rfl Tryz.isAgg9)) ?_
        obtain ⟨lv2700, hd2701⟩ := h_a0_words
        obtain ⟨R2702, hr2703, hs2704⟩ := DeepV.rowAt beqS_iff.1 hd2701 x2555.Role.Word
        refine PX_v 7 rfl (by kernel_rfl) (.inl rfl) rfl (by decide) (fun _ _ h => h) hS0 (fun l W hpd hs => have hS := hs; R_lookupDeep (k := x2555.Role.Word) (z := (.slice none 0 0)) kl9 Tryz.underlying132 Tryz.zeroValue22 rfl rfl hd2701 (fun b o hq => hS.2 b o (.tail _ (.tail _ (List.mem_append_left _ hq))))) ?_
        refine PV 8 rfl hS0 (R_len Tryz.underlying22 rfl (hr2703.slL lenCred)) ?_
        refine PV 9 rfl hS0 (R_move (v := (.int .i64 0)) rfl) ?_
        refine PX_done (by kernel_rfl) ?_
        refine sq_n ?_
        refine CW_tail ?_
        obtain ⟨s2834, hm2835, hm2836⟩ := bind_some hm2686
        refine CW_cut (fun E W => ∃ (l2822 : List (Role × (List (ByteArray × Bool)))) (R2824 : List (Nat × Obj)) (v2825 : Value) (l2826 : List Fact) (R2828 : List (Nat × Obj)) (x2829 : Int) (μ2821 : Mem) (L2830 : List (Nat × Obj)), Sub μ2676 μ2821 ∧ ST false (keys ((b_a0, Obj.cells (#[v_a0_in_, v_a0_creds, v_a0_uses, v_a0_words, v_a0_todo, (.int .i64 a0_n)] : Array Value) 134 (0, 0)) :: (R_a0_in_ ++ (R_a0_creds ++ (R_a0_uses ++ (R_a0_words ++ (R_a0_todo ++ []))))))) w W μ2821 ((b_a0, Obj.cells (#[v_a0_in_, v_a0_creds, v_a0_uses, v_a0_words, v2825, (.int .i64 x2829)] : Array Value) 134 (0, 0)) :: (R2824 ++ (R_a0_creds ++ (R_a0_uses ++ (R_a0_words ++ (R2828 ++ L2830)))))) ∧ E 0 = (.pointer (some ⟨b_a0, 0, none⟩)) ∧ DeepE (fun (x : Role) => (.agg (encRole x).toArray)) (MapRow Value.string (fun (x : Bool) => (Value.bool x))) v_a0_in_ l2822 R2824 ∧ Que 78 encFact 3 v2825 l2826 R2828 ∧ (m_model_Model_settle_w_L1 a0_creds a0_uses a0_words n2548 l2822 l2826 x2829) = some r) ?_ ?_
        · refine CW_range (fun i E W => ∃ (l2872 : List (Role × (List (ByteArray × Bool)))) (R2874 : List (Nat × Obj)) (v2875 : Value) (l2876 : List Fact) (R2878 : List (Nat × Obj)) (x2879 : Int) (μ2871 : Mem) (L2920 : List (Nat × Obj)), (E 53 = .int .i64 (i : Nat) ∧ E 52 = .int .i64 ((((mget beqS a0_words x2555.Role.Word).getD [])).length : Nat)) ∧ Sub μ2676 μ2871 ∧ ST false (keys ((b_a0, Obj.cells (#[v_a0_in_, v_a0_creds, v_a0_uses, v_a0_words, v_a0_todo, (.int .i64 a0_n)] : Array Value) 134 (0, 0)) :: (R_a0_in_ ++ (R_a0_creds ++ (R_a0_uses ++ (R_a0_words ++ (R_a0_todo ++ []))))))) w W μ2871 ((b_a0, Obj.cells (#[v_a0_in_, v_a0_creds, v_a0_uses, v_a0_words, v2875, (.int .i64 x2879)] : Array Value) 134 (0, 0)) :: ((b2557, Obj.cells ((encFact x2555).toArray : Array Value) 78 (0, 0)) :: (R2874 ++ (R_a0_creds ++ (R_a0_uses ++ (R_a0_words ++ (R2878 ++ L2920))))))) ∧ E 0 = (.pointer (some ⟨b_a0, 0, none⟩)) ∧ E 2 = (.pointer (some ⟨b2557, 0, none⟩)) ∧ E 51 = (valAt beqS lv2700 x2555.Role.Word (.slice none 0 0)) ∧ DeepE (fun (x : Role) => (.agg (encRole x).toArray)) (MapRow Value.string (fun (x : Bool) => (Value.bool x))) v_a0_in_ l2872 R2874 ∧ Que 78 encFact 3 v2875 l2876 R2878 ∧ m_model_Model_settle_w_L2 x2555 a0_creds a0_uses a0_words ((((mget beqS a0_words x2555.Role.Word).getD [])).drop i) l2872 l2876 x2879 = some s2834) (((mget beqS a0_words x2555.Role.Word).getD [])).length (hr2703.slL lenCred).len ⟨l2677, R2679, v2680, l2681, R2683, x2684, μ2676, _, ⟨rfl, rfl⟩, (Sub.refl _), (hST.sublist (List.Sublist.refl _)), e2688, e2689, rfl, hs2678, hs2682, hm2835⟩ (by decide) (by decide) (by decide) (fun _ _ _ h => by obtain ⟨_, _, _, _, _, _, _, _, eIN, _⟩ := h; exact eIN) ?_ ?_
          · rintro i2837 E W hi2843 ⟨l2872, R2874, v2875, l2876, R2878, x2879, μ2871, L2920, ⟨eI, eN⟩, hle2922, hST, e2923, e2924, e2925, hs2873, hs2877, hm2921⟩
            obtain ⟨x2838, xs2839, hx2841, hx2840, hx2842⟩ := drop_cons hi2843
            rw [hx2841] at hm2921
            rw [m_model_Model_settle_w_L2] at hm2921
            refine CW_block ?_
            refine CW_seq ?_
            refine CW_region ?_
            refine LQ (R_indexP (enc := encCred) (i := (i2837 : Int)) (x0 := x2838) Tryz.underlying22 Tryz.sizeOf83 e2925 eI (hr2703.slL lenCred) (Int.natCast_nonneg _) hx2840) (fun p2926 hp2927 => ?_)
            refine LV (R_load rfl (load_atA (Has.hp _) (hp2927.mono (memL_held (fun b o hq => hST.has.2 b o (.tail _ (.tail _ (List.mem_append_right _ (List.mem_append_right _ (List.mem_append_right _ (List.mem_append_left _ (hs2704 b o hq)))))))))) Tryz.isAgg83 Tryz.sizeOf83)) ?_
            refine LE (E_alloc hST Tryz.zeroValue83 (fun W2930 b2929 hST => ?_))
            refine LW_e0 (.inl rfl) rfl (E_store [] (.agg (encCred x2838).toArray) ((encCred x2838).toArray) hST rfl rfl Tryz.sizeOf83 (oneCred x2838) (Nat.le_of_ble_eq_true rfl) rfl (fun W2931 hST => ?_))
            refine LW_nil ?_
            refine sq_n ?_
            refine CW_seq ?_
            refine PX_start (fun l W => Has μ2871 ((b2929, Obj.cells ((encCred x2838).toArray : Array Value) 83 (0, 0)) :: ((b_a0, Obj.cells (#[v_a0_in_, v_a0_creds, v_a0_uses, v_a0_words, v2875, (.int .i64 x2879)] : Array Value) 134 (0, 0)) :: ((b2557, Obj.cells ((encFact x2555).toArray : Array Value) 78 (0, 0)) :: (R2874 ++ [])))) W) Tryz_mixed ?_
            replace hST := hST.drew
            replace hST : ST false (keys ((b_a0, Obj.cells (#[v_a0_in_, v_a0_creds, v_a0_uses, v_a0_words, v_a0_todo, (.int .i64 a0_n)] : Array Value) 134 (0, 0)) :: (R_a0_in_ ++ (R_a0_creds ++ (R_a0_uses ++ (R_a0_words ++ (R_a0_todo ++ []))))))) w _ _ ((b2929, Obj.cells ((encCred x2838).toArray : Array Value) 83 (0, 0)) :: ((b_a0, Obj.cells (#[v_a0_in_, v_a0_creds, v_a0_uses, v_a0_words, v2875, (.int .i64 x2879)] : Array Value) 134 (0, 0)) :: ((b2557, Obj.cells ((encFact x2555).toArray : Array Value) 78 (0, 0)) :: (R2874 ++ (R_a0_creds ++ (R_a0_uses ++ (R_a0_words ++ (R2878 ++ L2920)))))))) := hST
            have hS0 : Has μ2871 ((b2929, Obj.cells ((encCred x2838).toArray : Array Value) 83 (0, 0)) :: ((b_a0, Obj.cells (#[v_a0_in_, v_a0_creds, v_a0_uses, v_a0_words, v2875, (.int .i64 x2879)] : Array Value) 134 (0, 0)) :: ((b2557, Obj.cells ((encFact x2555).toArray : Array Value) 78 (0, 0)) :: (R2874 ++ [])))) _ := hST.has.sub (Sub.refl _) (fun p hq => ((List.mem_cons.1 hq).elim (fun hq => by rw [hq]; exact (.head _)) (fun hq => ((List.mem_cons.1 hq).elim (fun hq => by rw [hq]; exact (.tail _ (.head _))) (fun hq => ((List.mem_cons.1 hq).elim (fun hq => by rw [hq]; exact (.tail _ (.tail _ (.head _)))) (fun hq => ((List.mem_append.1 hq).elim (fun hq => (.tail _ (.tail _ (.tail _ (List.mem_append_left _ hq))))) (fun hq => (absurd hq List.not_mem_nil))))))))))
            refine PV 0 rfl hS0 (R_move (v := (.pointer (some ⟨b_a0, 0, none⟩))) e2923) ?_
            refine PV 1 rfl hS0 (R_nilCheck rfl) ?_
            refine PV 2 rfl hS0 (R_field fa134_0 rfl) ?_
            refine PX_v 3 rfl (by kernel_rfl) (.inl rfl) rfl (by decide) (fun _ _ h => h) hS0 (fun l W hpd hs => have hS := hs; R_load (v := v_a0_in_) rfl (load_box1 hS (.tail _ (.head _)) rfl Tryz.isAgg130)) ?_
            refine PV 4 rfl hS0 (R_field fa83_3 rfl) ?_
            refine PX_v 5 rfl (by kernel_rfl) (.inl rfl) rfl (by decide) (fun _ _ h => h) hS0 (fun l W hpd hs => have hS := hs; R_load (v := (.agg (encRole x2838.B).toArray)) rfl (load_boxA hS (.head _) (encRole x2838.B) rfl Tryz.isAgg47 Tryz.sizeOf47)) ?_
            obtain ⟨lv2936, hd2937⟩ := hs2873
            refine PX_v 6 rfl (by kernel_rfl) (.inl rfl) rfl (by decide) (fun _ _ h => h) hS0 (fun l W hpd hs => have hS := hs; R_lookupDeep (k := x2838.B) (z := (.map none)) kl47 Tryz.underlying130 Tryz.zeroValue119 rfl rfl hd2937 (fun b o hq => hS.2 b o (.tail _ (.tail _ (.tail _ (List.mem_append_left _ hq)))))) ?_
            refine PV 7 rfl hS0 (R_field fa78_0 e2924) ?_
            refine PV 8 rfl hS0 (R_field fa47_0 rfl) ?_
            refine PX_v 9 rfl (by kernel_rfl) (.inl rfl) rfl (by decide) (fun _ _ h => h) hS0 (fun l W hpd hs => have hS := hs; R_load (v := (.string x2555.Role.Owner)) rfl (load_box1 hS (.tail _ (.tail _ (.head _))) rfl Tryz.isAgg9)) ?_
            refine PX_v 10 rfl (by kernel_rfl) (.inl rfl) rfl (by decide) (fun _ _ h => h) hS0 (fun l W hpd hs => have hS := hs; R_lookupD (k := x2555.Role.Owner) (z := false) (vf := (fun (x : Bool) => (Value.bool x))) kl9 Tryz.underlying119 Tryz.zeroValue4 rfl rfl (DeepV.mapAt (μ := hp _) beqRole_iff.1 hd2937 x2838.B (fun b o hq => hS.2 b o (.tail _ (.tail _ (.tail _ (List.mem_append_left _ hq))))))) ?_
            refine PX_done (by kernel_rfl) ?_
            refine sq_n ?_
            refine CW_if (b := (mgetD beqS (((mget beqRole l2872 x2838.B).getD [])) x2555.Role.Owner false)) rfl (fun hb2938 => ?_) (fun hb2938 => ?_)
            · replace hm2921 := if_t hb2938 hm2921
              refine CW_region ?_
              refine LV (R_move (v := (.pointer (some ⟨b_a0, 0, none⟩))) e2923) ?_
              refine LV (R_field fa83_1 rfl) ?_
              refine LV (R_load (v := (.agg (encRole x2838.Head).toArray)) rfl (load_boxA hST.has (.head _) (encRole x2838.Head) rfl Tryz.isAgg47 Tryz.sizeOf47)) ?_
              refine LV (R_field fa78_1 e2924) ?_
              refine LV (R_load (v := (.string x2555.Who)) rfl (load_box1 hST.has (.tail _ (.tail _ (.head _))) rfl Tryz.isAgg9)) ?_
              obtain ⟨r2939, hr2940, hm2921⟩ := bind_some hm2921
              replace hST : ST false (keys ((b_a0, Obj.cells (#[v_a0_in_, v_a0_creds, v_a0_uses, v_a0_words, v_a0_todo, (.int .i64 a0_n)] : Array Value) 134 (0, 0)) :: (R_a0_in_ ++ (R_a0_creds ++ (R_a0_uses ++ (R_a0_words ++ (R_a0_todo ++ []))))))) w _ _ ((b_a0, Obj.cells (#[v_a0_in_, v_a0_creds, v_a0_uses, v_a0_words, v2875, (.int .i64 x2879)] : Array Value) 134 (0, 0)) :: (R2874 ++ (R_a0_creds ++ (R_a0_uses ++ (R_a0_words ++ (R2878 ++ ((b2929, Obj.cells ((encCred x2838).toArray : Array Value) 83 (0, 0)) :: ((b2557, Obj.cells ((encFact x2555).toArray : Array Value) 78 (0, 0)) :: L2920)))))))) := hST.perm (permD [[(b2929, Obj.cells ((encCred x2838).toArray : Array Value) 83 (0, 0))], [(b_a0, Obj.cells (#[v_a0_in_, v_a0_creds, v_a0_uses, v_a0_words, v2875, (.int .i64 x2879)] : Array Value) 134 (0, 0))], [(b2557, Obj.cells ((encFact x2555).toArray : Array Value) 78 (0, 0))], R2874, R_a0_creds, R_a0_uses, R_a0_words, R2878] [0, 1, 2, 3, 4, 5, 6, 7] [1, 3, 4, 5, 6, 7, 0, 2] L2920 (by decide) rfl rfl)
              have hsz := hST.size
              refine LE (E_callM (args := [(.pointer (some ⟨b_a0, 0, none⟩)), (.agg (encRole x2838.Head).toArray), (.string x2555.Who)]) (caps := #[]) (((b_a0, Obj.cells (#[v_a0_in_, v_a0_creds, v_a0_uses, v_a0_words, v2875, (.int .i64 x2879)] : Array Value) 134 (0, 0)) :: (R2874 ++ (R_a0_creds ++ (R_a0_uses ++ (R_a0_words ++ (R2878 ++ []))))))) (((b2929, Obj.cells ((encCred x2838).toArray : Array Value) 83 (0, 0)) :: ((b2557, Obj.cells ((encFact x2555).toArray : Array Value) 78 (0, 0)) :: L2920))) hST (by simp only [List.append_assoc, List.cons_append, List.nil_append]; exact List.Perm.refl _) rfl Tryz.call146 (by exact args3 rfl rfl rfl) (fun hH hN hsb hmm => GivesM.weak (w_model_Model_tell_w b_a0 v_a0_in_ l2872 R2874 v_a0_creds a0_creds R_a0_creds v_a0_uses a0_uses R_a0_uses v_a0_words a0_words R_a0_words v2875 l2876 R2878 x2879 x2838.Head x2555.Who _ _ hH hN (Sub.refl _) hd2937.e h_a0_creds hd2577.e hd2701.e hs2877 hr2940)) (fun W2941 v2944 μ2942 L2946 hST hle2943 hlift hK2945 => ?_))
              obtain ⟨S2947, y2949, S2950, hv2952, rfl, hy2948, hy2951⟩ := hK2945
              replace hv2952 := hv2952.symm; subst hv2952
              simp only [List.append_assoc, List.cons_append, List.nil_append] at hST
              replace hST : ST false (keys ((b_a0, Obj.cells (#[v_a0_in_, v_a0_creds, v_a0_uses, v_a0_words, v_a0_todo, (.int .i64 a0_n)] : Array Value) 134 (0, 0)) :: (R_a0_in_ ++ (R_a0_creds ++ (R_a0_uses ++ (R_a0_words ++ (R_a0_todo ++ []))))))) w _ _ ((b_a0, Obj.cells (#[v_a0_in_, v_a0_creds, v_a0_uses, v_a0_words, y2949, (.int .i64 (r2939.2.2))] : Array Value) 134 (0, 0)) :: ((b2929, Obj.cells ((encCred x2838).toArray : Array Value) 83 (0, 0)) :: ((b2557, Obj.cells ((encFact x2555).toArray : Array Value) 78 (0, 0)) :: (S2947 ++ (R_a0_creds ++ (R_a0_uses ++ (R_a0_words ++ (S2950 ++ L2920)))))))) := hST.perm (permD [[(b_a0, Obj.cells (#[v_a0_in_, v_a0_creds, v_a0_uses, v_a0_words, y2949, (.int .i64 (r2939.2.2))] : Array Value) 134 (0, 0))], S2947, R_a0_creds, R_a0_uses, R_a0_words, S2950, [(b2929, Obj.cells ((encCred x2838).toArray : Array Value) 83 (0, 0))], [(b2557, Obj.cells ((encFact x2555).toArray : Array Value) 78 (0, 0))]] [0, 1, 2, 3, 4, 5, 6, 7] [0, 6, 7, 1, 2, 3, 4, 5] L2920 (by decide) rfl rfl)
              refine LW_nil ?_
              refine bq_n ?_
              refine sq_n ?_
              replace hST : ST false (keys ((b_a0, Obj.cells (#[v_a0_in_, v_a0_creds, v_a0_uses, v_a0_words, v_a0_todo, (.int .i64 a0_n)] : Array Value) 134 (0, 0)) :: (R_a0_in_ ++ (R_a0_creds ++ (R_a0_uses ++ (R_a0_words ++ (R_a0_todo ++ []))))))) w _ _ ((b_a0, Obj.cells (#[v_a0_in_, v_a0_creds, v_a0_uses, v_a0_words, y2949, (.int .i64 (r2939.2.2))] : Array Value) 134 (0, 0)) :: ((b2557, Obj.cells ((encFact x2555).toArray : Array Value) 78 (0, 0)) :: (S2947 ++ (R_a0_creds ++ (R_a0_uses ++ (R_a0_words ++ (S2950 ++ L2920))))))) := hST.sublist (List.Sublist.cons_cons _ (List.Sublist.cons _ (List.Sublist.refl _)))
              exact ⟨eI, r2939.1, S2947, y2949, r2939.2.1, S2950, r2939.2.2, μ2942, _, ⟨rfl, eN⟩, (hle2922.trans hle2943), (hST.sublist (List.Sublist.refl _)), e2923, e2924, e2925, hy2948, hy2951, (by rw [hx2842]; exact hm2921)⟩
            · replace hm2921 := if_f hb2938 hm2921
              refine CW_skip ?_
              refine bq_n ?_
              refine sq_n ?_
              replace hST : ST false (keys ((b_a0, Obj.cells (#[v_a0_in_, v_a0_creds, v_a0_uses, v_a0_words, v_a0_todo, (.int .i64 a0_n)] : Array Value) 134 (0, 0)) :: (R_a0_in_ ++ (R_a0_creds ++ (R_a0_uses ++ (R_a0_words ++ (R_a0_todo ++ []))))))) w _ _ ((b_a0, Obj.cells (#[v_a0_in_, v_a0_creds, v_a0_uses, v_a0_words, v2875, (.int .i64 x2879)] : Array Value) 134 (0, 0)) :: ((b2557, Obj.cells ((encFact x2555).toArray : Array Value) 78 (0, 0)) :: (R2874 ++ (R_a0_creds ++ (R_a0_uses ++ (R_a0_words ++ (R2878 ++ L2920))))))) := hST.sublist (List.Sublist.cons _ (List.Sublist.refl _))
              exact ⟨eI, l2872, R2874, v2875, l2876, R2878, x2879, μ2871, _, ⟨rfl, eN⟩, hle2922, (hST.sublist (List.Sublist.refl _)), e2923, e2924, e2925, hd2937.e, hs2877, (by rw [hx2842]; exact hm2921)⟩
          · rintro E W ⟨l2872, R2874, v2875, l2876, R2878, x2879, μ2871, L2920, ⟨eI, eN⟩, hle2922, hST, e2923, e2924, e2925, hs2873, hs2877, hm2921⟩
            rw [List.drop_length] at hm2921
            rw [m_model_Model_settle_w_L2] at hm2921
            refine sq_n ?_
            replace hm2921 := Option.some.inj hm2921; subst hm2921
            exact ⟨l2872, R2874, v2875, l2876, R2878, x2879, μ2871, _, hle2922, (hST.sublist (List.Sublist.cons_cons _ (List.Sublist.cons _ (List.Sublist.refl _)))), e2923, hs2873, hs2877, hm2836⟩
        · rintro E W ⟨l2822, R2824, v2825, l2826, R2828, x2829, μ2821, L2830, hle2832, hST, e2833, hs2823, hs2827, hm2831⟩
          refine bq_n ?_
          refine sq_n ?_
          exact ⟨n2548, Nat.lt_succ_self _, l2822, R2824, v2825, l2826, R2828, x2829, μ2821, _, ((hle2549.trans hle2687).trans hle2832), (hST.sublist (List.Sublist.refl _)), e2833, hs2823, hs2827, hm2831⟩
    · replace hm2547 := if_f hb2551 hm2547
      refine CW_exit ?_
      refine sq_e (sq_e (bq_e ?_))
      refine sq_n ?_
      refine retQ_n ?_
      replace hm2547 := Option.some.inj hm2547; subst hm2547
      refine retQ_0 rfl ?_
      replace hST : ST false (keys ((b_a0, Obj.cells (#[v_a0_in_, v_a0_creds, v_a0_uses, v_a0_words, v_a0_todo, (.int .i64 a0_n)] : Array Value) 134 (0, 0)) :: (R_a0_in_ ++ (R_a0_creds ++ (R_a0_uses ++ (R_a0_words ++ (R_a0_todo ++ []))))))) w _ _ ((b_a0, Obj.cells (#[v_a0_in_, v_a0_creds, v_a0_uses, v_a0_words, v2030, (.int .i64 x2034)] : Array Value) 134 (0, 0)) :: (R2029 ++ (R_a0_creds ++ (R_a0_uses ++ (R_a0_words ++ (R2033 ++ L2546)))))) := hST
      exact ⟨_, ((b_a0, Obj.cells (#[v_a0_in_, v_a0_creds, v_a0_uses, v_a0_words, v2030, (.int .i64 x2034)] : Array Value) 134 (0, 0)) :: (R2029 ++ (R_a0_creds ++ (R_a0_uses ++ (R_a0_words ++ (R2033 ++ [])))))), rfl, (ST.backM (L1 := ((b_a0, Obj.cells (#[v_a0_in_, v_a0_creds, v_a0_uses, v_a0_words, v2030, (.int .i64 x2034)] : Array Value) 134 (0, 0)) :: (R2029 ++ (R_a0_creds ++ (R_a0_uses ++ (R_a0_words ++ (R2033 ++ []))))))) (by have hh : ST false (keys ((b_a0, Obj.cells (#[v_a0_in_, v_a0_creds, v_a0_uses, v_a0_words, v_a0_todo, (.int .i64 a0_n)] : Array Value) 134 (0, 0)) :: (R_a0_in_ ++ (R_a0_creds ++ (R_a0_uses ++ (R_a0_words ++ (R_a0_todo ++ []))))))) w _ _ ((b_a0, Obj.cells (#[v_a0_in_, v_a0_creds, v_a0_uses, v_a0_words, v2030, (.int .i64 x2034)] : Array Value) 134 (0, 0)) :: (R2029 ++ (R_a0_creds ++ (R_a0_uses ++ (R_a0_words ++ (R2033 ++ L2546)))))) := hST.perm (List.Perm.refl _); simpa only [List.append_assoc, List.cons_append, List.nil_append] using hh)), R2029, v2030, R2033, rfl, rfl, hs2028, hs2032⟩
theorem w_model_Model_Add_w (b_a0 : Nat) (v_a0_in_ : Value) (a0_in_ : List (Role × (List (ByteArray × Bool)))) (R_a0_in_ : List (Nat × Obj)) (v_a0_creds : Value) (a0_creds : List Cred) (R_a0_creds : List (Nat × Obj)) (v_a0_uses : Value) (a0_uses : List (Role × (List Cred))) (R_a0_uses : List (Nat × Obj)) (v_a0_words : Value) (a0_words : List (ByteArray × (List Cred))) (R_a0_words : List (Nat × Obj)) (v_a0_todo : Value) (a0_todo : List Fact) (R_a0_todo : List (Nat × Obj)) (a0_n : Int) (v_a1 : Value) (a1 : List Cred) (r : (Int × (List (Role × (List (ByteArray × Bool)))) × (List Cred) × (List (Role × (List Cred))) × (List (ByteArray × (List Cred))) × (List Fact) × Int)) (w : World) {μ0 : Mem} (hH : Held ((b_a0, Obj.cells (#[v_a0_in_, v_a0_creds, v_a0_uses, v_a0_words, v_a0_todo, (.int .i64 a0_n)] : Array Value) 134 (0, 0)) :: (R_a0_in_ ++ (R_a0_creds ++ (R_a0_uses ++ (R_a0_words ++ (R_a0_todo ++ [])))))) w) (hN : ((((b_a0, Obj.cells (#[v_a0_in_, v_a0_creds, v_a0_uses, v_a0_words, v_a0_todo, (.int .i64 a0_n)] : Array Value) 134 (0, 0)) :: (R_a0_in_ ++ (R_a0_creds ++ (R_a0_uses ++ (R_a0_words ++ (R_a0_todo ++ [])))))) : List (Nat × Obj)).map (·.1)).Nodup) (hS0 : Sub μ0 (hpx w ((b_a0, Obj.cells (#[v_a0_in_, v_a0_creds, v_a0_uses, v_a0_words, v_a0_todo, (.int .i64 a0_n)] : Array Value) 134 (0, 0)) :: (R_a0_in_ ++ (R_a0_creds ++ (R_a0_uses ++ (R_a0_words ++ (R_a0_todo ++ [])))))))) (h_a0_in_ : DeepE (fun (x : Role) => (.agg (encRole x).toArray)) (MapRow Value.string (fun (x : Bool) => (Value.bool x))) v_a0_in_ a0_in_ R_a0_in_) (h_a0_creds : Row 83 encCred 9 v_a0_creds a0_creds R_a0_creds) (h_a0_uses : DeepE (fun (x : Role) => (.agg (encRole x).toArray)) (Row 83 encCred 9) v_a0_uses a0_uses R_a0_uses) (h_a0_words : DeepE Value.string (Row 83 encCred 9) v_a0_words a0_words R_a0_words) (h_a0_todo : Que 78 encFact 3 v_a0_todo a0_todo R_a0_todo) (h_a1 : Sl (Pl encCred) 9 μ0 v_a1 a1) (hm : m_model_Model_Add_w a0_in_ a0_creds a0_uses a0_words a0_todo a0_n a1 = some r) :
    GivesM false Tryz.prog 41 [(.pointer (some ⟨b_a0, 0, none⟩)), v_a1] w ((b_a0, Obj.cells (#[v_a0_in_, v_a0_creds, v_a0_uses, v_a0_words, v_a0_todo, (.int .i64 a0_n)] : Array Value) 134 (0, 0)) :: (R_a0_in_ ++ (R_a0_creds ++ (R_a0_uses ++ (R_a0_words ++ (R_a0_todo ++ [])))))) (fun v L1 W' => ∃ (S1 : List (Nat × Obj)) (y3 : Value) (S4 : List (Nat × Obj)) (S6 : List (Nat × Obj)) (S8 : List (Nat × Obj)) (y10 : Value) (S11 : List (Nat × Obj)), v = (.int .i64 (r.1)) ∧ L1 = ((b_a0, Obj.cells (#[v_a0_in_, y3, v_a0_uses, v_a0_words, y10, (.int .i64 (r.2.2.2.2.2.2))] : Array Value) 134 (0, 0)) :: (S1 ++ (S4 ++ (S6 ++ (S8 ++ (S11 ++ [])))))) ∧ DeepE (fun (x : Role) => (.agg (encRole x).toArray)) (MapRow Value.string (fun (x : Bool) => (Value.bool x))) v_a0_in_ r.2.1 S1 ∧ Row 83 encCred 9 y3 r.2.2.1 S4 ∧ DeepE (fun (x : Role) => (.agg (encRole x).toArray)) (Row 83 encCred 9) v_a0_uses r.2.2.2.1 S6 ∧ DeepE Value.string (Row 83 encCred 9) v_a0_words r.2.2.2.2.1 S8 ∧ Que 78 encFact 3 y10 r.2.2.2.2.2.1 S11) := by
  have hST := (ST.startM (dd := false) hH hN).weak hS0
  unfold m_model_Model_Add_w at hm
  refine calls_of_CW (n := 46) Tryz.func41 rfl rfl (Nat.le_of_ble_eq_true rfl) ?_
  refine CW_seq ?_
  refine CW_region ?_
  refine LV (R_assign (v := (.int .i64 0)) rfl) ?_
  refine LW_nil ?_
  refine sq_n ?_
  refine CW_seq ?_
  refine CW_seq ?_
  refine CW_region ?_
  refine LV (R_move (v := (.pointer (some ⟨b_a0, 0, none⟩))) rfl) ?_
  refine LV (R_ptrEqNil Tryz.underlying51 rfl rfl) ?_
  refine LW_nil ?_
  refine sq_n ?_
  refine CW_if_false rfl ?_
  refine CW_skip ?_
  refine sq_n ?_
  refine CW_seq ?_
  refine CW_region ?_
  refine LV (R_move (v := (.pointer (some ⟨b_a0, 0, none⟩))) rfl) ?_
  refine LV (R_nilCheck rfl) ?_
  refine LV (R_field fa134_5 rfl) ?_
  refine LV (R_load (v := (.int .i64 a0_n)) rfl (load_box1 hST.has (.head _) rfl Tryz.isAgg3)) ?_
  refine LV (R_assign (v := (.int .i64 a0_n)) rfl) ?_
  refine LW_nil ?_
  refine sq_n ?_
  refine CW_seq ?_
  refine CW_seq ?_
  refine CW_region ?_
  refine LV (R_move (v := v_a1) rfl) ?_
  refine LV (R_len Tryz.underlying22 rfl h_a1) ?_
  refine LV (R_move (v := (.int .i64 0)) rfl) ?_
  refine LW_nil ?_
  refine sq_n ?_
  refine CW_range (fun i E W => ∃ (l500 : List (Role × (List (ByteArray × Bool)))) (R502 : List (Nat × Obj)) (v503 : Value) (l504 : List Cred) (R506 : List (Nat × Obj)) (l507 : List (Role × (List Cred))) (R509 : List (Nat × Obj)) (l510 : List (ByteArray × (List Cred))) (R512 : List (Nat × Obj)) (v513 : Value) (l514 : List Fact) (R516 : List (Nat × Obj)) (x517 : Int) (μ499 : Mem) (L650 : List (Nat × Obj)), (E 16 = .int .i64 (i : Nat) ∧ E 15 = .int .i64 (a1.length : Nat)) ∧ Sub μ0 μ499 ∧ ST false (keys ((b_a0, Obj.cells (#[v_a0_in_, v_a0_creds, v_a0_uses, v_a0_words, v_a0_todo, (.int .i64 a0_n)] : Array Value) 134 (0, 0)) :: (R_a0_in_ ++ (R_a0_creds ++ (R_a0_uses ++ (R_a0_words ++ (R_a0_todo ++ []))))))) w W μ499 ((b_a0, Obj.cells (#[v_a0_in_, v503, v_a0_uses, v_a0_words, v513, (.int .i64 x517)] : Array Value) 134 (0, 0)) :: (R502 ++ (R506 ++ (R509 ++ (R512 ++ (R516 ++ L650)))))) ∧ E 0 = (.pointer (some ⟨b_a0, 0, none⟩)) ∧ E 5 = (.int .i64 a0_n) ∧ E 14 = v_a1 ∧ DeepE (fun (x : Role) => (.agg (encRole x).toArray)) (MapRow Value.string (fun (x : Bool) => (Value.bool x))) v_a0_in_ l500 R502 ∧ Row 83 encCred 9 v503 l504 R506 ∧ DeepE (fun (x : Role) => (.agg (encRole x).toArray)) (Row 83 encCred 9) v_a0_uses l507 R509 ∧ DeepE Value.string (Row 83 encCred 9) v_a0_words l510 R512 ∧ Que 78 encFact 3 v513 l514 R516 ∧ m_model_Model_Add_w_L1 a0_n (a1.drop i) l500 l504 l507 l510 l514 x517 = some r) a1.length h_a1.len ⟨a0_in_, R_a0_in_, v_a0_creds, a0_creds, R_a0_creds, a0_uses, R_a0_uses, a0_words, R_a0_words, v_a0_todo, a0_todo, R_a0_todo, a0_n, μ0, _, ⟨rfl, rfl⟩, (Sub.refl _), (hST.sublist (List.Sublist.refl _)), rfl, rfl, rfl, h_a0_in_, h_a0_creds, h_a0_uses, h_a0_words, h_a0_todo, hm⟩ (by decide) (by decide) (by decide) (fun _ _ _ h => by obtain ⟨_, _, _, _, _, _, _, _, _, _, _, _, _, _, _, eIN, _⟩ := h; exact eIN) ?_ ?_
  · rintro i383 E W hi389 ⟨l500, R502, v503, l504, R506, l507, R509, l510, R512, v513, l514, R516, x517, μ499, L650, ⟨eI, eN⟩, hle652, hST, e653, e654, e655, hs501, hs505, hs508, hs511, hs515, hm651⟩
    obtain ⟨x384, xs385, hx387, hx386, hx388⟩ := drop_cons hi389
    rw [hx387] at hm651
    rw [m_model_Model_Add_w_L1] at hm651
    refine CW_block ?_
    refine CW_seq ?_
    refine CW_region ?_
    refine LQ (R_indexP (enc := encCred) (i := (i383 : Int)) (x0 := x384) Tryz.underlying22 Tryz.sizeOf83 e655 eI (h_a1.mono (Pl.mono _) hle652) (Int.natCast_nonneg _) hx386) (fun p656 hp657 => ?_)
    refine LV (R_load rfl (load_atA hST.has hp657 Tryz.isAgg83 Tryz.sizeOf83)) ?_
    refine LE (E_alloc hST Tryz.zeroValue83 (fun W660 b659 hST => ?_))
    refine LW_e0 (.inl rfl) rfl (E_store [] (.agg (encCred x384).toArray) ((encCred x384).toArray) hST rfl rfl Tryz.sizeOf83 (oneCred x384) (Nat.le_of_ble_eq_true rfl) rfl (fun W661 hST => ?_))
    refine LW_nil ?_
    refine sq_n ?_
    refine CW_seq ?_
    refine PX_start (fun l W => Has μ499 ((b659, Obj.cells ((encCred x384).toArray : Array Value) 83 (0, 0)) :: ((b_a0, Obj.cells (#[v_a0_in_, v503, v_a0_uses, v_a0_words, v513, (.int .i64 x517)] : Array Value) 134 (0, 0)) :: [])) W) Tryz_mixed ?_
    replace hST := hST.drew
    replace hST : ST false (keys ((b_a0, Obj.cells (#[v_a0_in_, v_a0_creds, v_a0_uses, v_a0_words, v_a0_todo, (.int .i64 a0_n)] : Array Value) 134 (0, 0)) :: (R_a0_in_ ++ (R_a0_creds ++ (R_a0_uses ++ (R_a0_words ++ (R_a0_todo ++ []))))))) w _ _ ((b659, Obj.cells ((encCred x384).toArray : Array Value) 83 (0, 0)) :: ((b_a0, Obj.cells (#[v_a0_in_, v503, v_a0_uses, v_a0_words, v513, (.int .i64 x517)] : Array Value) 134 (0, 0)) :: (R502 ++ (R506 ++ (R509 ++ (R512 ++ (R516 ++ L650))))))) := hST
    have hS0 : Has μ499 ((b659, Obj.cells ((encCred x384).toArray : Array Value) 83 (0, 0)) :: ((b_a0, Obj.cells (#[v_a0_in_, v503, v_a0_uses, v_a0_words, v513, (.int .i64 x517)] : Array Value) 134 (0, 0)) :: [])) _ := hST.has.sub (Sub.refl _) (fun p hq => ((List.mem_cons.1 hq).elim (fun hq => by rw [hq]; exact (.head _)) (fun hq => ((List.mem_cons.1 hq).elim (fun hq => by rw [hq]; exact (.tail _ (.head _))) (fun hq => (absurd hq List.not_mem_nil))))))
    refine PX_v 0 rfl (by kernel_rfl) (.inl rfl) rfl (by decide) (fun _ _ h => h) hS0 (fun l W hpd hs => have hS := hs; R_load (v := (.agg (encCred x384).toArray)) rfl (load_boxA hS (.head _) (encCred x384) rfl Tryz.isAgg83 Tryz.sizeOf83)) ?_
    obtain ⟨r710, hr711, hm651⟩ := bind_some hm651
    refine PX_e 1 rfl (by kernel_rfl) (.inl rfl) rfl (by decide) (E_gives (args := [(.agg (encCred x384).toArray)]) hST rfl Tryz.call98 (by exact args1 rfl) (Gives.weak (w_cred_Right x384 _ _  hr711)) (fun W712 hST => ?_))
    have hS0 : Has μ499 ((b659, Obj.cells ((encCred x384).toArray : Array Value) 83 (0, 0)) :: ((b_a0, Obj.cells (#[v_a0_in_, v503, v_a0_uses, v_a0_words, v513, (.int .i64 x517)] : Array Value) 134 (0, 0)) :: [])) _ := hST.has.sub (Sub.refl _) (fun p hq => ((List.mem_cons.1 hq).elim (fun hq => by rw [hq]; exact (.head _)) (fun hq => ((List.mem_cons.1 hq).elim (fun hq => by rw [hq]; exact (.tail _ (.head _))) (fun hq => (absurd hq List.not_mem_nil))))))
    refine ⟨hS0, ?_⟩
    refine PV 2 rfl hS0 (R_move (v := (.bool r710)) rfl) ?_
    obtain ⟨s758, hm759, hm760⟩ := bind_some hm651
    refine PX_join (J := fun E W => ∃ (x717 : Bool) (L718 : List (Nat × Obj)), ST false (keys ((b_a0, Obj.cells (#[v_a0_in_, v_a0_creds, v_a0_uses, v_a0_words, v_a0_todo, (.int .i64 a0_n)] : Array Value) 134 (0, 0)) :: (R_a0_in_ ++ (R_a0_creds ++ (R_a0_uses ++ (R_a0_words ++ (R_a0_todo ++ []))))))) w W μ499 ((b659, Obj.cells ((encCred x384).toArray : Array Value) 83 (0, 0)) :: ((b_a0, Obj.cells (#[v_a0_in_, v503, v_a0_uses, v_a0_words, v513, (.int .i64 x517)] : Array Value) 134 (0, 0)) :: (R502 ++ (R506 ++ (R509 ++ (R512 ++ (R516 ++ L718))))))) ∧ E 0 = (.pointer (some ⟨b_a0, 0, none⟩)) ∧ E 5 = (.int .i64 a0_n) ∧ E 7 = (.pointer (some ⟨b659, 0, none⟩)) ∧ E 14 = v_a1 ∧ E 15 = (.int .i64 ((a1.length : Int))) ∧ E 16 = (.int .i64 ((i383 : Int))) ∧ E 30 = (.bool x717) ∧ (if x717 then (((m_model_Model_note_w l500 l504 l507 l510 l514 x517 x384)).bind fun r728 => (((m_model_Model_begin_w l500 r728.1 r728.2.1 r728.2.2 l514 x517 x384)).bind fun r744 => (m_model_Model_Add_w_L1 a0_n xs385 r744.1 r728.1 r728.2.1 r728.2.2 r744.2.1 r744.2.2))) else (m_model_Model_Add_w_L1 a0_n xs385 l500 l504 l507 l510 l514 x517)) = some r) #[true, true, true, true, true, true, true, true, true, true, true] 0 ?_ (fun key761 => ?_)
    · rintro E W ⟨x717, L718, hST, e720, e721, e722, e723, e724, e725, e726, hm719⟩
      have hS0 : Has μ499 ((b659, Obj.cells ((encCred x384).toArray : Array Value) 83 (0, 0)) :: ((b_a0, Obj.cells (#[v_a0_in_, v503, v_a0_uses, v_a0_words, v513, (.int .i64 x517)] : Array Value) 134 (0, 0)) :: [])) _ := hST.has.sub (Sub.refl _) (fun p hq => ((List.mem_cons.1 hq).elim (fun hq => by rw [hq]; exact (.head _)) (fun hq => ((List.mem_cons.1 hq).elim (fun hq => by rw [hq]; exact (.tail _ (.head _))) (fun hq => (absurd hq List.not_mem_nil))))))
      refine PX_done (by kernel_rfl) ?_
      refine sq_n ?_
      refine CW_if (b := x717) e726 (fun hb727 => ?_) (fun hb727 => ?_)
      · replace hm719 := if_t hb727 hm719
        refine CW_seq ?_
        refine CW_region ?_
        refine LV (R_move (v := (.pointer (some ⟨b_a0, 0, none⟩))) e720) ?_
        refine LV (R_load (v := (.agg (encCred x384).toArray)) e722 (load_boxA hST.has (.head _) (encCred x384) rfl Tryz.isAgg83 Tryz.sizeOf83)) ?_
        obtain ⟨r728, hr729, hm719⟩ := bind_some hm719
        replace hST : ST false (keys ((b_a0, Obj.cells (#[v_a0_in_, v_a0_creds, v_a0_uses, v_a0_words, v_a0_todo, (.int .i64 a0_n)] : Array Value) 134 (0, 0)) :: (R_a0_in_ ++ (R_a0_creds ++ (R_a0_uses ++ (R_a0_words ++ (R_a0_todo ++ []))))))) w _ _ ((b_a0, Obj.cells (#[v_a0_in_, v503, v_a0_uses, v_a0_words, v513, (.int .i64 x517)] : Array Value) 134 (0, 0)) :: (R502 ++ (R506 ++ (R509 ++ (R512 ++ (R516 ++ ((b659, Obj.cells ((encCred x384).toArray : Array Value) 83 (0, 0)) :: L718))))))) := hST.perm (permD [[(b659, Obj.cells ((encCred x384).toArray : Array Value) 83 (0, 0))], [(b_a0, Obj.cells (#[v_a0_in_, v503, v_a0_uses, v_a0_words, v513, (.int .i64 x517)] : Array Value) 134 (0, 0))], R502, R506, R509, R512, R516] [0, 1, 2, 3, 4, 5, 6] [1, 2, 3, 4, 5, 6, 0] L718 (by decide) rfl rfl)
        have hsz := hST.size
        refine LE (E_callM (args := [(.pointer (some ⟨b_a0, 0, none⟩)), (.agg (encCred x384).toArray)]) (caps := #[]) (((b_a0, Obj.cells (#[v_a0_in_, v503, v_a0_uses, v_a0_words, v513, (.int .i64 x517)] : Array Value) 134 (0, 0)) :: (R502 ++ (R506 ++ (R509 ++ (R512 ++ (R516 ++ []))))))) (((b659, Obj.cells ((encCred x384).toArray : Array Value) 83 (0, 0)) :: L718)) hST (by simp only [List.append_assoc, List.cons_append, List.nil_append]; exact List.Perm.refl _) rfl Tryz.call100 (by exact args2 rfl rfl) (fun hH hN hsb hmm => GivesM.weak (w_model_Model_note_w b_a0 v_a0_in_ l500 R502 v503 l504 R506 v_a0_uses l507 R509 v_a0_words l510 R512 v513 l514 R516 x517 x384 _ _ hH hN (Sub.refl _) hs501 hs505 hs508 hs511 hs515 hr729)) (fun W730 v733 μ731 L735 hST hle732 hlift hK734 => ?_))
        obtain ⟨y736, S737, S739, S741, hv743, rfl, hy738, hy740, hy742⟩ := hK734
        replace hv743 := hv743.symm; subst hv743
        simp only [List.append_assoc, List.cons_append, List.nil_append] at hST
        replace hST : ST false (keys ((b_a0, Obj.cells (#[v_a0_in_, v_a0_creds, v_a0_uses, v_a0_words, v_a0_todo, (.int .i64 a0_n)] : Array Value) 134 (0, 0)) :: (R_a0_in_ ++ (R_a0_creds ++ (R_a0_uses ++ (R_a0_words ++ (R_a0_todo ++ []))))))) w _ _ ((b_a0, Obj.cells (#[v_a0_in_, y736, v_a0_uses, v_a0_words, v513, (.int .i64 x517)] : Array Value) 134 (0, 0)) :: ((b659, Obj.cells ((encCred x384).toArray : Array Value) 83 (0, 0)) :: (R502 ++ (S737 ++ (S739 ++ (S741 ++ (R516 ++ L718))))))) := hST.perm (permD [[(b_a0, Obj.cells (#[v_a0_in_, y736, v_a0_uses, v_a0_words, v513, (.int .i64 x517)] : Array Value) 134 (0, 0))], R502, S737, S739, S741, R516, [(b659, Obj.cells ((encCred x384).toArray : Array Value) 83 (0, 0))]] [0, 1, 2, 3, 4, 5, 6] [0, 6, 1, 2, 3, 4, 5] L718 (by decide) rfl rfl)
        refine LW_nil ?_
        refine sq_n ?_
        refine CW_region ?_
        refine LV (R_move (v := (.pointer (some ⟨b_a0, 0, none⟩))) e720) ?_
        refine LV (R_load (v := (.agg (encCred x384).toArray)) e722 (load_boxA hST.has (.tail _ (.head _)) (encCred x384) rfl Tryz.isAgg83 Tryz.sizeOf83)) ?_
        obtain ⟨r744, hr745, hm719⟩ := bind_some hm719
        replace hST : ST false (keys ((b_a0, Obj.cells (#[v_a0_in_, v_a0_creds, v_a0_uses, v_a0_words, v_a0_todo, (.int .i64 a0_n)] : Array Value) 134 (0, 0)) :: (R_a0_in_ ++ (R_a0_creds ++ (R_a0_uses ++ (R_a0_words ++ (R_a0_todo ++ []))))))) w _ _ ((b_a0, Obj.cells (#[v_a0_in_, y736, v_a0_uses, v_a0_words, v513, (.int .i64 x517)] : Array Value) 134 (0, 0)) :: (R502 ++ (S737 ++ (S739 ++ (S741 ++ (R516 ++ ((b659, Obj.cells ((encCred x384).toArray : Array Value) 83 (0, 0)) :: L718))))))) := hST.perm (permD [[(b_a0, Obj.cells (#[v_a0_in_, y736, v_a0_uses, v_a0_words, v513, (.int .i64 x517)] : Array Value) 134 (0, 0))], [(b659, Obj.cells ((encCred x384).toArray : Array Value) 83 (0, 0))], R502, S737, S739, S741, R516] [0, 1, 2, 3, 4, 5, 6] [0, 2, 3, 4, 5, 6, 1] L718 (by decide) rfl rfl)
        have hsz := hST.size
        refine LE (E_callM (args := [(.pointer (some ⟨b_a0, 0, none⟩)), (.agg (encCred x384).toArray)]) (caps := #[]) (((b_a0, Obj.cells (#[v_a0_in_, y736, v_a0_uses, v_a0_words, v513, (.int .i64 x517)] : Array Value) 134 (0, 0)) :: (R502 ++ (S737 ++ (S739 ++ (S741 ++ (R516 ++ []))))))) (((b659, Obj.cells ((encCred x384).toArray : Array Value) 83 (0, 0)) :: L718)) hST (by simp only [List.append_assoc, List.cons_append, List.nil_append]; exact List.Perm.refl _) rfl Tryz.call101 (by exact args2 rfl rfl) (fun hH hN hsb hmm => (w_model_Model_begin_w b_a0 v_a0_in_ l500 R502 y736 r728.1 S737 v_a0_uses r728.2.1 S739 v_a0_words r728.2.2 S741 v513 l514 R516 x517 x384 _ _ hH hN (Sub.refl _) hs501 hy738 hy740 hy742 hs515 hr745)) (fun W746 v749 μ747 L751 hST hle748 hlift hK750 => ?_))
        obtain ⟨S752, y754, S755, hv757, rfl, hy753, hy756⟩ := hK750
        replace hv757 := hv757.symm; subst hv757
        simp only [List.append_assoc, List.cons_append, List.nil_append] at hST
        replace hST : ST false (keys ((b_a0, Obj.cells (#[v_a0_in_, v_a0_creds, v_a0_uses, v_a0_words, v_a0_todo, (.int .i64 a0_n)] : Array Value) 134 (0, 0)) :: (R_a0_in_ ++ (R_a0_creds ++ (R_a0_uses ++ (R_a0_words ++ (R_a0_todo ++ []))))))) w _ _ ((b_a0, Obj.cells (#[v_a0_in_, y736, v_a0_uses, v_a0_words, y754, (.int .i64 (r744.2.2))] : Array Value) 134 (0, 0)) :: ((b659, Obj.cells ((encCred x384).toArray : Array Value) 83 (0, 0)) :: (S752 ++ (S737 ++ (S739 ++ (S741 ++ (S755 ++ L718))))))) := hST.perm (permD [[(b_a0, Obj.cells (#[v_a0_in_, y736, v_a0_uses, v_a0_words, y754, (.int .i64 (r744.2.2))] : Array Value) 134 (0, 0))], S752, S737, S739, S741, S755, [(b659, Obj.cells ((encCred x384).toArray : Array Value) 83 (0, 0))]] [0, 1, 2, 3, 4, 5, 6] [0, 6, 1, 2, 3, 4, 5] L718 (by decide) rfl rfl)
        refine LW_nil ?_
        refine bq_n ?_
        refine sq_n ?_
        replace hST : ST false (keys ((b_a0, Obj.cells (#[v_a0_in_, v_a0_creds, v_a0_uses, v_a0_words, v_a0_todo, (.int .i64 a0_n)] : Array Value) 134 (0, 0)) :: (R_a0_in_ ++ (R_a0_creds ++ (R_a0_uses ++ (R_a0_words ++ (R_a0_todo ++ []))))))) w _ _ ((b_a0, Obj.cells (#[v_a0_in_, y736, v_a0_uses, v_a0_words, y754, (.int .i64 (r744.2.2))] : Array Value) 134 (0, 0)) :: (S752 ++ (S737 ++ (S739 ++ (S741 ++ (S755 ++ L718)))))) := hST.sublist (List.Sublist.cons_cons _ (List.Sublist.cons _ (List.Sublist.refl _)))
        exact ⟨e725, r744.1, S752, y736, r728.1, S737, r728.2.1, S739, r728.2.2, S741, y754, r744.2.1, S755, r744.2.2, μ747, _, ⟨rfl, e724⟩, ((hle652.trans hle732).trans hle748), (hST.sublist (List.Sublist.refl _)), e720, e721, e723, hy753, hy738, hy740, hy742, hy756, (by rw [hx388]; exact hm719)⟩
      · replace hm719 := if_f hb727 hm719
        refine CW_skip ?_
        refine bq_n ?_
        refine sq_n ?_
        replace hST : ST false (keys ((b_a0, Obj.cells (#[v_a0_in_, v_a0_creds, v_a0_uses, v_a0_words, v_a0_todo, (.int .i64 a0_n)] : Array Value) 134 (0, 0)) :: (R_a0_in_ ++ (R_a0_creds ++ (R_a0_uses ++ (R_a0_words ++ (R_a0_todo ++ []))))))) w _ _ ((b_a0, Obj.cells (#[v_a0_in_, v503, v_a0_uses, v_a0_words, v513, (.int .i64 x517)] : Array Value) 134 (0, 0)) :: (R502 ++ (R506 ++ (R509 ++ (R512 ++ (R516 ++ L718)))))) := hST.sublist (List.Sublist.cons _ (List.Sublist.refl _))
        exact ⟨e725, l500, R502, v503, l504, R506, l507, R509, l510, R512, v513, l514, R516, x517, μ499, _, ⟨rfl, e724⟩, hle652, (hST.sublist (List.Sublist.refl _)), e720, e721, e723, hs501, hs505, hs508, hs511, hs515, (by rw [hx388]; exact hm719)⟩
    · rcases bool_cases r710 with hb713 | hb713
      · replace hm759 := if_t hb713 hm759
        refine PX_v 3 rfl (by kernel_rfl) (.inr ⟨2, true, 22, rfl, rfl, by decide, (congrArg Value.bool hb713)⟩) rfl (by decide) (fun _ _ h => h) hS0 (fun _ _ _ _ => R_move (v := (.pointer (some ⟨b_a0, 0, none⟩))) e653) ?_
        refine PX_v 4 rfl (by kernel_rfl) (.inr ⟨2, true, 22, rfl, rfl, by decide, (congrArg Value.bool hb713)⟩) rfl (by decide) (fun _ _ h => h) hS0 (fun _ _ _ _ => R_nilCheck rfl) ?_
        refine PX_v 5 rfl (by kernel_rfl) (.inr ⟨2, true, 22, rfl, rfl, by decide, (congrArg Value.bool hb713)⟩) rfl (by decide) (fun _ _ h => h) hS0 (fun _ _ _ _ => R_field fa134_1 rfl) ?_
        refine PX_v 6 rfl (by kernel_rfl) (.inr ⟨2, true, 22, rfl, rfl, by decide, (congrArg Value.bool hb713)⟩) rfl (by decide) (fun _ _ h => h) hS0 (fun l W hpd hs => have hS := hs; R_load (v := v503) rfl (load_box1 hS (.tail _ (.head _)) rfl Tryz.isAgg22)) ?_
        refine PX_v 7 rfl (by kernel_rfl) (.inr ⟨2, true, 22, rfl, rfl, by decide, (congrArg Value.bool hb713)⟩) rfl (by decide) (fun _ _ h => h) hS0 (fun l W hpd hs => have hS := hs; R_load (v := (.agg (encCred x384).toArray)) rfl (load_boxA hS (.head _) (encCred x384) rfl Tryz.isAgg83 Tryz.sizeOf83)) ?_
        obtain ⟨r762, hr763, hm759⟩ := bind_some hm759
        refine PX_e 8 rfl (by kernel_rfl) (.inr ⟨2, true, 22, rfl, rfl, by decide, (congrArg Value.bool hb713)⟩) rfl (by decide) (E_gives (args := [v503, (.agg (encCred x384).toArray)]) hST rfl Tryz.call99 (by exact args2 rfl rfl) (Gives.weak (w_cred_Has v503 l504 x384 _ _ (hs505.sl lenCred (fun b o hq => hST.at_ (.tail _ (.tail _ (List.mem_append_right _ (List.mem_append_left _ hq)))))) hr763)) (fun W764 hST => ?_))
        have hS0 : Has μ499 ((b659, Obj.cells ((encCred x384).toArray : Array Value) 83 (0, 0)) :: ((b_a0, Obj.cells (#[v_a0_in_, v503, v_a0_uses, v_a0_words, v513, (.int .i64 x517)] : Array Value) 134 (0, 0)) :: [])) _ := hST.has.sub (Sub.refl _) (fun p hq => ((List.mem_cons.1 hq).elim (fun hq => by rw [hq]; exact (.head _)) (fun hq => ((List.mem_cons.1 hq).elim (fun hq => by rw [hq]; exact (.tail _ (.head _))) (fun hq => (absurd hq List.not_mem_nil))))))
        refine ⟨hS0, ?_⟩
        refine PX_v 9 rfl (by kernel_rfl) (.inr ⟨2, true, 22, rfl, rfl, by decide, (congrArg Value.bool hb713)⟩) rfl (by decide) (fun _ _ h => h) hS0 (fun _ _ _ _ => R_not (b := r762) rfl) ?_
        refine PV 10 rfl hS0 (R_pickT (v := (.bool ((!r762)))) (congrArg Value.bool hb713) rfl) ?_
        replace hm759 := Option.some.inj hm759; subst hm759
        refine PX_at (by kernel_rfl) (key761 _ _ ⟨((!r762)), _, (hST.sublist (List.Sublist.refl _)), e653, e654, rfl, e655, eN, eI, rfl, hm760⟩)
      · replace hm759 := if_f hb713 hm759
        refine PX_no 3 rfl (by kernel_rfl) rfl rfl (by decide) (congrArg Value.bool hb713) rfl (by decide) (fun _ _ h => h) hS0 ?_
        refine PX_no 4 rfl (by kernel_rfl) rfl rfl (by decide) (congrArg Value.bool hb713) rfl (by decide) (fun _ _ h => h) hS0 ?_
        refine PX_no 5 rfl (by kernel_rfl) rfl rfl (by decide) (congrArg Value.bool hb713) rfl (by decide) (fun _ _ h => h) hS0 ?_
        refine PX_no 6 rfl (by kernel_rfl) rfl rfl (by decide) (congrArg Value.bool hb713) rfl (by decide) (fun _ _ h => h) hS0 ?_
        refine PX_no 7 rfl (by kernel_rfl) rfl rfl (by decide) (congrArg Value.bool hb713) rfl (by decide) (fun _ _ h => h) hS0 ?_
        refine PX_no 8 rfl (by kernel_rfl) rfl rfl (by decide) (congrArg Value.bool hb713) rfl (by decide) (fun _ _ h => h) hS0 ?_
        refine PX_no 9 rfl (by kernel_rfl) rfl rfl (by decide) (congrArg Value.bool hb713) rfl (by decide) (fun _ _ h => h) hS0 ?_
        refine PV 10 rfl hS0 (R_pickF (v := (.bool false)) (congrArg Value.bool hb713) rfl) ?_
        replace hm759 := Option.some.inj hm759; subst hm759
        refine PX_at (by kernel_rfl) (key761 _ _ ⟨false, _, (hST.sublist (List.Sublist.refl _)), e653, e654, rfl, e655, eN, eI, rfl, hm760⟩)
  · rintro E W ⟨l500, R502, v503, l504, R506, l507, R509, l510, R512, v513, l514, R516, x517, μ499, L650, ⟨eI, eN⟩, hle652, hST, e653, e654, e655, hs501, hs505, hs508, hs511, hs515, hm651⟩
    rw [List.drop_length] at hm651
    rw [m_model_Model_Add_w_L1] at hm651
    refine sq_n ?_
    refine CW_seq ?_
    refine CW_region ?_
    refine LV (R_move (v := (.pointer (some ⟨b_a0, 0, none⟩))) e653) ?_
    obtain ⟨r765, hr766, hm651⟩ := bind_some hm651
    replace hST : ST false (keys ((b_a0, Obj.cells (#[v_a0_in_, v_a0_creds, v_a0_uses, v_a0_words, v_a0_todo, (.int .i64 a0_n)] : Array Value) 134 (0, 0)) :: (R_a0_in_ ++ (R_a0_creds ++ (R_a0_uses ++ (R_a0_words ++ (R_a0_todo ++ []))))))) w _ _ ((b_a0, Obj.cells (#[v_a0_in_, v503, v_a0_uses, v_a0_words, v513, (.int .i64 x517)] : Array Value) 134 (0, 0)) :: (R502 ++ (R506 ++ (R509 ++ (R512 ++ (R516 ++ L650)))))) := hST.perm (List.Perm.refl _)
    have hsz := hST.size
    refine LE (E_callM (args := [(.pointer (some ⟨b_a0, 0, none⟩))]) (caps := #[]) (((b_a0, Obj.cells (#[v_a0_in_, v503, v_a0_uses, v_a0_words, v513, (.int .i64 x517)] : Array Value) 134 (0, 0)) :: (R502 ++ (R506 ++ (R509 ++ (R512 ++ (R516 ++ []))))))) L650 hST (by simp only [List.append_assoc, List.cons_append, List.nil_append]; exact List.Perm.refl _) rfl Tryz.call102 (by exact args1 rfl) (fun hH hN hsb hmm => (w_model_Model_settle_w b_a0 v_a0_in_ l500 R502 v503 l504 R506 v_a0_uses l507 R509 v_a0_words l510 R512 v513 l514 R516 x517 _ _ hH hN (Sub.refl _) hs501 hs505 hs508 hs511 hs515 hr766)) (fun W767 v770 μ768 L772 hST hle769 hlift hK771 => ?_))
    obtain ⟨S773, y775, S776, hv778, rfl, hy774, hy777⟩ := hK771
    replace hv778 := hv778.symm; subst hv778
    simp only [List.append_assoc, List.cons_append, List.nil_append] at hST
    refine LW_nil ?_
    refine sq_n ?_
    refine CW_seq ?_
    refine CW_region ?_
    refine LV (R_move (v := (.pointer (some ⟨b_a0, 0, none⟩))) e653) ?_
    refine LV (R_nilCheck rfl) ?_
    refine LV (R_field fa134_5 rfl) ?_
    refine LV (R_load (v := (.int .i64 r765.2.2)) rfl (load_box1 hST.has (.head _) rfl Tryz.isAgg3)) ?_
    refine LV (R_move (v := (.int .i64 a0_n)) e654) ?_
    refine LV (R_int (k := .i64) (a := r765.2.2) (b := a0_n) (v := (.int .i64 ((IntKind.i64.wrap (r765.2.2 - a0_n))))) rfl rfl rfl) ?_
    refine LV (R_assign (v := (.int .i64 ((IntKind.i64.wrap (r765.2.2 - a0_n))))) rfl) ?_
    refine LW_nil ?_
    refine sq_n ?_
    refine CW_ret ?_
    replace hm651 := Option.some.inj hm651; subst hm651
    refine retQ_1 (v := (.int .i64 ((IntKind.i64.wrap (r765.2.2 - a0_n))))) rfl rfl ?_
    replace hST : ST false (keys ((b_a0, Obj.cells (#[v_a0_in_, v_a0_creds, v_a0_uses, v_a0_words, v_a0_todo, (.int .i64 a0_n)] : Array Value) 134 (0, 0)) :: (R_a0_in_ ++ (R_a0_creds ++ (R_a0_uses ++ (R_a0_words ++ (R_a0_todo ++ []))))))) w _ _ ((b_a0, Obj.cells (#[v_a0_in_, v503, v_a0_uses, v_a0_words, y775, (.int .i64 (r765.2.2))] : Array Value) 134 (0, 0)) :: (S773 ++ (R506 ++ (R509 ++ (R512 ++ (S776 ++ L650)))))) := hST
    exact ⟨_, ((b_a0, Obj.cells (#[v_a0_in_, v503, v_a0_uses, v_a0_words, y775, (.int .i64 (r765.2.2))] : Array Value) 134 (0, 0)) :: (S773 ++ (R506 ++ (R509 ++ (R512 ++ (S776 ++ [])))))), rfl, (ST.backM (L1 := ((b_a0, Obj.cells (#[v_a0_in_, v503, v_a0_uses, v_a0_words, y775, (.int .i64 (r765.2.2))] : Array Value) 134 (0, 0)) :: (S773 ++ (R506 ++ (R509 ++ (R512 ++ (S776 ++ []))))))) (by have hh : ST false (keys ((b_a0, Obj.cells (#[v_a0_in_, v_a0_creds, v_a0_uses, v_a0_words, v_a0_todo, (.int .i64 a0_n)] : Array Value) 134 (0, 0)) :: (R_a0_in_ ++ (R_a0_creds ++ (R_a0_uses ++ (R_a0_words ++ (R_a0_todo ++ []))))))) w _ _ ((b_a0, Obj.cells (#[v_a0_in_, v503, v_a0_uses, v_a0_words, y775, (.int .i64 (r765.2.2))] : Array Value) 134 (0, 0)) :: (S773 ++ (R506 ++ (R509 ++ (R512 ++ (S776 ++ L650)))))) := hST.perm (List.Perm.refl _); simpa only [List.append_assoc, List.cons_append, List.nil_append] using hh)), S773, v503, R506, R509, R512, y775, S776, rfl, rfl, hy774, hs505, hs508, hs511, hy777⟩
theorem w_model_Of (v_a0 : Value) (a0 : List Cred) (r : ((List (Role × (List (ByteArray × Bool)))) × (List Cred) × (List (Role × (List Cred))) × (List (ByteArray × (List Cred))) × (List Fact) × Int)) (w : World) (h_a0 : Sl (Pl encCred) 9 (hp w) v_a0 a0) (hm : m_model_Of a0 = some r) :
    GivesM false Tryz.prog 31 [v_a0] w [] (fun v L1 W' => ∃ (b1 : Nat) (y2 : Value) (S3 : List (Nat × Obj)) (y5 : Value) (S6 : List (Nat × Obj)) (y8 : Value) (S9 : List (Nat × Obj)) (y11 : Value) (S12 : List (Nat × Obj)) (y14 : Value) (S15 : List (Nat × Obj)), v = (.pointer (some ⟨b1, 0, none⟩)) ∧ L1 = ((b1, Obj.cells (#[y2, y5, y8, y11, y14, (.int .i64 (r.2.2.2.2.2))] : Array Value) 134 (0, 0)) :: (S3 ++ (S6 ++ (S9 ++ (S12 ++ (S15 ++ [])))))) ∧ DeepE (fun (x : Role) => (.agg (encRole x).toArray)) (MapRow Value.string (fun (x : Bool) => (Value.bool x))) y2 r.1 S3 ∧ Row 83 encCred 9 y5 r.2.1 S6 ∧ DeepE (fun (x : Role) => (.agg (encRole x).toArray)) (Row 83 encCred 9) y8 r.2.2.1 S9 ∧ DeepE Value.string (Row 83 encCred 9) y11 r.2.2.2.1 S12 ∧ Que 78 encFact 3 y14 r.2.2.2.2.1 S15) := by
  have hST := ST.start (dd := false) w
  unfold m_model_Of at hm
  refine calls_of_CW (n := 13) Tryz.func31 rfl rfl (Nat.le_of_ble_eq_true rfl) ?_
  refine CW_seq ?_
  refine CW_region ?_
  refine LV (R_assign (v := (.pointer none)) rfl) ?_
  refine LW_nil ?_
  refine sq_n ?_
  refine CW_seq ?_
  refine CW_region ?_
  refine LE (E_makeMapD (P := Tryz.prog) (fun (x : Role) => (.agg (encRole x).toArray)) (MapRow Value.string (fun (x : Bool) => (Value.bool x))) hST (fun W1 v4 R2 hST hR3 => ?_))
  refine LE (E_makeMapD (P := Tryz.prog) (fun (x : Role) => (.agg (encRole x).toArray)) (Row 83 encCred 9) hST (fun W5 v8 R6 hST hR7 => ?_))
  refine LE (E_makeMapD (P := Tryz.prog) Value.string (Row 83 encCred 9) hST (fun W9 v12 R10 hST hR11 => ?_))
  obtain ⟨m13, rfl⟩ := hR3.form
  obtain ⟨m14, rfl⟩ := hR7.form
  obtain ⟨m15, rfl⟩ := hR11.form
  refine LV (R_build (qs := #[(0, (.map (some m13))), (2, (.map (some m14))), (3, (.map (some m15)))]) (v := (.agg #[(.map (some m13)), (.slice none 0 0), (.map (some m14)), (.map (some m15)), (.slice none 0 0), (.int .i64 0)])) (parts3 rfl rfl rfl) (run_build Tryz.zeroValue134 Tryz.underlying134 (pl134 _ Tryz.underlying134) (by kernel_rfl))) ?_
  refine LE (E_box (v := (.agg #[(.map (some m13)), (.slice none 0 0), (.map (some m14)), (.map (some m15)), (.slice none 0 0), (.int .i64 0)])) hST rfl (fun W17 b16 hST => ?_))
  refine LV (R_assign (v := (.pointer (some ⟨b16, 0, none⟩))) rfl) ?_
  refine LW_nil ?_
  refine sq_n ?_
  refine CW_seq ?_
  refine CW_region ?_
  refine LV (R_move (v := (.pointer (some ⟨b16, 0, none⟩))) rfl) ?_
  refine LV (R_move (v := v_a0) rfl) ?_
  replace hST : ST false NoF w _ _ ((b16, Obj.cells (#[(.map (some m13)), (.slice none 0 0), (.map (some m14)), (.map (some m15)), (.slice none 0 0), (.int .i64 0)] : Array Value) 134 (0, 0)) :: (R10 ++ (R6 ++ (R2 ++ [])))) := hST
  obtain ⟨r18, hr19, hm⟩ := bind_some hm
  replace hST : ST false NoF w _ _ ((b16, Obj.cells (#[(.map (some m13)), (.slice none 0 0), (.map (some m14)), (.map (some m15)), (.slice none 0 0), (.int .i64 0)] : Array Value) 134 (0, 0)) :: (R2 ++ (R6 ++ (R10 ++ [])))) := hST.perm (permD [[(b16, Obj.cells (#[(.map (some m13)), (.slice none 0 0), (.map (some m14)), (.map (some m15)), (.slice none 0 0), (.int .i64 0)] : Array Value) 134 (0, 0))], R10, R6, R2] [0, 1, 2, 3] [0, 3, 2, 1] ([]) (by decide) rfl rfl)
  have hsz := hST.size
  refine LE (E_callM (args := [(.pointer (some ⟨b16, 0, none⟩)), v_a0]) (caps := #[]) (((b16, Obj.cells (#[(.map (some m13)), (.slice none 0 0), (.map (some m14)), (.map (some m15)), (.slice none 0 0), (.int .i64 0)] : Array Value) 134 (0, 0)) :: (R2 ++ ([] ++ (R6 ++ (R10 ++ ([] ++ []))))))) ([]) hST (by simp only [List.append_assoc, List.cons_append, List.nil_append]; exact List.Perm.refl _) rfl Tryz.call41 (by exact args2 rfl rfl) (fun hH hN hsb hmm => (w_model_Model_Add_w b16 (.map (some m13)) ([]) R2 (.slice none 0 0) ([]) [] (.map (some m14)) ([]) R6 (.map (some m15)) ([]) R10 (.slice none 0 0) ([]) [] 0 v_a0 a0 _ _ hH hN (Sub.refl _) hR3 (Row.nil _ _ _) hR7 hR11 (Que.nil _ _ _) (h_a0.mono (Pl.mono _) hsb) hr19)) (fun W20 v23 μ21 L25 hST hle22 hlift hK24 => ?_))
  obtain ⟨S26, y28, S29, S31, S33, y35, S36, hv38, rfl, hy27, hy30, hy32, hy34, hy37⟩ := hK24
  replace hv38 := hv38.symm; subst hv38
  simp only [List.append_assoc, List.cons_append, List.nil_append] at hST
  refine LW_nil ?_
  refine sq_n ?_
  refine CW_seq ?_
  refine CW_region ?_
  refine LV (R_move (v := (.pointer (some ⟨b16, 0, none⟩))) rfl) ?_
  refine LV (R_assign (v := (.pointer (some ⟨b16, 0, none⟩))) rfl) ?_
  refine LW_nil ?_
  refine sq_n ?_
  refine CW_ret ?_
  replace hm := Option.some.inj hm; subst hm
  refine retQ_1 (v := (.pointer (some ⟨b16, 0, none⟩))) rfl rfl ?_
  replace hST : ST false NoF w _ _ ((b16, Obj.cells (#[(.map (some m13)), y28, (.map (some m14)), (.map (some m15)), y35, (.int .i64 (r18.2.2.2.2.2.2))] : Array Value) 134 (0, 0)) :: (S26 ++ (S29 ++ (S31 ++ (S33 ++ (S36 ++ [])))))) := hST
  exact ⟨_, ((b16, Obj.cells (#[(.map (some m13)), y28, (.map (some m14)), (.map (some m15)), y35, (.int .i64 (r18.2.2.2.2.2.2))] : Array Value) 134 (0, 0)) :: (S26 ++ (S29 ++ (S31 ++ (S33 ++ (S36 ++ [])))))), rfl, (ST.backL (L1 := ((b16, Obj.cells (#[(.map (some m13)), y28, (.map (some m14)), (.map (some m15)), y35, (.int .i64 (r18.2.2.2.2.2.2))] : Array Value) 134 (0, 0)) :: (S26 ++ (S29 ++ (S31 ++ (S33 ++ (S36 ++ []))))))) (by have hh : ST false NoF w _ _ ((b16, Obj.cells (#[(.map (some m13)), y28, (.map (some m14)), (.map (some m15)), y35, (.int .i64 (r18.2.2.2.2.2.2))] : Array Value) 134 (0, 0)) :: (S26 ++ (S29 ++ (S31 ++ (S33 ++ (S36 ++ [])))))) := hST.perm (List.Perm.refl _); simpa only [List.append_assoc, List.cons_append, List.nil_append] using hh)), b16, (.map (some m13)), S26, y28, S29, (.map (some m14)), S31, (.map (some m15)), S33, y35, S36, rfl, rfl, hy27, hy30, hy32, hy34, hy37⟩
theorem w_sortF91 (v_a0 : Value) (a0 : List Fact) (R_a0 : List (Nat × Obj)) (v_a1 : Value) (f1 : ((Fact × Fact)) → Option Int) (r : List Fact) (w : World) {μ0 : Mem} (hH : Held (R_a0 ++ []) w) (hN : (((R_a0 ++ []) : List (Nat × Obj)).map (·.1)).Nodup) (hS0 : Sub μ0 (hpx w (R_a0 ++ []))) (h_a0 : Row 78 encFact 3 v_a0 a0 R_a0) (h_a1 : CbO Tryz.prog v_a1 μ0 (fun (x : (Fact × Fact)) => [(.agg (encFact x.1).toArray), (.agg (encFact x.2).toArray)]) (fun (r : Int) => (.int .i64 r)) f1) (hm : sortF f1 a0 = some r) :
    GivesM true Tryz.prog 91 [v_a0, v_a1] w (R_a0 ++ []) (fun v L1 W' => ∃ (S : List (Nat × Obj)), v = (.tuple #[]) ∧ L1 = (S ++ []) ∧ Row 78 encFact 3 v_a0 r S) := sortF_gives (P := Tryz.prog) (ρ := ren91) lay91 3 Tryz.isAgg78 Tryz.sizeOf78 encFact lenFact oneFact hH hS0 h_a0 h_a1 hm
theorem w_model_Model_Facts_c1 (a0 : Fact) (a1 : Fact) (r : Int) (w : World)  (hm : m_model_Model_Facts_c1 a0 a1 = some r) :
    Gives true Tryz.prog 92 [(.agg (encFact a0).toArray), (.agg (encFact a1).toArray)] w (.int .i64 r) := by
  have hST := ST.start (dd := true) w
  unfold m_model_Model_Facts_c1 at hm
  refine calls_of_CW (n := 17) Tryz.func92 rfl rfl (Nat.le_of_ble_eq_true rfl) ?_
  refine CW_seq ?_
  refine CW_region ?_
  refine LE (E_box (v := (.agg (encFact a0).toArray)) hST rfl (fun W2 b1 hST => ?_))
  refine LE (E_box (v := (.agg (encFact a1).toArray)) hST rfl (fun W4 b3 hST => ?_))
  refine LV (R_assign (v := (.int .i64 0)) rfl) ?_
  refine LW_nil ?_
  refine sq_n ?_
  refine CW_seq ?_
  refine PX_start (fun l W => Has (hp w) ((b3, Obj.cells ((encFact a1).toArray : Array Value) 78 (0, 0)) :: ((b1, Obj.cells ((encFact a0).toArray : Array Value) 78 (0, 0)) :: [])) W) Tryz_mixed ?_
  replace hST := hST.drew
  have hS0 : Has (hp w) ((b3, Obj.cells ((encFact a1).toArray : Array Value) 78 (0, 0)) :: ((b1, Obj.cells ((encFact a0).toArray : Array Value) 78 (0, 0)) :: [])) _ := hST.has.sub (Sub.refl _) (fun p hq => ((List.mem_cons.1 hq).elim (fun hq => by rw [hq]; exact (.head _)) (fun hq => ((List.mem_cons.1 hq).elim (fun hq => by rw [hq]; exact (.tail _ (.head _))) (fun hq => (absurd hq List.not_mem_nil))))))
  refine PV 0 rfl hS0 (R_field fa78_0 rfl) ?_
  refine PX_v 1 rfl (by kernel_rfl) (.inl rfl) rfl (by decide) (fun _ _ h => h) hS0 (fun l W hpd hs => have hS := hs; R_load (v := (.agg (encRole a0.Role).toArray)) rfl (load_boxA hS (.tail _ (.head _)) (encRole a0.Role) rfl Tryz.isAgg47 Tryz.sizeOf47)) ?_
  refine PV 2 rfl hS0 (R_field fa78_0 rfl) ?_
  refine PX_v 3 rfl (by kernel_rfl) (.inl rfl) rfl (by decide) (fun _ _ h => h) hS0 (fun l W hpd hs => have hS := hs; R_load (v := (.agg (encRole a1.Role).toArray)) rfl (load_boxA hS (.head _) (encRole a1.Role) rfl Tryz.isAgg47 Tryz.sizeOf47)) ?_
  refine PV 5 rfl hS0 (R_field fa78_1 rfl) ?_
  refine PX_v 6 rfl (by kernel_rfl) (.inl rfl) rfl (by decide) (fun _ _ h => h) hS0 (fun l W hpd hs => have hS := hs; R_load (v := (.string a0.Who)) rfl (load_box1 hS (.tail _ (.head _)) rfl Tryz.isAgg9)) ?_
  refine PV 7 rfl hS0 (R_field fa78_1 rfl) ?_
  refine PX_v 8 rfl (by kernel_rfl) (.inl rfl) rfl (by decide) (fun _ _ h => h) hS0 (fun l W hpd hs => have hS := hs; R_load (v := (.string a1.Who)) rfl (load_box1 hS (.head _) rfl Tryz.isAgg9)) ?_
  obtain ⟨r27, hr28, hm⟩ := bind_some hm
  refine PX_e 4 rfl (by kernel_rfl) (.inl rfl) rfl (by decide) (E_gives (args := [(.agg (encRole a0.Role).toArray), (.agg (encRole a1.Role).toArray)]) hST rfl Tryz.call94 (by exact args2 rfl rfl) ((w_role_Compare a0.Role a1.Role _ _  hr28)) (fun W29 hST => ?_))
  have hS0 : Has (hp w) ((b3, Obj.cells ((encFact a1).toArray : Array Value) 78 (0, 0)) :: ((b1, Obj.cells ((encFact a0).toArray : Array Value) 78 (0, 0)) :: [])) _ := hST.has.sub (Sub.refl _) (fun p hq => ((List.mem_cons.1 hq).elim (fun hq => by rw [hq]; exact (.head _)) (fun hq => ((List.mem_cons.1 hq).elim (fun hq => by rw [hq]; exact (.tail _ (.head _))) (fun hq => (absurd hq List.not_mem_nil))))))
  refine ⟨hS0, ?_⟩
  obtain ⟨r30, hr31, hm⟩ := bind_some hm
  refine PX_e 9 rfl (by kernel_rfl) (.inl rfl) rfl (by decide) (E_gives (args := [(.string a0.Who), (.string a1.Who)]) hST rfl Tryz.call95 (by exact args2 rfl rfl) ((w_strings_Compare a0.Who a1.Who _ _  hr31)) (fun W32 hST => ?_))
  have hS0 : Has (hp w) ((b3, Obj.cells ((encFact a1).toArray : Array Value) 78 (0, 0)) :: ((b1, Obj.cells ((encFact a0).toArray : Array Value) 78 (0, 0)) :: [])) _ := hST.has.sub (Sub.refl _) (fun p hq => ((List.mem_cons.1 hq).elim (fun hq => by rw [hq]; exact (.head _)) (fun hq => ((List.mem_cons.1 hq).elim (fun hq => by rw [hq]; exact (.tail _ (.head _))) (fun hq => (absurd hq List.not_mem_nil))))))
  refine ⟨hS0, ?_⟩
  refine PX_e 10 rfl (by kernel_rfl) (.inl rfl) rfl (by decide) (E_buildSlice (qs := #[(0, (.int .i64 r27)), (1, (.int .i64 r30))]) (cs := #[(.int .i64 r27), (.int .i64 r30)]) hST (parts2 rfl rfl) (run_lit [(.int .i64 r27), (.int .i64 r30)] Tryz.underlying173 Tryz.sizeOf3 Tryz.zeroValue3 (by decide) rfl (by intro v hv; simp only [List.mem_cons, List.not_mem_nil, or_false] at hv; rcases hv with rfl | rfl <;> rfl) rfl rfl) (fun W34 b33 hST => ?_))
  have hS0 : Has (hp w) ((b3, Obj.cells ((encFact a1).toArray : Array Value) 78 (0, 0)) :: ((b1, Obj.cells ((encFact a0).toArray : Array Value) 78 (0, 0)) :: [])) _ := hST.has.sub (Sub.refl _) (fun p hq => ((List.mem_cons.1 hq).elim (fun hq => by rw [hq]; exact (.tail _ (.head _))) (fun hq => ((List.mem_cons.1 hq).elim (fun hq => by rw [hq]; exact (.tail _ (.tail _ (.head _)))) (fun hq => (absurd hq List.not_mem_nil))))))
  refine ⟨hS0, ?_⟩
  obtain ⟨r35, hr36, hm⟩ := bind_some hm
  refine PX_e 11 rfl (by kernel_rfl) (.inl rfl) rfl (by decide) (E_gives (args := [(.slice (some ⟨b33, 0, none⟩) 2 2)]) hST rfl Tryz.call93 (by exact args1 rfl) ((w_cmp_Or_int (.slice (some ⟨b33, 0, none⟩) 2 2) ([r27, r30]) _ _ (Sl.lit (enc := (encIk .i64)) (l := [r27, r30]) (fun _ => rfl) rfl (Nat.le_of_ble_eq_true rfl) rfl (hST.at_ (.head _))) hr36)) (fun W37 hST => ?_))
  have hS0 : Has (hp w) ((b3, Obj.cells ((encFact a1).toArray : Array Value) 78 (0, 0)) :: ((b1, Obj.cells ((encFact a0).toArray : Array Value) 78 (0, 0)) :: [])) _ := hST.has.sub (Sub.refl _) (fun p hq => ((List.mem_cons.1 hq).elim (fun hq => by rw [hq]; exact (.tail _ (.head _))) (fun hq => ((List.mem_cons.1 hq).elim (fun hq => by rw [hq]; exact (.tail _ (.tail _ (.head _)))) (fun hq => (absurd hq List.not_mem_nil))))))
  refine ⟨hS0, ?_⟩
  refine PV 12 rfl hS0 (R_assign (v := (.int .i64 r35)) rfl) ?_
  refine PX_done (by kernel_rfl) ?_
  refine sq_n ?_
  replace hST : ST true NoF w _ _ [] := hST.sublist (List.Sublist.cons _ (List.Sublist.cons _ (List.Sublist.cons _ (List.Sublist.refl _))))
  refine CW_ret ?_
  replace hm := Option.some.inj hm; subst hm
  refine retQ_1 (v := (.int .i64 r35)) rfl rfl ?_
  exact ⟨rfl, hST.ex⟩
theorem w_model_Model_Facts (b_a0 : Nat) (v_a0_in_ : Value) (a0_in_ : List (Role × (List (ByteArray × Bool)))) (v_a0_creds : Value) (a0_creds : List Cred) (v_a0_uses : Value) (a0_uses : List (Role × (List Cred))) (v_a0_words : Value) (a0_words : List (ByteArray × (List Cred))) (v_a0_todo : Value) (a0_todo : List Fact) (a0_n : Int) (r : List Fact) (w : World) (h_a0_in_ : DeepAt (fun (x : Role) => (.agg (encRole x).toArray)) (MapRow Value.string (fun (x : Bool) => (Value.bool x))) (hp w) v_a0_in_ a0_in_) (h_a0_creds : Sl (Pl encCred) 9 (hp w) v_a0_creds a0_creds) (h_a0_uses : DeepAt (fun (x : Role) => (.agg (encRole x).toArray)) (Row 83 encCred 9) (hp w) v_a0_uses a0_uses) (h_a0_words : DeepAt Value.string (Row 83 encCred 9) (hp w) v_a0_words a0_words) (h_a0_todo : Sl (Pl encFact) 3 (hp w) v_a0_todo a0_todo) (hA_a0 : At (hp w) (.pointer (some ⟨b_a0, 0, none⟩)) [v_a0_in_, v_a0_creds, v_a0_uses, v_a0_words, v_a0_todo, (.int .i64 a0_n)]) (hm : m_model_Model_Facts a0_in_ a0_creds a0_uses a0_words a0_todo a0_n = some r) :
    GivesRow true Tryz.prog 34 [(.pointer (some ⟨b_a0, 0, none⟩))] w 78 encFact 3 r := by
  have hST := ST.start (dd := true) w
  unfold m_model_Model_Facts at hm
  refine calls_of_CW (n := 34) Tryz.func34 rfl rfl (Nat.le_of_ble_eq_true rfl) ?_
  refine CW_seq ?_
  refine CW_region ?_
  refine LV (R_assign (v := (.slice none 0 0)) rfl) ?_
  refine LW_nil ?_
  refine sq_n ?_
  refine CW_seq ?_
  refine CW_seq ?_
  refine CW_region ?_
  refine LV (R_move (v := (.pointer (some ⟨b_a0, 0, none⟩))) rfl) ?_
  refine LV (R_ptrEqNil Tryz.underlying51 rfl rfl) ?_
  refine LW_nil ?_
  refine sq_n ?_
  refine CW_if_false rfl ?_
  refine CW_skip ?_
  refine sq_n ?_
  refine CW_seq ?_
  refine CW_region ?_
  refine LV (R_assign (v := (.slice none 0 0)) rfl) ?_
  refine LW_nil ?_
  refine sq_n ?_
  refine CW_seq ?_
  refine CW_cut (fun E W => ∃ (v_f : Value) (l_f : List Fact) (R_f L_f : List (Nat × Obj)), ST true NoF w W (hp w) (R_f ++ L_f) ∧ E 3 = v_f ∧ Row 78 encFact 3 v_f l_f R_f ∧ (((sortF (fun (x : (Fact × Fact)) => m_model_Model_Facts_c1 x.1 x.2) l_f)).bind fun r4 => some r4) = some r) ?_ ?_
  · refine CW_seq ?_
    refine CW_region ?_
    refine LV (R_move (v := (.pointer (some ⟨b_a0, 0, none⟩))) rfl) ?_
    refine LV (R_nilCheck rfl) ?_
    refine LQ (R_fieldAt [v_a0_in_] fa134_0 rfl hA_a0 rfl) (fun p1 hp2 => ?_)
    refine LV (R_load rfl (load_at1 hST.has (y := v_a0_in_) hp2 Tryz.isAgg130)) ?_
    obtain ⟨ll, hll, hmat, hall⟩ := DeepAt.zip h_a0_in_
    refine LE (E_rangeM (M := (hp w)) Tryz.underlying130 hST rfl hmat (fun b o hb => hST.mem b o hb) (fun W v5 R6 hST hI => ?_))
    refine LW_nil (sq_n ?_)
    obtain ⟨fs, hfs, hm⟩ := bind_some hm
    obtain ⟨hf1, hf2, hf3⟩ := pairsB_some hfs
    replace hm := allOrders_spec hm
    have hP0 : (([] : List Fact) ++ ll.flatMap (fun (p : Role × (Value × List (ByteArray × Bool))) => p.2.2.map (fun (q : ByteArray × Bool) => (⟨p.1, q.1⟩ : Fact)))).Perm fs := by rw [← hf3, ← hll, List.nil_append, List.flatMap_map]
    refine CW_block (CW_loop (fun m E W => ∃ (v : Value) (l : List Fact) (R L : List (Nat × Obj)) (lf : List (Role × (Value × List (ByteArray × Bool)))) (Ri : List (Nat × Obj)), m = lf.length ∧ ST true NoF w W (hp w) (R ++ (Ri ++ L)) ∧ E 3 = v ∧ E 13 = v5 ∧ Iter (fun (x : Role) => (.agg (encRole x).toArray)) (fun x => x.1) (hp w) v5 lf Ri ∧ Row 78 encFact 3 v l R ∧ (∀ p ∈ lf, MapAt Value.string (fun (x : Bool) => (Value.bool x)) (hp w) p.2.1 p.2.2) ∧ (l ++ lf.flatMap (fun (p : Role × (Value × List (ByteArray × Bool))) => p.2.2.map (fun (q : ByteArray × Bool) => (⟨p.1, q.1⟩ : Fact)))).Perm fs) _ ⟨.slice none 0 0, [], [], [], ll, R6, rfl, hST.perm (by simp), rfl, rfl, hI, Row.nil _ _ _, hall, hP0⟩ ?_)
    rintro m E W ⟨v, l, R, L, lf, Ri, rfl, hST, e3, eit, hI, hR, hall, hP⟩
    refine CW_seq (CW_region (LW_e (.inl rfl) rfl (by decide) (E_nextM R hST (fun b o hb => hST.mem b o hb) hI eit (fun hend => ?_) (fun W R1 p lf1 hp1 hST hA => ?_))))
    · subst hend
      refine LV (R_extract (v := .bool false) rfl rfl) (LW_nil (sq_n (CW_seq ?_)))
      refine CW_if_false rfl (CW_exit (sq_e (sq_e (bq_e ?_))))
      exact sq_n ⟨v, l, R, Ri ++ L, hST, e3, hR, hm l (by simpa using hP)⟩
    · refine LV (R_extract (v := .bool true) rfl rfl) (LW_nil (sq_n (CW_seq ?_)))
      refine CW_if_true rfl (CW_skip (sq_n (CW_block ?_)))
      refine CW_seq (CW_region ?_)
      refine LV (R_entryM (fun q hq => (hST.box q.1 q.2 (List.mem_append_right _ (List.mem_append_left _ hq))).1) (fun b o hb => hST.mem b o hb) hA eit) ?_
      refine LV (R_extract (v := (.agg (encRole p.1).toArray)) rfl rfl) ?_
      refine LV (R_extract (v := p.2.1) rfl rfl) ?_
      refine LE (E_alloc hST Tryz.zeroValue47 (fun W b4 hST => ?_))
      refine LW_e0 (.inl rfl) rfl (E_store [] (.agg (encRole p.1).toArray) ((encRole p.1).toArray) hST rfl rfl Tryz.sizeOf47 (oneRole p.1) (Nat.le_of_ble_eq_true rfl) rfl (fun W hST => ?_))
      refine LV (R_assign (v := p.2.1) rfl) ?_
      refine LW_nil (sq_n (CW_seq (CW_region ?_)))
      refine LV (R_move (v := p.2.1) rfl) ?_
      refine LE (E_rangeM (M := (hp w)) Tryz.underlying119 hST rfl (hall p (hp1.mem_iff.2 (.head _))) (fun b o hb => hST.mem b o hb) (fun W v20 R20 hST hI2 => ?_))
      refine LW_nil (sq_n ?_)
      have hall1 : ∀ p ∈ lf1, MapAt Value.string (fun (x : Bool) => (Value.bool x)) (hp w) p.2.1 p.2.2 := fun p hp => hall p (hp1.mem_iff.2 (.tail _ hp))
      have hP1 : (l ++ (p.2.2.map (fun q => (⟨p.1, q.1⟩ : Fact)) ++ lf1.flatMap (fun (p : Role × (Value × List (ByteArray × Bool))) => p.2.2.map (fun (q : ByteArray × Bool) => (⟨p.1, q.1⟩ : Fact))))).Perm fs := (List.Perm.append_left l (List.Perm.flatMap_right (fun (p : Role × (Value × List (ByteArray × Bool))) => p.2.2.map (fun (q : ByteArray × Bool) => (⟨p.1, q.1⟩ : Fact))) hp1)).symm.trans hP
      refine CW_block (CW_loop (fun m E W => ∃ (v : Value) (l : List Fact) (R L : List (Nat × Obj)) (lg : List (ByteArray × Bool)) (Rj : List (Nat × Obj)), m = lg.length ∧ ST true NoF w W (hp w) ((b4, Obj.cells (encRole p.1).toArray 47 (0, 0)) :: (R ++ (Rj ++ (R1 ++ L)))) ∧ E 3 = v ∧ E 13 = v5 ∧ E 4 = .pointer (some ⟨b4, 0, none⟩) ∧ E 20 = v20 ∧ Iter Value.string (fun (x : Bool) => (Value.bool x)) (hp w) v20 lg Rj ∧ Row 78 encFact 3 v l R ∧ (l ++ (lg.map (fun q => (⟨p.1, q.1⟩ : Fact)) ++ lf1.flatMap (fun (p : Role × (Value × List (ByteArray × Bool))) => p.2.2.map (fun (q : ByteArray × Bool) => (⟨p.1, q.1⟩ : Fact))))).Perm fs) _ ⟨v, l, R, L, p.2.2, R20, rfl, ?_, e3, eit, rfl, rfl, hI2, hR, hP1⟩ ?_)
      · refine hST.perm ?_
        show (R20 ++ ((b4, Obj.cells (encRole p.1).toArray 47 (0, 0)) :: (R ++ (R1 ++ L)))).Perm _
        exact List.perm_middle.trans (List.Perm.cons _ (List.perm_append_comm_assoc _ _ _))
      rintro m E W ⟨v, l, R, L, lg, Rj, rfl, hST, e3, eit, e4, e20, hI2, hR, hP⟩
      refine CW_seq (CW_region (LW_e (.inl rfl) rfl (by decide) (E_nextM ([_] ++ R) (by simpa only [List.append_assoc, List.cons_append, List.nil_append, List.singleton_append] using hST) (fun b o hb => hST.mem b o hb) hI2 e20 (fun hend => ?_) (fun W Rj1 q lg1 hq1 hST hA2 => ?_))))
      · subst hend
        refine LV (R_extract (v := .bool false) rfl rfl) (LW_nil (sq_n (CW_seq ?_)))
        refine CW_if_false rfl (CW_exit (sq_e (sq_e (bq_e ?_))))
        refine bq_n (sq_n ?_)
        exact ⟨_, by simp [hp1.length_eq], v, l, R, Rj ++ L, lf1, R1, rfl, (ST.drop (A := []) hST).perm (List.Perm.append_left R (List.perm_append_comm_assoc _ _ _)), e3, eit, hA.iter, hR, hall1, by simpa using hP⟩
      · simp only [List.append_assoc, List.cons_append, List.nil_append, List.singleton_append] at hST
        refine LV (R_extract (v := .bool true) rfl rfl) (LW_nil (sq_n (CW_seq ?_)))
        refine CW_if_true rfl (CW_skip (sq_n (CW_block ?_)))
        refine CW_seq (CW_region ?_)
        refine LV (R_entryM (fun q hq => (hST.box q.1 q.2 (.tail _ (List.mem_append_right _ (List.mem_append_left _ hq)))).1) (fun b o hb => hST.mem b o hb) hA2 e20) ?_
        refine LV (R_extract (v := (.string q.1)) rfl rfl) ?_
        refine LV (R_assign (v := (.string q.1)) rfl) ?_
        refine LW_nil (sq_n (CW_region ?_))
        refine LV (R_move (v := v) e3) ?_
        refine LV (R_load (v := (.agg (encRole p.1).toArray)) e4 (load_boxA hST.has (.head _) (encRole p.1) rfl Tryz.isAgg47 Tryz.sizeOf47)) ?_
        refine LV (R_move (v := (.string q.1)) rfl) ?_
        refine LV (R_build (qs := #[(0, (.agg (encRole p.1).toArray)), (1, (.string q.1))]) (v := (.agg (encFact (⟨p.1, q.1⟩ : Fact)).toArray)) (parts2 rfl rfl) (run_build Tryz.zeroValue78 Tryz.underlying78 (pl78 _ Tryz.underlying78) (by kernel_rfl))) ?_
        refine LE (E_buildSlice (qs := #[(0, (.agg (encFact (⟨p.1, q.1⟩ : Fact)).toArray))]) (cs := (encFact (⟨p.1, q.1⟩ : Fact)).toArray) hST (parts1 rfl) (run_lit [(.agg (encFact (⟨p.1, q.1⟩ : Fact)).toArray)] Tryz.underlying53 Tryz.sizeOf78 Tryz.zeroValue78 (by decide) rfl (by intro v hv; simp only [List.mem_cons, List.not_mem_nil, or_false] at hv; rcases hv with rfl <;> rfl) rfl rfl) (fun W b6 hST => ?_))
        have hP2 : ((l ++ [(⟨p.1, q.1⟩ : Fact)]) ++ (lg1.map (fun q => (⟨p.1, q.1⟩ : Fact)) ++ lf1.flatMap (fun (p : Role × (Value × List (ByteArray × Bool))) => p.2.2.map (fun (q : ByteArray × Bool) => (⟨p.1, q.1⟩ : Fact))))).Perm fs := by rw [List.append_assoc]; exact (List.Perm.append_left l (List.Perm.append_right _ (hq1.map (fun q => (⟨p.1, q.1⟩ : Fact))).symm)).trans hP
        have happ : appB 48 l [(⟨p.1, q.1⟩ : Fact)] = some (l ++ [(⟨p.1, q.1⟩ : Fact)]) := appB_of hf1 hf2 (by rw [← hP2.length_eq]; simp only [List.length_append]; omega)
        refine LE (E_append (enc := encFact) (v := v) (vs := (.slice (some ⟨b6, 0, none⟩) 1 1)) (R := R) [_, _] hST lenFact (by decide) oneFact Tryz.underlying53 info78.1 info78.2.1 rfl info78.2.2.1 info78.2.2.2 rfl rfl hR (Sl.lit (enc := encFact) (l := [(⟨p.1, q.1⟩ : Fact)]) lenFact rfl (Nat.le_of_ble_eq_true rfl) rfl (hST.at_ (.head _))) happ (fun W v8 R8 hST hR8 => ?_))
        refine LV (R_assign (v := v8) rfl) ?_
        refine LW_nil (bq_n (sq_n ?_))
        exact ⟨_, by simp [hq1.length_eq], v8, _, R8, L, lg1, Rj1, rfl, ST.drop (A := []) hST, rfl, eit, e4, e20, hA2.iter, hR8, hP2⟩
  · rintro E W ⟨v_f, l_f, R_f, L_f, hST, e_f, h_f, hm⟩
    refine CW_seq ?_
    refine CW_region ?_
    refine LV (R_move (v := v_f) e_f) ?_
    obtain ⟨r4, hr5, hm⟩ := bind_some hm
    replace hST : ST true NoF w _ _ (R_f ++ L_f) := hST.perm (List.Perm.refl _)
    have hsz := hST.size
    refine LE (E_callM (args := [v_f, (.func (.func 92) #[] #[])]) (caps := #[]) ((R_f ++ [])) L_f hST (by simp only [List.append_assoc, List.cons_append, List.nil_append]; exact List.Perm.refl _) rfl Tryz.call91 (by exact args2 rfl rfl) (fun hH hN hsb hmm => (w_sortF91 v_f l_f R_f (.func (.func 92) #[] #[]) (fun (x : (Fact × Fact)) => m_model_Model_Facts_c1 x.1 x.2) _ _ hH hN (Sub.refl _) h_f ⟨92, #[], rfl, Tryz.call92, fun W x r hs hm => w_model_Model_Facts_c1 x.1 x.2 r W  hm⟩ hr5)) (fun W6 v9 μ7 L11 hST hle8 hlift hK10 => ?_))
    obtain ⟨S12, hv14, rfl, hy13⟩ := hK10
    replace hv14 := hv14.symm; subst hv14
    simp only [List.append_assoc, List.cons_append, List.nil_append] at hST
    refine LW_nil ?_
    refine sq_n ?_
    refine CW_seq ?_
    refine CW_region ?_
    refine LV (R_move (v := v_f) e_f) ?_
    refine LV (R_assign (v := v_f) rfl) ?_
    refine LW_nil ?_
    refine sq_n ?_
    refine CW_ret ?_
    replace hm := Option.some.inj hm; subst hm
    refine retQ_1 (v := v_f) rfl rfl ?_
    exact ⟨_, S12, rfl, hST.backRow (fun p hq => by simp [hq]) hy13.nd, hy13⟩
theorem w_slices_IndexFunc_Fact (v_a0 : Value) (a0 : List Fact) (v_a1 : Value) (f1 : Fact → Option Bool) (r : Int) (w : World) (h_a0 : Sl (Pl encFact) 3 (hp w) v_a0 a0) (h_a1 : CbOk Tryz.prog v_a1 (hp w) (fun (x : Fact) => [(.agg (encFact x).toArray)]) (fun (r : Bool) => (.bool r)) f1) (hm : m_slices_IndexFunc_Fact a0 f1 = some r) :
    Gives true Tryz.prog 188 [v_a0, v_a1] w (.int .i64 r) := by
  have hST := ST.start (dd := true) w
  unfold m_slices_IndexFunc_Fact at hm
  refine calls_of_CW (n := 19) Tryz.func188 rfl rfl (Nat.le_of_ble_eq_true rfl) ?_
  refine CW_seq ?_
  refine CW_region ?_
  refine LV (R_assign (v := (.int .i64 0)) rfl) ?_
  refine LW_nil ?_
  refine sq_n ?_
  refine CW_seq ?_
  refine CW_seq ?_
  refine CW_region ?_
  refine LV (R_move (v := v_a0) rfl) ?_
  refine LV (R_len Tryz.underlying53 rfl h_a0) ?_
  refine LV (R_move (v := (.int .i64 0)) rfl) ?_
  refine LW_nil ?_
  refine sq_n ?_
  refine CW_range (fun i E W => ∃  (L58 : List (Nat × Obj)), (E 8 = .int .i64 (i : Nat) ∧ E 7 = .int .i64 (a0.length : Nat)) ∧ ST true NoF w W (hp w) L58 ∧ E 0 = v_a0 ∧ E 1 = v_a1 ∧ m_slices_IndexFunc_Fact_L1 f1 (a0.drop i) i = some r) a0.length h_a0.len ⟨_, ⟨rfl, rfl⟩, (hST.sublist (List.Sublist.refl _)), rfl, rfl, hm⟩ (by decide) (by decide) (by decide) (fun _ _ _ h => by obtain ⟨_, eIN, _⟩ := h; exact eIN) ?_ ?_
  · rintro i35 E W hi41 ⟨L58, ⟨eI, eN⟩, hST, e60, e61, hm59⟩
    obtain ⟨x36, xs37, hx39, hx38, hx40⟩ := drop_cons hi41
    rw [hx39] at hm59
    rw [m_slices_IndexFunc_Fact_L1] at hm59
    refine CW_block ?_
    refine CW_seq ?_
    refine CW_region ?_
    refine LV (R_move (v := (.int .i64 ((i35 : Int)))) eI) ?_
    refine LV (R_assign (v := (.int .i64 ((i35 : Int)))) rfl) ?_
    refine LW_nil ?_
    refine sq_n ?_
    refine CW_seq ?_
    refine CW_region ?_
    refine LV (R_move (v := v_a1) e61) ?_
    refine LV (R_move (v := v_a0) e60) ?_
    refine LV (R_move (v := (.int .i64 ((i35 : Int)))) rfl) ?_
    refine LQ (R_indexP (enc := encFact) (i := (i35 : Int)) (x0 := x36) Tryz.underlying53 Tryz.sizeOf78 rfl rfl h_a0 (Int.natCast_nonneg _) hx38) (fun p62 hp63 => ?_)
    refine LV (R_load rfl (load_atA hST.has hp63 Tryz.isAgg78 Tryz.sizeOf78)) ?_
    obtain ⟨r65, hr66, hm59⟩ := bind_some hm59
    refine LE (E_cb x36 hST h_a1 (Sub.refl _) rfl (args1 rfl) hr66 (fun W67 hST => ?_))
    refine LW_nil ?_
    refine sq_n ?_
    refine CW_if (b := r65) rfl (fun hb68 => ?_) (fun hb68 => ?_)
    · replace hm59 := if_t hb68 hm59
      refine CW_seq ?_
      refine CW_region ?_
      refine LV (R_move (v := (.int .i64 ((i35 : Int)))) rfl) ?_
      refine LV (R_assign (v := (.int .i64 ((i35 : Int)))) rfl) ?_
      refine LW_nil ?_
      refine sq_n ?_
      refine CW_ret ?_
      refine bq_r (sq_r (bq_r (sq_r ?_)))
      replace hm59 := Option.some.inj hm59; subst hm59
      refine retQ_1 (v := (.int .i64 ((i35 : Int)))) rfl rfl ?_
      exact ⟨rfl, hST.ex⟩
    · replace hm59 := if_f hb68 hm59
      refine CW_skip ?_
      refine bq_n ?_
      refine sq_n ?_
      exact ⟨eI, _, ⟨rfl, eN⟩, (hST.sublist (List.Sublist.refl _)), e60, e61, (by rw [hx40]; exact hm59)⟩
  · rintro E W ⟨L58, ⟨eI, eN⟩, hST, e60, e61, hm59⟩
    rw [List.drop_length] at hm59
    rw [m_slices_IndexFunc_Fact_L1] at hm59
    refine sq_n ?_
    refine CW_seq ?_
    refine CW_region ?_
    refine LV (R_assign (v := (.int .i64 ((-1)))) rfl) ?_
    refine LW_nil ?_
    refine sq_n ?_
    refine CW_ret ?_
    replace hm59 := Option.some.inj hm59; subst hm59
    refine retQ_1 (v := (.int .i64 ((-1)))) rfl rfl ?_
    exact ⟨rfl, hST.ex⟩
theorem w_slices_DeleteFunc_Fact (v_a0 : Value) (a0 : List Fact) (R_a0 : List (Nat × Obj)) (v_a1 : Value) (f1 : Fact → Option Bool) (r : List Fact) (w : World) {μ0 : Mem} (hH : Held (R_a0 ++ []) w) (hN : (((R_a0 ++ []) : List (Nat × Obj)).map (·.1)).Nodup) (hS0 : Sub μ0 (hpx w (R_a0 ++ []))) (h_a0 : Row 78 encFact 3 v_a0 a0 R_a0) (h_a1 : CbOk Tryz.prog v_a1 μ0 (fun (x : Fact) => [(.agg (encFact x).toArray)]) (fun (r : Bool) => (.bool r)) f1) (hm : m_slices_DeleteFunc_Fact a0 f1 = some r) :
    GivesM true Tryz.prog 148 [v_a0, v_a1] w (R_a0 ++ []) (fun v L1 W' => ∃ (y1 : Value) (S2 : List (Nat × Obj)), v = y1 ∧ L1 = (S2 ++ []) ∧ Row 78 encFact 3 y1 r S2) := by
  have hST := (ST.startM (dd := true) hH hN).weak hS0
  unfold m_slices_DeleteFunc_Fact at hm
  refine calls_of_CW (n := 42) Tryz.func148 rfl rfl (Nat.le_of_ble_eq_true rfl) ?_
  refine CW_seq ?_
  refine CW_region ?_
  refine LV (R_assign (v := (.slice none 0 0)) rfl) ?_
  refine LW_nil ?_
  refine sq_n ?_
  refine CW_seq ?_
  refine CW_region ?_
  refine LV (R_move (v := v_a0) rfl) ?_
  refine LV (R_move (v := v_a1) rfl) ?_
  obtain ⟨r1, hr2, hm⟩ := bind_some hm
  refine LE (E_gives (args := [v_a0, v_a1]) hST rfl Tryz.call188 (by exact args2 rfl rfl) ((w_slices_IndexFunc_Fact v_a0 a0 v_a1 f1 _ _ (h_a0.sl lenFact (fun b o hq => hST.at_ (List.mem_append_left _ hq))) (h_a1.mono hST.sub_hp) hr2)) (fun W3 hST => ?_))
  refine LV (R_assign (v := (.int .i64 r1)) rfl) ?_
  refine LW_nil ?_
  refine sq_n ?_
  refine CW_seq ?_
  refine CW_seq ?_
  refine CW_region ?_
  refine LV (R_move (v := (.int .i64 r1)) rfl) ?_
  refine LV (R_int (k := .i64) (a := r1) (b := ((-1))) (v := (.bool ((r1 == ((-1)))))) rfl rfl rfl) ?_
  refine LW_nil ?_
  refine sq_n ?_
  refine CW_if (b := (r1 == ((-1)))) rfl (fun hb4 => ?_) (fun hb4 => ?_)
  · replace hm := if_t hb4 hm
    refine CW_seq ?_
    refine CW_region ?_
    refine LV (R_move (v := v_a0) rfl) ?_
    refine LV (R_assign (v := v_a0) rfl) ?_
    refine LW_nil ?_
    refine sq_n ?_
    refine CW_ret ?_
    refine sq_r ?_
    replace hm := Option.some.inj hm; subst hm
    refine retQ_1 (v := v_a0) rfl rfl ?_
    replace hST : ST true (keys (R_a0 ++ [])) w _ _ (R_a0 ++ []) := hST
    exact ⟨_, (R_a0 ++ []), rfl, (ST.backM (L1 := (R_a0 ++ [])) (by have hh : ST true (keys (R_a0 ++ [])) w _ _ (R_a0 ++ []) := hST.perm (List.Perm.refl _); simpa only [List.append_assoc, List.cons_append, List.nil_append] using hh)), v_a0, R_a0, rfl, rfl, h_a0⟩
  · replace hm := if_f hb4 hm
    refine CW_skip ?_
    refine sq_n ?_
    refine CW_seq ?_
    refine CW_seq ?_
    refine CW_region ?_
    refine LV (R_move (v := (.int .i64 r1)) rfl) ?_
    refine LV (R_int (k := .i64) (a := r1) (b := 1) (v := (.int .i64 ((IntKind.i64.wrap (r1 + 1))))) rfl rfl rfl) ?_
    refine LV (R_assign (v := (.int .i64 ((IntKind.i64.wrap (r1 + 1))))) rfl) ?_
    refine LW_nil ?_
    refine sq_n ?_
    refine CW_block (CW_loop (fun m E W => ∃ (l249 : List Fact) (R251 : List (Nat × Obj)) (x252 : Int) (x253 : Int) (L319 : List (Nat × Obj)), ST true (keys (R_a0 ++ [])) w W μ0 (R251 ++ L319) ∧ E 0 = v_a0 ∧ E 1 = v_a1 ∧ E 5 = (.int .i64 x252) ∧ E 6 = (.int .i64 x253) ∧ Row 78 encFact 3 v_a0 l249 R251 ∧ m_slices_DeleteFunc_Fact_L1 f1 m l249 x252 x253 = some r) FUEL ⟨a0, R_a0, r1, ((IntKind.i64.wrap (r1 + 1))), _, (hST.sublist (List.Sublist.refl _)), rfl, rfl, rfl, rfl, h_a0, hm⟩ ?_)
    rintro m E W ⟨l249, R251, x252, x253, L319, hST, e322, e323, e324, e325, hs250, hm320⟩
    cases m with
    | zero => rw [m_slices_DeleteFunc_Fact_L1] at hm320; cases hm320
    | succ n321 =>
      rw [m_slices_DeleteFunc_Fact_L1] at hm320
      refine CW_seq ?_
      refine CW_seq ?_
      refine CW_region ?_
      refine LV (R_move (v := (.int .i64 x253)) e325) ?_
      refine LV (R_move (v := v_a0) e322) ?_
      refine LV (R_lenRow Tryz.underlying53 rfl hs250) ?_
      refine LV (R_int (k := .i64) (a := x253) (b := ((l249.length : Int))) (v := (.bool ((decide (x253 < ((l249.length : Int))))))) rfl rfl rfl) ?_
      refine LW_nil ?_
      refine sq_n ?_
      refine CW_if (b := (decide (x253 < ((l249.length : Int))))) rfl (fun hb326 => ?_) (fun hb326 => ?_)
      · replace hm320 := if_t hb326 hm320
        refine CW_skip ?_
        refine sq_n ?_
        refine CW_seq ?_
        obtain ⟨s358, hm359, hm360⟩ := bind_some hm320
        refine CW_cut (fun E W => ∃ (l348 : List Fact) (R350 : List (Nat × Obj)) (x351 : Int) (L352 : List (Nat × Obj)), ST true (keys (R_a0 ++ [])) w W μ0 (R350 ++ L352) ∧ E 0 = v_a0 ∧ E 1 = v_a1 ∧ E 5 = (.int .i64 x351) ∧ E 6 = (.int .i64 x253) ∧ Row 78 encFact 3 v_a0 l348 R350 ∧ (m_slices_DeleteFunc_Fact_L1 f1 n321 l348 x351 ((IntKind.i64.wrap (x253 + 1)))) = some r) ?_ ?_
        · refine CW_block ?_
          refine CW_seq ?_
          refine CW_region ?_
          refine LV (R_move (v := v_a0) e322) ?_
          refine LV (R_move (v := (.int .i64 x253)) e325) ?_
          obtain ⟨x364, hx365, hm359⟩ := bind_some hm359
          refine LQ (R_indexRow (i := x253) (x0 := x364) Tryz.underlying53 Tryz.sizeOf78 rfl rfl hs250 (idx_nonneg hx365) (idx_get hx365)) (fun p361 hp362 => ?_)
          refine LV (R_load (v := (.agg (encFact x364).toArray)) rfl (load_ixA hST.has (fun p hq => by simp [hq]) hs250 lenFact hp362 (idx_get hx365) Tryz.isAgg78 Tryz.sizeOf78)) ?_
          refine LE (E_alloc hST Tryz.zeroValue78 (fun W367 b366 hST => ?_))
          refine LW_e0 (.inl rfl) rfl (E_store [] (.agg (encFact x364).toArray) ((encFact x364).toArray) hST rfl rfl Tryz.sizeOf78 (oneFact x364) (Nat.le_of_ble_eq_true rfl) rfl (fun W368 hST => ?_))
          refine LW_nil ?_
          refine sq_n ?_
          refine CW_seq ?_
          refine CW_region ?_
          refine LV (R_move (v := v_a1) e323) ?_
          refine LV (R_load (v := (.agg (encFact x364).toArray)) rfl (load_boxA hST.has (.head _) (encFact x364) rfl Tryz.isAgg78 Tryz.sizeOf78)) ?_
          replace hST : ST true (keys (R_a0 ++ [])) w _ _ ((b366, Obj.cells ((encFact x364).toArray : Array Value) 78 (0, 0)) :: (R251 ++ L319)) := hST
          obtain ⟨r369, hr370, hm359⟩ := bind_some hm359
          refine LE (E_cb x364 hST h_a1 (Sub.refl _) rfl (args1 rfl) hr370 (fun W371 hST => ?_))
          refine LV (R_not (b := r369) rfl) ?_
          refine LW_nil ?_
          refine sq_n ?_
          refine CW_if (b := (!r369)) rfl (fun hb372 => ?_) (fun hb372 => ?_)
          · replace hm359 := if_t hb372 hm359
            refine CW_seq ?_
            refine CW_region ?_
            refine LV (R_move (v := v_a0) e322) ?_
            refine LV (R_move (v := (.int .i64 x252)) e324) ?_
            refine LV (R_load (v := (.agg (encFact x364).toArray)) rfl (load_boxA hST.has (.head _) (encFact x364) rfl Tryz.isAgg78 Tryz.sizeOf78)) ?_
            obtain ⟨x376, hx377, hm359⟩ := bind_some hm359
            refine LQ (R_indexRow (i := x252) (x0 := x376) Tryz.underlying53 Tryz.sizeOf78 rfl rfl hs250 (idx_nonneg hx377) (idx_get hx377)) (fun p373 hp374 => ?_)
            refine LW_e0 (.inl rfl) rfl (E_storeRow (u := (.agg (encFact x364).toArray)) (x1 := x364) [_] hST hs250 lenFact oneFact rfl rfl rfl hp374 (idx_get hx377) Tryz.sizeOf78 (fun W378 R379 hST hR380 => ?_))
            refine LW_nil ?_
            refine sq_n ?_
            replace hST : ST true (keys (R_a0 ++ [])) w _ _ ((b366, Obj.cells ((encFact x364).toArray : Array Value) 78 (0, 0)) :: (R379 ++ L319)) := hST
            replace hST : ST true (keys (R_a0 ++ [])) w _ _ (R379 ++ L319) := hST.sublist (List.Sublist.cons _ (List.Sublist.refl _))
            refine CW_region ?_
            refine LV (R_move (v := (.int .i64 x252)) e324) ?_
            refine LV (R_int (k := .i64) (a := x252) (b := 1) (v := (.int .i64 ((IntKind.i64.wrap (x252 + 1))))) rfl rfl rfl) ?_
            refine LV (R_assign (v := (.int .i64 ((IntKind.i64.wrap (x252 + 1))))) rfl) ?_
            refine LW_nil ?_
            refine bq_n ?_
            refine sq_n ?_
            replace hm359 := Option.some.inj hm359; subst hm359
            exact ⟨((l249.set (Int.toNat x252) x364)), R379, ((IntKind.i64.wrap (x252 + 1))), _, (hST.sublist (List.Sublist.refl _)), e322, e323, rfl, e325, hR380, hm360⟩
          · replace hm359 := if_f hb372 hm359
            refine CW_skip ?_
            refine bq_n ?_
            refine sq_n ?_
            replace hm359 := Option.some.inj hm359; subst hm359
            exact ⟨l249, R251, x252, _, (hST.sublist (List.Sublist.cons _ (List.Sublist.refl _))), e322, e323, e324, e325, hs250, hm360⟩
        · rintro E W ⟨l348, R350, x351, L352, hST, e354, e355, e356, e357, hs349, hm353⟩
          refine CW_region ?_
          refine LV (R_move (v := (.int .i64 x253)) e357) ?_
          refine LV (R_int (k := .i64) (a := x253) (b := 1) (v := (.int .i64 ((IntKind.i64.wrap (x253 + 1))))) rfl rfl rfl) ?_
          refine LV (R_assign (v := (.int .i64 ((IntKind.i64.wrap (x253 + 1))))) rfl) ?_
          refine LW_nil ?_
          refine sq_n ?_
          exact ⟨n321, Nat.lt_succ_self _, l348, R350, x351, ((IntKind.i64.wrap (x253 + 1))), _, (hST.sublist (List.Sublist.refl _)), e354, e355, e356, rfl, hs349, hm353⟩
      · replace hm320 := if_f hb326 hm320
        refine CW_exit ?_
        refine sq_e (sq_e (bq_e ?_))
        refine sq_n ?_
        refine CW_seq ?_
        refine CW_region ?_
        refine LV (R_move (v := v_a0) e322) ?_
        refine LV (R_move (v := (.int .i64 x252)) e324) ?_
        obtain ⟨_, hg383, hm320⟩ := bind_some hm320
        refine LQ (R_sliceTail (i := x252) Tryz.underlying53 Tryz.sizeOf78 rfl rfl hs250 (chk_1 hg383) (chk_2 hg383)) (fun v381 hs382 => ?_)
        refine LW_e0 (.inl rfl) rfl (E_clearTail (z := (⟨(⟨zS, zS⟩ : Role), zS⟩ : Fact)) [] hST hs250 lenFact oneFact Tryz.underlying53 Tryz.zeroValue78 hs382 rfl rfl (fun W384 R385 hST hR386 => ?_))
        refine LW_nil ?_
        refine sq_n ?_
        refine CW_seq ?_
        refine CW_region ?_
        refine LV (R_move (v := v_a0) e322) ?_
        refine LV (R_move (v := (.int .i64 x252)) e324) ?_
        obtain ⟨_, hg389, hm320⟩ := bind_some hm320
        refine LQ (R_sliceTo (i := x252) Tryz.underlying53 Tryz.sizeOf78 rfl rfl hR386 lenFact (chk_1 hg389) (chk_2 hg389)) (fun v387 hs388 => ?_)
        refine LV (R_assign (v := v387) rfl) ?_
        refine LW_nil ?_
        refine sq_n ?_
        refine CW_ret ?_
        replace hm320 := Option.some.inj hm320; subst hm320
        refine retQ_1 (v := v387) rfl rfl ?_
        replace hST : ST true (keys (R_a0 ++ [])) w _ _ (R385 ++ L319) := hST
        exact ⟨_, (R385 ++ []), rfl, (ST.backM (L1 := (R385 ++ [])) (by have hh : ST true (keys (R_a0 ++ [])) w _ _ (R385 ++ L319) := hST.perm (List.Perm.refl _); simpa only [List.append_assoc, List.cons_append, List.nil_append] using hh)), v387, R385, rfl, rfl, hs388⟩
theorem w_model_Model_In (b_a0 : Nat) (v_a0_in_ : Value) (a0_in_ : List (Role × (List (ByteArray × Bool)))) (v_a0_creds : Value) (a0_creds : List Cred) (v_a0_uses : Value) (a0_uses : List (Role × (List Cred))) (v_a0_words : Value) (a0_words : List (ByteArray × (List Cred))) (v_a0_todo : Value) (a0_todo : List Fact) (a0_n : Int) (a1 : Role) (a2 : ByteArray) (r : Bool) (w : World) (h_a0_in_ : DeepAt (fun (x : Role) => (.agg (encRole x).toArray)) (MapRow Value.string (fun (x : Bool) => (Value.bool x))) (hp w) v_a0_in_ a0_in_) (h_a0_creds : Sl (Pl encCred) 9 (hp w) v_a0_creds a0_creds) (h_a0_uses : DeepAt (fun (x : Role) => (.agg (encRole x).toArray)) (Row 83 encCred 9) (hp w) v_a0_uses a0_uses) (h_a0_words : DeepAt Value.string (Row 83 encCred 9) (hp w) v_a0_words a0_words) (h_a0_todo : Sl (Pl encFact) 3 (hp w) v_a0_todo a0_todo) (hA_a0 : At (hp w) (.pointer (some ⟨b_a0, 0, none⟩)) [v_a0_in_, v_a0_creds, v_a0_uses, v_a0_words, v_a0_todo, (.int .i64 a0_n)]) (hm : m_model_Model_In a0_in_ a0_creds a0_uses a0_words a0_todo a0_n a1 a2 = some r) :
    Gives true Tryz.prog 35 [(.pointer (some ⟨b_a0, 0, none⟩)), (.agg (encRole a1).toArray), (.string a2)] w (.bool r) := by
  have hST := ST.start (dd := true) w
  unfold m_model_Model_In at hm
  refine calls_of_CW (n := 19) Tryz.func35 rfl rfl (Nat.le_of_ble_eq_true rfl) ?_
  refine CW_seq ?_
  refine CW_region ?_
  refine LE (E_box (v := (.agg (encRole a1).toArray)) hST rfl (fun W2 b1 hST => ?_))
  refine LV (R_assign (v := (.bool false)) rfl) ?_
  refine LW_nil ?_
  refine sq_n ?_
  refine CW_seq ?_
  refine PX_start (fun l W => Has (hp w) ((b1, Obj.cells ((encRole a1).toArray : Array Value) 47 (0, 0)) :: []) W) Tryz_mixed ?_
  replace hST := hST.drew
  have hS0 : Has (hp w) ((b1, Obj.cells ((encRole a1).toArray : Array Value) 47 (0, 0)) :: []) _ := hST.has.sub (Sub.refl _) (fun p hq => ((List.mem_cons.1 hq).elim (fun hq => by rw [hq]; exact (.head _)) (fun hq => (absurd hq List.not_mem_nil))))
  refine PV 0 rfl hS0 (R_move (v := (.pointer (some ⟨b_a0, 0, none⟩))) rfl) ?_
  refine PV 1 rfl hS0 (R_ptrNeNil Tryz.underlying51 rfl rfl) ?_
  refine PV 2 rfl hS0 (R_move (v := (.bool true)) rfl) ?_
  refine PX_v 3 rfl (by kernel_rfl) (.inr ⟨2, true, 9, rfl, rfl, by decide, rfl⟩) rfl (by decide) (fun _ _ h => h) hS0 (fun _ _ _ _ => R_move (v := (.pointer (some ⟨b_a0, 0, none⟩))) rfl) ?_
  refine PX_v 4 rfl (by kernel_rfl) (.inr ⟨2, true, 9, rfl, rfl, by decide, rfl⟩) rfl (by decide) (fun _ _ h => h) hS0 (fun _ _ _ _ => R_nilCheck rfl) ?_
  refine PX_q 5 rfl (by kernel_rfl) (.inr ⟨2, true, 9, rfl, rfl, by decide, rfl⟩) rfl (by decide) (fun _ _ h => h) hS0 (R_fieldAt [v_a0_in_] fa134_0 rfl hA_a0 rfl) (fun p17 hp18 => ?_)
  refine PX_v 6 rfl (by kernel_rfl) (.inr ⟨2, true, 9, rfl, rfl, by decide, rfl⟩) rfl (by decide) (fun _ _ h => h) hS0 (fun l W hpd hs => have hS := hs; R_load rfl (load_at1 hS (y := v_a0_in_) hp18 Tryz.isAgg130)) ?_
  refine PX_v 7 rfl (by kernel_rfl) (.inr ⟨2, true, 9, rfl, rfl, by decide, rfl⟩) rfl (by decide) (fun _ _ h => h) hS0 (fun l W hpd hs => have hS := hs; R_load (v := (.agg (encRole a1).toArray)) rfl (load_boxA hS (.head _) (encRole a1) rfl Tryz.isAgg47 Tryz.sizeOf47)) ?_
  obtain ⟨lv20, R21, hd22, hq23⟩ := h_a0_in_
  refine PX_v 8 rfl (by kernel_rfl) (.inr ⟨2, true, 9, rfl, rfl, by decide, rfl⟩) rfl (by decide) (fun _ _ h => h) hS0 (fun l W hpd hs => have hS := hs; R_lookupDeep (k := a1) (z := (.map none)) kl47 Tryz.underlying130 Tryz.zeroValue119 rfl rfl hd22 (fun b o hq => hS.1 b o (hq23 b o hq))) ?_
  refine PX_v 9 rfl (by kernel_rfl) (.inr ⟨2, true, 9, rfl, rfl, by decide, rfl⟩) rfl (by decide) (fun _ _ h => h) hS0 (fun _ _ _ _ => R_move (v := (.string a2)) rfl) ?_
  refine PX_v 10 rfl (by kernel_rfl) (.inr ⟨2, true, 9, rfl, rfl, by decide, rfl⟩) rfl (by decide) (fun _ _ h => h) hS0 (fun l W hpd hs => have hS := hs; R_lookupD (k := a2) (z := false) (vf := (fun (x : Bool) => (Value.bool x))) kl9 Tryz.underlying119 Tryz.zeroValue4 rfl rfl ((DeepV.mapAt beqRole_iff.1 hd22 a1 hq23).mono (fun b o hq => hS.1 b o hq))) ?_
  refine PV 11 rfl hS0 (R_pickT (v := (.bool ((mgetD beqS (((mget beqRole a0_in_ a1).getD [])) a2 false)))) rfl rfl) ?_
  refine PV 12 rfl hS0 (R_assign (v := (.bool ((mgetD beqS (((mget beqRole a0_in_ a1).getD [])) a2 false)))) rfl) ?_
  refine PX_done (by kernel_rfl) ?_
  refine sq_n ?_
  replace hST : ST true NoF w _ _ [] := hST.sublist (List.Sublist.cons _ (List.Sublist.refl _))
  refine CW_ret ?_
  replace hm := Option.some.inj hm; subst hm
  refine retQ_1 (v := (.bool ((mgetD beqS (((mget beqRole a0_in_ a1).getD [])) a2 false)))) rfl rfl ?_
  exact ⟨rfl, hST.ex⟩
theorem w_merge_lost_c1 (a0 : Fact) (b_c0 : Nat) (b_c0q : Nat) (v_c0q_in_ : Value) (c0q_in_ : List (Role × (List (ByteArray × Bool)))) (v_c0q_creds : Value) (c0q_creds : List Cred) (v_c0q_uses : Value) (c0q_uses : List (Role × (List Cred))) (v_c0q_words : Value) (c0q_words : List (ByteArray × (List Cred))) (v_c0q_todo : Value) (c0q_todo : List Fact) (c0q_n : Int) (r : Bool) (w : World) (h_c0q_in_ : DeepAt (fun (x : Role) => (.agg (encRole x).toArray)) (MapRow Value.string (fun (x : Bool) => (Value.bool x))) (hp w) v_c0q_in_ c0q_in_) (h_c0q_creds : Sl (Pl encCred) 9 (hp w) v_c0q_creds c0q_creds) (h_c0q_uses : DeepAt (fun (x : Role) => (.agg (encRole x).toArray)) (Row 83 encCred 9) (hp w) v_c0q_uses c0q_uses) (h_c0q_words : DeepAt Value.string (Row 83 encCred 9) (hp w) v_c0q_words c0q_words) (h_c0q_todo : Sl (Pl encFact) 3 (hp w) v_c0q_todo c0q_todo) (hA_c0q : At (hp w) (.pointer (some ⟨b_c0q, 0, none⟩)) [v_c0q_in_, v_c0q_creds, v_c0q_uses, v_c0q_words, v_c0q_todo, (.int .i64 c0q_n)]) (hA_c0 : At (hp w) (.pointer (some ⟨b_c0, 0, none⟩)) [(.pointer (some ⟨b_c0q, 0, none⟩))]) (hm : m_merge_lost_c1 a0 c0q_in_ c0q_creds c0q_uses c0q_words c0q_todo c0q_n = some r) :
    Gives true Tryz.prog 149 [(.agg (encFact a0).toArray), (.pointer (some ⟨b_c0, 0, none⟩))] w (.bool r) := by
  have hST := ST.start (dd := true) w
  unfold m_merge_lost_c1 at hm
  refine calls_of_CW (n := 10) Tryz.func149 rfl rfl (Nat.le_of_ble_eq_true rfl) ?_
  refine CW_seq ?_
  refine CW_region ?_
  refine LE (E_box (v := (.agg (encFact a0).toArray)) hST rfl (fun W2 b1 hST => ?_))
  refine LV (R_assign (v := (.bool false)) rfl) ?_
  refine LW_nil ?_
  refine sq_n ?_
  refine CW_seq ?_
  refine CW_region ?_
  refine LV (R_load rfl (load_at1 hST.has (y := (.pointer (some ⟨b_c0q, 0, none⟩))) hA_c0 Tryz.isAgg51)) ?_
  refine LV (R_field fa78_0 rfl) ?_
  refine LV (R_load (v := (.agg (encRole a0.Role).toArray)) rfl (load_boxA hST.has (.head _) (encRole a0.Role) rfl Tryz.isAgg47 Tryz.sizeOf47)) ?_
  refine LV (R_field fa78_1 rfl) ?_
  refine LV (R_load (v := (.string a0.Who)) rfl (load_box1 hST.has (.head _) rfl Tryz.isAgg9)) ?_
  obtain ⟨r3, hr4, hm⟩ := bind_some hm
  refine LE (E_gives (args := [(.pointer (some ⟨b_c0q, 0, none⟩)), (.agg (encRole a0.Role).toArray), (.string a0.Who)]) hST rfl Tryz.call35 (by exact args3 rfl rfl rfl) ((w_model_Model_In b_c0q v_c0q_in_ c0q_in_ v_c0q_creds c0q_creds v_c0q_uses c0q_uses v_c0q_words c0q_words v_c0q_todo c0q_todo c0q_n a0.Role a0.Who _ _ (h_c0q_in_.mono hST.sub_hp) (h_c0q_creds.mono (Pl.mono _) hST.sub_hp) (h_c0q_uses.mono hST.sub_hp) (h_c0q_words.mono hST.sub_hp) (h_c0q_todo.mono (Pl.mono _) hST.sub_hp) (hA_c0q.mono hST.sub_hp) hr4)) (fun W5 hST => ?_))
  refine LV (R_assign (v := (.bool r3)) rfl) ?_
  refine LW_nil ?_
  refine sq_n ?_
  replace hST : ST true NoF w _ _ [] := hST.sublist (List.Sublist.cons _ (List.Sublist.refl _))
  refine CW_ret ?_
  replace hm := Option.some.inj hm; subst hm
  refine retQ_1 (v := (.bool r3)) rfl rfl ?_
  exact ⟨rfl, hST.ex⟩
theorem w_merge_lost (b_a0 : Nat) (v_a0_in_ : Value) (a0_in_ : List (Role × (List (ByteArray × Bool)))) (v_a0_creds : Value) (a0_creds : List Cred) (v_a0_uses : Value) (a0_uses : List (Role × (List Cred))) (v_a0_words : Value) (a0_words : List (ByteArray × (List Cred))) (v_a0_todo : Value) (a0_todo : List Fact) (a0_n : Int) (b_a1 : Nat) (v_a1_in_ : Value) (a1_in_ : List (Role × (List (ByteArray × Bool)))) (v_a1_creds : Value) (a1_creds : List Cred) (v_a1_uses : Value) (a1_uses : List (Role × (List Cred))) (v_a1_words : Value) (a1_words : List (ByteArray × (List Cred))) (v_a1_todo : Value) (a1_todo : List Fact) (a1_n : Int) (r : List Fact) (w : World) (h_a0_in_ : DeepAt (fun (x : Role) => (.agg (encRole x).toArray)) (MapRow Value.string (fun (x : Bool) => (Value.bool x))) (hp w) v_a0_in_ a0_in_) (h_a0_creds : Sl (Pl encCred) 9 (hp w) v_a0_creds a0_creds) (h_a0_uses : DeepAt (fun (x : Role) => (.agg (encRole x).toArray)) (Row 83 encCred 9) (hp w) v_a0_uses a0_uses) (h_a0_words : DeepAt Value.string (Row 83 encCred 9) (hp w) v_a0_words a0_words) (h_a0_todo : Sl (Pl encFact) 3 (hp w) v_a0_todo a0_todo) (hA_a0 : At (hp w) (.pointer (some ⟨b_a0, 0, none⟩)) [v_a0_in_, v_a0_creds, v_a0_uses, v_a0_words, v_a0_todo, (.int .i64 a0_n)]) (h_a1_in_ : DeepAt (fun (x : Role) => (.agg (encRole x).toArray)) (MapRow Value.string (fun (x : Bool) => (Value.bool x))) (hp w) v_a1_in_ a1_in_) (h_a1_creds : Sl (Pl encCred) 9 (hp w) v_a1_creds a1_creds) (h_a1_uses : DeepAt (fun (x : Role) => (.agg (encRole x).toArray)) (Row 83 encCred 9) (hp w) v_a1_uses a1_uses) (h_a1_words : DeepAt Value.string (Row 83 encCred 9) (hp w) v_a1_words a1_words) (h_a1_todo : Sl (Pl encFact) 3 (hp w) v_a1_todo a1_todo) (hA_a1 : At (hp w) (.pointer (some ⟨b_a1, 0, none⟩)) [v_a1_in_, v_a1_creds, v_a1_uses, v_a1_words, v_a1_todo, (.int .i64 a1_n)]) (hm : m_merge_lost a0_in_ a0_creds a0_uses a0_words a0_todo a0_n a1_in_ a1_creds a1_uses a1_words a1_todo a1_n = some r) :
    GivesRow true Tryz.prog 103 [(.pointer (some ⟨b_a0, 0, none⟩)), (.pointer (some ⟨b_a1, 0, none⟩))] w 78 encFact 3 r := by
  have hST := ST.start (dd := true) w
  unfold m_merge_lost at hm
  refine calls_of_CW (n := 9) Tryz.func103 rfl rfl (Nat.le_of_ble_eq_true rfl) ?_
  refine CW_seq ?_
  refine CW_region ?_
  refine LE (E_box (v := (.pointer (some ⟨b_a1, 0, none⟩))) hST rfl (fun W2 b1 hST => ?_))
  refine LV (R_assign (v := (.slice none 0 0)) rfl) ?_
  refine LW_nil ?_
  refine sq_n ?_
  refine CW_seq ?_
  refine CW_region ?_
  refine LV (R_move (v := (.pointer (some ⟨b_a0, 0, none⟩))) rfl) ?_
  obtain ⟨r3, hr4, hm⟩ := bind_some hm
  refine LE (E_givesRow (args := [(.pointer (some ⟨b_a0, 0, none⟩))]) [_] _ hST rfl Tryz.call34 (by exact args1 rfl) ((w_model_Model_Facts b_a0 v_a0_in_ a0_in_ v_a0_creds a0_creds v_a0_uses a0_uses v_a0_words a0_words v_a0_todo a0_todo a0_n _ _ (h_a0_in_.mono hST.sub_hp) (h_a0_creds.mono (Pl.mono _) hST.sub_hp) (h_a0_uses.mono hST.sub_hp) (h_a0_words.mono hST.sub_hp) (h_a0_todo.mono (Pl.mono _) hST.sub_hp) (hA_a0.mono hST.sub_hp) hr4)) (fun W5 v8 μ6 R9 hST hle7 hR10 => ?_))
  refine LV (R_makeFuncC (by exact args1 rfl) rfl) ?_
  replace hST : ST true NoF w _ _ ((b1, Obj.cells (#[(.pointer (some ⟨b_a1, 0, none⟩))] : Array Value) 51 (0, 0)) :: (R9 ++ [])) := hST
  obtain ⟨r11, hr12, hm⟩ := bind_some hm
  replace hST : ST true NoF w _ _ (R9 ++ ((b1, Obj.cells (#[(.pointer (some ⟨b_a1, 0, none⟩))] : Array Value) 51 (0, 0)) :: [])) := hST.perm (permD [[(b1, Obj.cells (#[(.pointer (some ⟨b_a1, 0, none⟩))] : Array Value) 51 (0, 0))], R9] [0, 1] [1, 0] ([]) (by decide) rfl rfl)
  have hsz := hST.size
  refine LE (E_callM (args := [v8, (.func (.func 149) #[] #[(.pointer (some ⟨b1, 0, none⟩))])]) (caps := #[]) ((R9 ++ [])) (((b1, Obj.cells (#[(.pointer (some ⟨b_a1, 0, none⟩))] : Array Value) 51 (0, 0)) :: [])) hST (by simp only [List.append_assoc, List.cons_append, List.nil_append]; exact List.Perm.refl _) rfl Tryz.call148 (by exact args2 rfl rfl) (fun hH hN hsb hmm => (w_slices_DeleteFunc_Fact v8 r3 R9 (.func (.func 149) #[] #[(.pointer (some ⟨b1, 0, none⟩))]) (fun (x : Fact) => m_merge_lost_c1 x a1_in_ a1_creds a1_uses a1_words a1_todo a1_n) _ _ hH hN (Sub.refl _) hR10 ⟨149, #[], #[(.pointer (some ⟨b1, 0, none⟩))], rfl, Tryz.call149, fun W x r hs hm => w_merge_lost_c1 x b1 b_a1 v_a1_in_ a1_in_ v_a1_creds a1_creds v_a1_uses a1_uses v_a1_words a1_words v_a1_todo a1_todo a1_n r W (h_a1_in_.mono ((hle7.trans hsb).trans hs)) (h_a1_creds.mono (Pl.mono _) ((hle7.trans hsb).trans hs)) (h_a1_uses.mono ((hle7.trans hsb).trans hs)) (h_a1_words.mono ((hle7.trans hsb).trans hs)) (h_a1_todo.mono (Pl.mono _) ((hle7.trans hsb).trans hs)) (hA_a1.mono ((hle7.trans hsb).trans hs)) (At.of (hs _ _ (hmm _ _ (.head _))) _ rfl) hm⟩ hr12)) (fun W13 v16 μ14 L18 hST hle15 hlift hK17 => ?_))
  obtain ⟨y19, S20, hv22, rfl, hy21⟩ := hK17
  replace hv22 := hv22.symm; subst hv22
  simp only [List.append_assoc, List.cons_append, List.nil_append] at hST
  replace hST : ST true NoF w _ _ ((b1, Obj.cells (#[(.pointer (some ⟨b_a1, 0, none⟩))] : Array Value) 51 (0, 0)) :: (S20 ++ [])) := hST.perm (permD [S20, [(b1, Obj.cells (#[(.pointer (some ⟨b_a1, 0, none⟩))] : Array Value) 51 (0, 0))]] [0, 1] [1, 0] ([]) (by decide) rfl rfl)
  refine LV (R_assign (v := y19) rfl) ?_
  refine LW_nil ?_
  refine sq_n ?_
  replace hST : ST true NoF w _ _ (S20 ++ []) := hST.sublist (List.Sublist.cons _ (List.Sublist.refl _))
  refine CW_ret ?_
  replace hm := Option.some.inj hm; subst hm
  refine retQ_1 (v := y19) rfl rfl ?_
  exact ⟨_, S20, rfl, hST.backRow (fun p hq => by simp [hq]) hy21.nd, hy21⟩
theorem w_merge_Facts (v_a0 : Value) (a0 : List Cred) (v_a1 : Value) (a1 : List Cred) (r : ((List Fact) × (List Fact))) (w : World) (h_a0 : Sl (Pl encCred) 9 (hp w) v_a0 a0) (h_a1 : Sl (Pl encCred) 9 (hp w) v_a1 a1) (hm : m_merge_Facts a0 a1 = some r) :
    GivesM false Tryz.prog 43 [v_a0, v_a1] w [] (fun v L1 W' => ∃ (y1 : Value) (S2 : List (Nat × Obj)) (y4 : Value) (S5 : List (Nat × Obj)), v = (.tuple #[y1, y4]) ∧ L1 = (S2 ++ (S5 ++ [])) ∧ Row 78 encFact 3 y1 r.1 S2 ∧ Row 78 encFact 3 y4 r.2 S5) := by
  have hST := ST.start (dd := false) w
  unfold m_merge_Facts at hm
  refine calls_of_CW (n := 18) Tryz.func43 rfl rfl (Nat.le_of_ble_eq_true rfl) ?_
  refine CW_seq ?_
  refine CW_region ?_
  refine LV (R_assign (v := (.slice none 0 0)) rfl) ?_
  refine LV (R_assign (v := (.slice none 0 0)) rfl) ?_
  refine LW_nil ?_
  refine sq_n ?_
  refine CW_seq ?_
  refine CW_region ?_
  refine LV (R_move (v := v_a0) rfl) ?_
  obtain ⟨r1, hr2, hm⟩ := bind_some hm
  have hsz := hST.size
  refine LE (E_callM (args := [v_a0]) (caps := #[]) [] ([]) hST (List.Perm.refl _) rfl Tryz.call31 (by exact args1 rfl) (fun _ _ _ _ => (w_model_Of v_a0 a0 _ _ (h_a0.mono (Pl.mono _) hST.sub_hp) hr2)) (fun W3 v6 μ4 L8 hST hle5 hlift hK7 => ?_))
  obtain ⟨b9, y10, S11, y13, S14, y16, S17, y19, S20, y22, S23, hv25, rfl, hy12, hy15, hy18, hy21, hy24⟩ := hK7
  replace hv25 := hv25.symm; subst hv25
  simp only [List.append_assoc, List.cons_append, List.nil_append] at hST
  refine LV (R_move (v := v_a1) rfl) ?_
  replace hST : ST false NoF w _ _ ((b9, Obj.cells (#[y10, y13, y16, y19, y22, (.int .i64 (r1.2.2.2.2.2))] : Array Value) 134 (0, 0)) :: (S11 ++ (S14 ++ (S17 ++ (S20 ++ (S23 ++ [])))))) := hST
  obtain ⟨r26, hr27, hm⟩ := bind_some hm
  have hsz := hST.size
  refine LE (E_callM (args := [v_a1]) (caps := #[]) [] (((b9, Obj.cells (#[y10, y13, y16, y19, y22, (.int .i64 (r1.2.2.2.2.2))] : Array Value) 134 (0, 0)) :: (S11 ++ (S14 ++ (S17 ++ (S20 ++ (S23 ++ []))))))) hST (List.Perm.refl _) rfl Tryz.call31 (by exact args1 rfl) (fun _ _ _ _ => (w_model_Of v_a1 a1 _ _ (h_a1.mono (Pl.mono _) (hle5.trans hST.sub_hp)) hr27)) (fun W28 v31 μ29 L33 hST hle30 hlift hK32 => ?_))
  obtain ⟨b34, y35, S36, y38, S39, y41, S42, y44, S45, y47, S48, hv50, rfl, hy37, hy40, hy43, hy46, hy49⟩ := hK32
  replace hv50 := hv50.symm; subst hv50
  simp only [List.append_assoc, List.cons_append, List.nil_append] at hST
  replace hST : ST false NoF w _ _ ((b34, Obj.cells (#[y35, y38, y41, y44, y47, (.int .i64 (r26.2.2.2.2.2))] : Array Value) 134 (0, 0)) :: ((b9, Obj.cells (#[y10, y13, y16, y19, y22, (.int .i64 (r1.2.2.2.2.2))] : Array Value) 134 (0, 0)) :: (S36 ++ (S39 ++ (S42 ++ (S45 ++ (S48 ++ (S11 ++ (S14 ++ (S17 ++ (S20 ++ (S23 ++ [])))))))))))) := hST.perm (permD [[(b34, Obj.cells (#[y35, y38, y41, y44, y47, (.int .i64 (r26.2.2.2.2.2))] : Array Value) 134 (0, 0))], S36, S39, S42, S45, S48, [(b9, Obj.cells (#[y10, y13, y16, y19, y22, (.int .i64 (r1.2.2.2.2.2))] : Array Value) 134 (0, 0))]] [0, 1, 2, 3, 4, 5, 6] [0, 6, 1, 2, 3, 4, 5] ((S11 ++ (S14 ++ (S17 ++ (S20 ++ (S23 ++ [])))))) (by decide) rfl rfl)
  refine LV (R_assign (v := (.pointer (some ⟨b9, 0, none⟩))) rfl) ?_
  refine LV (R_assign (v := (.pointer (some ⟨b34, 0, none⟩))) rfl) ?_
  refine LW_nil ?_
  refine sq_n ?_
  refine CW_seq ?_
  refine CW_region ?_
  refine LV (R_move (v := (.pointer (some ⟨b34, 0, none⟩))) rfl) ?_
  refine LV (R_move (v := (.pointer (some ⟨b9, 0, none⟩))) rfl) ?_
  obtain ⟨r51, hr52, hm⟩ := bind_some hm
  refine LE (E_givesRow (args := [(.pointer (some ⟨b34, 0, none⟩)), (.pointer (some ⟨b9, 0, none⟩))]) [_, _] _ hST rfl Tryz.call103 (by exact args2 rfl rfl) (GivesRow.weak (w_merge_lost b34 y35 r26.1 y38 r26.2.1 y41 r26.2.2.1 y44 r26.2.2.2.1 y47 r26.2.2.2.2.1 r26.2.2.2.2.2 b9 y10 r1.1 y13 r1.2.1 y16 r1.2.2.1 y19 r1.2.2.2.1 y22 r1.2.2.2.2.1 r1.2.2.2.2.2 _ _ (hy37.at (fun b o hq => hST.at_ (.tail _ (.tail _ (List.mem_append_left _ hq))))) (hy40.sl lenCred (fun b o hq => hST.at_ (.tail _ (.tail _ (List.mem_append_right _ (List.mem_append_left _ hq)))))) (hy43.at (fun b o hq => hST.at_ (.tail _ (.tail _ (List.mem_append_right _ (List.mem_append_right _ (List.mem_append_left _ hq))))))) (hy46.at (fun b o hq => hST.at_ (.tail _ (.tail _ (List.mem_append_right _ (List.mem_append_right _ (List.mem_append_right _ (List.mem_append_left _ hq)))))))) ((hy49.slL lenFact).mono (Pl.mono _) (memL_held (fun b o hq => hST.at_ (.tail _ (.tail _ (List.mem_append_right _ (List.mem_append_right _ (List.mem_append_right _ (List.mem_append_right _ (List.mem_append_left _ hq)))))))))) (At.of (hST.at_ (.head _)) _ rfl) (hy12.at (fun b o hq => hST.at_ (.tail _ (.tail _ (List.mem_append_right _ (List.mem_append_right _ (List.mem_append_right _ (List.mem_append_right _ (List.mem_append_right _ (List.mem_append_left _ hq)))))))))) (hy15.sl lenCred (fun b o hq => hST.at_ (.tail _ (.tail _ (List.mem_append_right _ (List.mem_append_right _ (List.mem_append_right _ (List.mem_append_right _ (List.mem_append_right _ (List.mem_append_right _ (List.mem_append_left _ hq))))))))))) (hy18.at (fun b o hq => hST.at_ (.tail _ (.tail _ (List.mem_append_right _ (List.mem_append_right _ (List.mem_append_right _ (List.mem_append_right _ (List.mem_append_right _ (List.mem_append_right _ (List.mem_append_right _ (List.mem_append_left _ hq)))))))))))) (hy21.at (fun b o hq => hST.at_ (.tail _ (.tail _ (List.mem_append_right _ (List.mem_append_right _ (List.mem_append_right _ (List.mem_append_right _ (List.mem_append_right _ (List.mem_append_right _ (List.mem_append_right _ (List.mem_append_right _ (List.mem_append_left _ hq))))))))))))) ((hy24.slL lenFact).mono (Pl.mono _) (memL_held (fun b o hq => hST.at_ (.tail _ (.tail _ (List.mem_append_right _ (List.mem_append_right _ (List.mem_append_right _ (List.mem_append_right _ (List.mem_append_right _ (List.mem_append_right _ (List.mem_append_right _ (List.mem_append_right _ (List.mem_append_right _ (List.mem_append_left _ hq))))))))))))))) (At.of (hST.at_ (.tail _ (.head _))) _ rfl) hr52)) (fun W53 v56 μ54 R57 hST hle55 hR58 => ?_))
  refine LV (R_move (v := (.pointer (some ⟨b9, 0, none⟩))) rfl) ?_
  refine LV (R_move (v := (.pointer (some ⟨b34, 0, none⟩))) rfl) ?_
  replace hST : ST false NoF w _ _ ((b34, Obj.cells (#[y35, y38, y41, y44, y47, (.int .i64 (r26.2.2.2.2.2))] : Array Value) 134 (0, 0)) :: ((b9, Obj.cells (#[y10, y13, y16, y19, y22, (.int .i64 (r1.2.2.2.2.2))] : Array Value) 134 (0, 0)) :: (R57 ++ (S36 ++ (S39 ++ (S42 ++ (S45 ++ (S48 ++ (S11 ++ (S14 ++ (S17 ++ (S20 ++ (S23 ++ []))))))))))))) := hST
  obtain ⟨r59, hr60, hm⟩ := bind_some hm
  refine LE (E_givesRow (args := [(.pointer (some ⟨b9, 0, none⟩)), (.pointer (some ⟨b34, 0, none⟩))]) [_, _] _ hST rfl Tryz.call103 (by exact args2 rfl rfl) (GivesRow.weak (w_merge_lost b9 y10 r1.1 y13 r1.2.1 y16 r1.2.2.1 y19 r1.2.2.2.1 y22 r1.2.2.2.2.1 r1.2.2.2.2.2 b34 y35 r26.1 y38 r26.2.1 y41 r26.2.2.1 y44 r26.2.2.2.1 y47 r26.2.2.2.2.1 r26.2.2.2.2.2 _ _ (hy12.at (fun b o hq => hST.at_ (.tail _ (.tail _ (List.mem_append_right _ (List.mem_append_right _ (List.mem_append_right _ (List.mem_append_right _ (List.mem_append_right _ (List.mem_append_right _ (List.mem_append_left _ hq))))))))))) (hy15.sl lenCred (fun b o hq => hST.at_ (.tail _ (.tail _ (List.mem_append_right _ (List.mem_append_right _ (List.mem_append_right _ (List.mem_append_right _ (List.mem_append_right _ (List.mem_append_right _ (List.mem_append_right _ (List.mem_append_left _ hq)))))))))))) (hy18.at (fun b o hq => hST.at_ (.tail _ (.tail _ (List.mem_append_right _ (List.mem_append_right _ (List.mem_append_right _ (List.mem_append_right _ (List.mem_append_right _ (List.mem_append_right _ (List.mem_append_right _ (List.mem_append_right _ (List.mem_append_left _ hq))))))))))))) (hy21.at (fun b o hq => hST.at_ (.tail _ (.tail _ (List.mem_append_right _ (List.mem_append_right _ (List.mem_append_right _ (List.mem_append_right _ (List.mem_append_right _ (List.mem_append_right _ (List.mem_append_right _ (List.mem_append_right _ (List.mem_append_right _ (List.mem_append_left _ hq)))))))))))))) ((hy24.slL lenFact).mono (Pl.mono _) (memL_held (fun b o hq => hST.at_ (.tail _ (.tail _ (List.mem_append_right _ (List.mem_append_right _ (List.mem_append_right _ (List.mem_append_right _ (List.mem_append_right _ (List.mem_append_right _ (List.mem_append_right _ (List.mem_append_right _ (List.mem_append_right _ (List.mem_append_right _ (List.mem_append_left _ hq)))))))))))))))) (At.of (hST.at_ (.tail _ (.head _))) _ rfl) (hy37.at (fun b o hq => hST.at_ (.tail _ (.tail _ (List.mem_append_right _ (List.mem_append_left _ hq)))))) (hy40.sl lenCred (fun b o hq => hST.at_ (.tail _ (.tail _ (List.mem_append_right _ (List.mem_append_right _ (List.mem_append_left _ hq))))))) (hy43.at (fun b o hq => hST.at_ (.tail _ (.tail _ (List.mem_append_right _ (List.mem_append_right _ (List.mem_append_right _ (List.mem_append_left _ hq)))))))) (hy46.at (fun b o hq => hST.at_ (.tail _ (.tail _ (List.mem_append_right _ (List.mem_append_right _ (List.mem_append_right _ (List.mem_append_right _ (List.mem_append_left _ hq))))))))) ((hy49.slL lenFact).mono (Pl.mono _) (memL_held (fun b o hq => hST.at_ (.tail _ (.tail _ (List.mem_append_right _ (List.mem_append_right _ (List.mem_append_right _ (List.mem_append_right _ (List.mem_append_right _ (List.mem_append_left _ hq))))))))))) (At.of (hST.at_ (.head _)) _ rfl) hr60)) (fun W61 v64 μ62 R65 hST hle63 hR66 => ?_))
  refine LV (R_assign (v := v56) rfl) ?_
  refine LV (R_assign (v := v64) rfl) ?_
  refine LW_nil ?_
  refine sq_n ?_
  replace hST : ST false NoF w _ _ ((b34, Obj.cells (#[y35, y38, y41, y44, y47, (.int .i64 (r26.2.2.2.2.2))] : Array Value) 134 (0, 0)) :: ((b9, Obj.cells (#[y10, y13, y16, y19, y22, (.int .i64 (r1.2.2.2.2.2))] : Array Value) 134 (0, 0)) :: (R65 ++ (R57 ++ (S36 ++ (S39 ++ (S42 ++ (S45 ++ (S48 ++ (S11 ++ (S14 ++ (S17 ++ (S20 ++ (S23 ++ [])))))))))))))) := hST
  replace hST : ST false NoF w _ _ (R65 ++ (R57 ++ [])) := hST.sublist (List.Sublist.cons _ (List.Sublist.cons _ (List.Sublist.append (List.Sublist.refl _) (List.Sublist.append (List.Sublist.refl _) (((((((((((List.Sublist.refl _).trans (List.sublist_append_right _ _)).trans (List.sublist_append_right _ _)).trans (List.sublist_append_right _ _)).trans (List.sublist_append_right _ _)).trans (List.sublist_append_right _ _)).trans (List.sublist_append_right _ _)).trans (List.sublist_append_right _ _)).trans (List.sublist_append_right _ _)).trans (List.sublist_append_right _ _)).trans (List.sublist_append_right _ _))))))
  refine CW_ret ?_
  replace hm := Option.some.inj hm; subst hm
  refine retQ_2 (v := v56) (u := v64) rfl rfl rfl ?_
  replace hST : ST false NoF w _ _ (R65 ++ (R57 ++ [])) := hST
  exact ⟨_, (R57 ++ (R65 ++ [])), rfl, (ST.backL (L1 := (R57 ++ (R65 ++ []))) (by have hh : ST false NoF w _ _ (R57 ++ (R65 ++ [])) := hST.perm (permD [R65, R57] [0, 1] [1, 0] ([]) (by decide) rfl rfl); simpa only [List.append_assoc, List.cons_append, List.nil_append] using hh)), v56, R57, v64, R65, rfl, rfl, hR58, hR66⟩
theorem w_slices_Grow_Cred_nil (a1 : Int) (r : List Cred) (w : World)  (hm : m_slices_Grow_Cred_nil a1 = some r) :
    GivesRow true Tryz.prog 150 [(.slice none 0 0), (.int .i64 a1)] w 83 encCred 9 r := by
  have hST := ST.start (dd := true) w
  unfold m_slices_Grow_Cred_nil at hm
  refine calls_of_CW (n := 27) Tryz.func150 rfl rfl (Nat.le_of_ble_eq_true rfl) ?_
  refine CW_seq ?_
  refine CW_region ?_
  refine LV (R_assign (v := (.slice none 0 0)) rfl) ?_
  refine LW_nil ?_
  refine sq_n ?_
  refine CW_seq ?_
  refine CW_seq ?_
  refine CW_region ?_
  refine LV (R_move (v := (.int .i64 a1)) rfl) ?_
  refine LV (R_int (k := .i64) (a := a1) (b := 0) (v := (.bool ((decide (a1 < 0))))) rfl rfl rfl) ?_
  refine LW_nil ?_
  refine sq_n ?_
  refine CW_if (b := (decide (a1 < 0))) rfl (fun hb1 => ?_) (fun hb1 => ?_)
  · replace hm := if_t hb1 hm
    cases hm
  · replace hm := if_f hb1 hm
    refine CW_skip ?_
    refine sq_n ?_
    refine CW_seq ?_
    obtain ⟨s21, hm22, hm23⟩ := bind_some hm
    refine CW_cut (fun E W => ∃ (v14 : Value) (l15 : List Cred) (R17 : List (Nat × Obj)) (L18 : List (Nat × Obj)), ST true NoF w W (hp w) (R17 ++ L18) ∧ E 0 = v14 ∧ Row 83 encCred 9 v14 l15 R17 ∧ some l15 = some r) ?_ ?_
    · refine CW_seq ?_
      refine CW_region ?_
      refine LV (R_move (v := (.int .i64 a1)) rfl) ?_
      refine LV (R_move (v := (.slice none 0 0)) rfl) ?_
      refine LV (R_capNil Tryz.underlying22 rfl) ?_
      refine LV (R_move (v := (.slice none 0 0)) rfl) ?_
      refine LV (R_lenSl Tryz.underlying22 rfl) ?_
      refine LV (R_int (k := .i64) (a := 0) (b := 0) (v := (.int .i64 ((IntKind.i64.wrap (0 - 0))))) rfl rfl rfl) ?_
      refine LV (R_int (k := .i64) (a := a1) (b := ((IntKind.i64.wrap (0 - 0)))) (v := (.int .i64 ((IntKind.i64.wrap (a1 - ((IntKind.i64.wrap (0 - 0)))))))) rfl rfl rfl) ?_
      refine LV (R_assign (v := (.int .i64 ((IntKind.i64.wrap (a1 - ((IntKind.i64.wrap (0 - 0)))))))) rfl) ?_
      refine LW_nil ?_
      refine sq_n ?_
      refine CW_seq ?_
      refine CW_region ?_
      refine LV (R_move (v := (.int .i64 ((IntKind.i64.wrap (a1 - ((IntKind.i64.wrap (0 - 0)))))))) rfl) ?_
      refine LV (R_int (k := .i64) (a := ((IntKind.i64.wrap (a1 - ((IntKind.i64.wrap (0 - 0))))))) (b := 0) (v := (.bool ((decide (((IntKind.i64.wrap (a1 - ((IntKind.i64.wrap (0 - 0)))))) > 0))))) rfl rfl rfl) ?_
      refine LW_nil ?_
      refine sq_n ?_
      refine CW_if (b := (decide (((IntKind.i64.wrap (a1 - ((IntKind.i64.wrap (0 - 0)))))) > 0))) rfl (fun hb24 => ?_) (fun hb24 => ?_)
      · replace hm22 := if_t hb24 hm22
        refine CW_region ?_
        refine LV (R_move (v := (.slice none 0 0)) rfl) ?_
        refine LV (R_move (v := (.slice none 0 0)) rfl) ?_
        refine LV (R_capNil Tryz.underlying22 rfl) ?_
        refine LV (R_sliceNil Tryz.underlying22 Tryz.sizeOf83 rfl rfl) ?_
        refine LV (R_move (v := (.int .i64 ((IntKind.i64.wrap (a1 - ((IntKind.i64.wrap (0 - 0)))))))) rfl) ?_
        obtain ⟨l27, hb28, hm22⟩ := bind_some hm22
        refine LE (E_appendMake (enc := encCred) (z := (⟨0, (⟨zS, zS⟩ : Role), zS, (⟨zS, zS⟩ : Role), (⟨zS, zS⟩ : Role), zS⟩ : Cred)) [] hST lenCred (by decide) Tryz.underlying22 Tryz.underlying3 info83.1 info83.2.1 info83.2.2.1 info83.2.2.2 rfl rfl rfl hb28 (fun W29 v32 R30 hST hR31 => ?_))
        refine LV (R_move (v := (.slice none 0 0)) rfl) ?_
        refine LV (R_lenSl Tryz.underlying22 rfl) ?_
        obtain ⟨_, hg35, hm22⟩ := bind_some hm22
        refine LQ (R_sliceTo (i := 0) Tryz.underlying22 Tryz.sizeOf83 rfl rfl hR31 lenCred (chk_1 hg35) (chk_2 hg35)) (fun v33 hs34 => ?_)
        refine LV (R_assign (v := v33) rfl) ?_
        refine LW_nil ?_
        refine sq_n ?_
        replace hm22 := Option.some.inj hm22; subst hm22
        replace hST : ST true NoF w _ _ (R30 ++ []) := hST
        exact ⟨v33, ((l27.take (Int.toNat 0))), R30, _, (hST.sublist (List.Sublist.refl _)), rfl, hs34, hm23⟩
      · replace hm22 := if_f hb24 hm22
        refine CW_skip ?_
        refine sq_n ?_
        replace hm22 := Option.some.inj hm22; subst hm22
        exact ⟨(.slice none 0 0), ([]), [], _, (hST.sublist (List.Sublist.refl _)), rfl, (Row.nil _ _ _), hm23⟩
    · rintro E W ⟨v14, l15, R17, L18, hST, e20, hs16, hm19⟩
      refine CW_seq ?_
      refine CW_region ?_
      refine LV (R_move (v := v14) e20) ?_
      refine LV (R_assign (v := v14) rfl) ?_
      refine LW_nil ?_
      refine sq_n ?_
      refine CW_ret ?_
      replace hm19 := Option.some.inj hm19; subst hm19
      refine retQ_1 (v := v14) rfl rfl ?_
      exact ⟨_, R17, rfl, hST.backRow (fun p hq => by simp [hq]) hs16.nd, hs16⟩
theorem w_slices_Concat_Cred (v_a0 : Value) (a0 : List (List Cred)) (r : List Cred) (w : World) (h_a0 : Sl (SlR encCred 9) 1 (hp w) v_a0 a0) (hm : m_slices_Concat_Cred a0 = some r) :
    GivesRow true Tryz.prog 104 [v_a0] w 83 encCred 9 r := by
  have hST := ST.start (dd := true) w
  unfold m_slices_Concat_Cred at hm
  refine calls_of_CW (n := 36) Tryz.func104 rfl rfl (Nat.le_of_ble_eq_true rfl) ?_
  refine CW_seq ?_
  refine CW_region ?_
  refine LV (R_assign (v := (.slice none 0 0)) rfl) ?_
  refine LW_nil ?_
  refine sq_n ?_
  refine CW_seq ?_
  refine CW_region ?_
  refine LV (R_assign (v := (.int .i64 0)) rfl) ?_
  refine LW_nil ?_
  refine sq_n ?_
  refine CW_seq ?_
  refine CW_seq ?_
  refine CW_region ?_
  refine LV (R_move (v := v_a0) rfl) ?_
  refine LV (R_len Tryz.underlying178 rfl h_a0) ?_
  refine LV (R_move (v := (.int .i64 0)) rfl) ?_
  refine LW_nil ?_
  refine sq_n ?_
  refine CW_range (fun i E W => ∃ (x49 : Int) (L60 : List (Nat × Obj)), (E 11 = .int .i64 (i : Nat) ∧ E 10 = .int .i64 (a0.length : Nat)) ∧ ST true NoF w W (hp w) L60 ∧ E 0 = v_a0 ∧ E 3 = (.int .i64 x49) ∧ E 9 = v_a0 ∧ m_slices_Concat_Cred_L1 a0 (a0.drop i) x49 = some r) a0.length h_a0.len ⟨0, _, ⟨rfl, rfl⟩, (hST.sublist (List.Sublist.refl _)), rfl, rfl, rfl, hm⟩ (by decide) (by decide) (by decide) (fun _ _ _ h => by obtain ⟨_, _, eIN, _⟩ := h; exact eIN) ?_ ?_
  · rintro i36 E W hi42 ⟨x49, L60, ⟨eI, eN⟩, hST, e62, e63, e64, hm61⟩
    obtain ⟨x37, xs38, hx40, hx39, hx41⟩ := drop_cons hi42
    rw [hx40] at hm61
    rw [m_slices_Concat_Cred_L1] at hm61
    refine CW_block ?_
    refine CW_seq ?_
    refine CW_region ?_
    refine LQ (R_indexN (enc := encCred) (k2 := 9) (i := (i36 : Int)) (x0 := x37) Tryz.underlying178 Tryz.sizeOf22 e64 eI h_a0 (Int.natCast_nonneg _) hx39) (fun p65 ⟨v68, hp66, hs69⟩ => ?_)
    refine LV (R_load rfl (load_at1 hST.has (y := v68) hp66 Tryz.isAgg22)) ?_
    refine LV (R_assign (v := v68) rfl) ?_
    refine LW_nil ?_
    refine sq_n ?_
    refine CW_seq ?_
    refine CW_region ?_
    refine LV (R_move (v := (.int .i64 x49)) e63) ?_
    refine LV (R_move (v := v68) rfl) ?_
    refine LV (R_len Tryz.underlying22 rfl hs69) ?_
    refine LV (R_int (k := .i64) (a := x49) (b := ((x37.length : Int))) (v := (.int .i64 ((IntKind.i64.wrap (x49 + ((x37.length : Int))))))) rfl rfl rfl) ?_
    refine LV (R_assign (v := (.int .i64 ((IntKind.i64.wrap (x49 + ((x37.length : Int))))))) rfl) ?_
    refine LW_nil ?_
    refine sq_n ?_
    refine CW_seq ?_
    refine CW_region ?_
    refine LV (R_move (v := (.int .i64 ((IntKind.i64.wrap (x49 + ((x37.length : Int))))))) rfl) ?_
    refine LV (R_int (k := .i64) (a := ((IntKind.i64.wrap (x49 + ((x37.length : Int)))))) (b := 0) (v := (.bool ((decide (((IntKind.i64.wrap (x49 + ((x37.length : Int))))) < 0))))) rfl rfl rfl) ?_
    refine LW_nil ?_
    refine sq_n ?_
    refine CW_if (b := (decide (((IntKind.i64.wrap (x49 + ((x37.length : Int))))) < 0))) rfl (fun hb70 => ?_) (fun hb70 => ?_)
    · replace hm61 := if_t hb70 hm61
      cases hm61
    · replace hm61 := if_f hb70 hm61
      refine CW_skip ?_
      refine bq_n ?_
      refine sq_n ?_
      exact ⟨eI, ((IntKind.i64.wrap (x49 + ((x37.length : Int))))), _, ⟨rfl, eN⟩, (hST.sublist (List.Sublist.refl _)), e62, rfl, e64, (by rw [hx41]; exact hm61)⟩
  · rintro E W ⟨x49, L60, ⟨eI, eN⟩, hST, e62, e63, e64, hm61⟩
    rw [List.drop_length] at hm61
    rw [m_slices_Concat_Cred_L1] at hm61
    refine sq_n ?_
    refine CW_seq ?_
    refine CW_region ?_
    refine LV (R_move (v := (.int .i64 x49)) e63) ?_
    obtain ⟨r71, hr72, hm61⟩ := bind_some hm61
    refine LE (E_givesRow (args := [(.slice none 0 0), (.int .i64 x49)]) [] _ hST rfl Tryz.call150 (by exact args2 rfl rfl) ((w_slices_Grow_Cred_nil x49 _ _  hr72)) (fun W73 v76 μ74 R77 hST hle75 hR78 => ?_))
    refine LV (R_assign (v := v76) rfl) ?_
    refine LW_nil ?_
    refine sq_n ?_
    refine CW_seq ?_
    refine CW_seq ?_
    refine CW_region ?_
    refine LV (R_move (v := v_a0) e62) ?_
    refine LV (R_len Tryz.underlying178 rfl h_a0) ?_
    refine LV (R_move (v := (.int .i64 0)) rfl) ?_
    refine LW_nil ?_
    refine sq_n ?_
    obtain ⟨s140, hm141, hm142⟩ := bind_some hm61
    refine CW_cut (fun E W => ∃ (v133 : Value) (l134 : List Cred) (R136 : List (Nat × Obj)) (L137 : List (Nat × Obj)), ST true NoF w W μ74 (R136 ++ L137) ∧ E 6 = v133 ∧ Row 83 encCred 9 v133 l134 R136 ∧ some l134 = some r) ?_ ?_
    · replace hST : ST true NoF w _ _ (R77 ++ L60) := hST
      refine CW_range (fun i E W => ∃ (v161 : Value) (l162 : List Cred) (R164 : List (Nat × Obj)) (L182 : List (Nat × Obj)), (E 27 = .int .i64 (i : Nat) ∧ E 26 = .int .i64 (a0.length : Nat)) ∧ ST true NoF w W μ74 (R164 ++ L182) ∧ E 6 = v161 ∧ E 25 = v_a0 ∧ Row 83 encCred 9 v161 l162 R164 ∧ m_slices_Concat_Cred_L2 (a0.drop i) l162 = some s140) a0.length h_a0.len ⟨v76, r71, R77, _, ⟨rfl, rfl⟩, (hST.sublist (List.Sublist.refl _)), rfl, rfl, hR78, hm141⟩ (by decide) (by decide) (by decide) (fun _ _ _ h => by obtain ⟨_, _, _, _, eIN, _⟩ := h; exact eIN) ?_ ?_
      · rintro i143 E W hi149 ⟨v161, l162, R164, L182, ⟨eI, eN⟩, hST, e184, e185, hs163, hm183⟩
        obtain ⟨x144, xs145, hx147, hx146, hx148⟩ := drop_cons hi149
        rw [hx147] at hm183
        rw [m_slices_Concat_Cred_L2] at hm183
        refine CW_block ?_
        refine CW_seq ?_
        refine CW_region ?_
        refine LQ (R_indexN (enc := encCred) (k2 := 9) (i := (i143 : Int)) (x0 := x144) Tryz.underlying178 Tryz.sizeOf22 e185 eI (h_a0.mono (SlR.mono _ _) hle75) (Int.natCast_nonneg _) hx146) (fun p186 ⟨v189, hp187, hs190⟩ => ?_)
        refine LV (R_load rfl (load_at1 hST.has (y := v189) hp187 Tryz.isAgg22)) ?_
        refine LV (R_assign (v := v189) rfl) ?_
        refine LW_nil ?_
        refine sq_n ?_
        refine CW_region ?_
        refine LV (R_move (v := v161) e184) ?_
        refine LV (R_move (v := v189) rfl) ?_
        obtain ⟨l191, hb192, hm183⟩ := bind_some hm183
        refine LE (E_append (enc := encCred) (v := v161) (vs := v189) (R := R164) [] hST lenCred (by decide) oneCred Tryz.underlying22 info83.1 info83.2.1 rfl info83.2.2.1 info83.2.2.2 rfl rfl hs163 (hs190.mono (Pl.mono _) hST.sub_hp) hb192 (fun W193 v196 R194 hST hR195 => ?_))
        refine LV (R_assign (v := v196) rfl) ?_
        refine LW_nil ?_
        refine bq_n ?_
        refine sq_n ?_
        replace hST : ST true NoF w _ _ (R194 ++ L182) := hST
        exact ⟨eI, v196, l191, R194, _, ⟨rfl, eN⟩, (hST.sublist (List.Sublist.refl _)), rfl, e185, hR195, (by rw [hx148]; exact hm183)⟩
      · rintro E W ⟨v161, l162, R164, L182, ⟨eI, eN⟩, hST, e184, e185, hs163, hm183⟩
        rw [List.drop_length] at hm183
        rw [m_slices_Concat_Cred_L2] at hm183
        refine sq_n ?_
        replace hm183 := Option.some.inj hm183; subst hm183
        exact ⟨v161, l162, R164, _, (hST.sublist (List.Sublist.refl _)), e184, hs163, hm142⟩
    · rintro E W ⟨v133, l134, R136, L137, hST, e139, hs135, hm138⟩
      refine CW_seq ?_
      refine CW_region ?_
      refine LV (R_move (v := v133) e139) ?_
      refine LV (R_assign (v := v133) rfl) ?_
      refine LW_nil ?_
      refine sq_n ?_
      refine CW_ret ?_
      replace hm138 := Option.some.inj hm138; subst hm138
      refine retQ_1 (v := v133) rfl rfl ?_
      exact ⟨_, R136, rfl, hST.backRow (fun p hq => by simp [hq]) hs135.nd, hs135⟩
theorem w_merge_Apply (v_a0 : Value) (a0 : List Cred) (v_a1_Came : Value) (a1_Came : List Cred) (v_a1_Went : Value) (a1_Went : List Cred) (r : List Cred) (w : World) (h_a0 : Sl (Pl encCred) 9 (hp w) v_a0 a0) (h_a1_Came : Sl (Pl encCred) 9 (hp w) v_a1_Came a1_Came) (h_a1_Went : Sl (Pl encCred) 9 (hp w) v_a1_Went a1_Went) (hm : m_merge_Apply a0 a1_Came a1_Went = some r) :
    GivesRow true Tryz.prog 48 [v_a0, (.agg #[v_a1_Came, v_a1_Went])] w 83 encCred 9 r := by
  have hST := ST.start (dd := true) w
  unfold m_merge_Apply at hm
  refine calls_of_CW (n := 14) Tryz.func48 rfl rfl (Nat.le_of_ble_eq_true rfl) ?_
  refine CW_seq ?_
  refine CW_region ?_
  obtain ⟨A1, c2, rfl⟩ := h_a1_Came.form
  obtain ⟨A3, c4, rfl⟩ := h_a1_Went.form
  refine LE (E_box (v := (.agg #[(.slice A1 a1_Came.length c2), (.slice A3 a1_Went.length c4)])) hST rfl (fun W6 b5 hST => ?_))
  refine LV (R_assign (v := (.slice none 0 0)) rfl) ?_
  refine LW_nil ?_
  refine sq_n ?_
  refine CW_seq ?_
  refine PX_start (fun l W => Has (hp w) ((b5, Obj.cells (#[(.slice A1 a1_Came.length c2), (.slice A3 a1_Went.length c4)] : Array Value) 70 (0, 0)) :: []) W) Tryz_mixed ?_
  replace hST := hST.drew
  have hS0 : Has (hp w) ((b5, Obj.cells (#[(.slice A1 a1_Came.length c2), (.slice A3 a1_Went.length c4)] : Array Value) 70 (0, 0)) :: []) _ := hST.has.sub (Sub.refl _) (fun p hq => ((List.mem_cons.1 hq).elim (fun hq => by rw [hq]; exact (.head _)) (fun hq => (absurd hq List.not_mem_nil))))
  refine PV 0 rfl hS0 (R_move (v := v_a0) rfl) ?_
  refine PV 1 rfl hS0 (R_field fa70_1 rfl) ?_
  refine PX_v 2 rfl (by kernel_rfl) (.inl rfl) rfl (by decide) (fun _ _ h => h) hS0 (fun l W hpd hs => have hS := hs; R_load (v := (.slice A3 a1_Went.length c4)) rfl (load_box1 hS (.head _) rfl Tryz.isAgg22)) ?_
  refine PV 4 rfl hS0 (R_field fa70_0 rfl) ?_
  refine PX_v 5 rfl (by kernel_rfl) (.inl rfl) rfl (by decide) (fun _ _ h => h) hS0 (fun l W hpd hs => have hS := hs; R_load (v := (.slice A1 a1_Came.length c2)) rfl (load_box1 hS (.head _) rfl Tryz.isAgg22)) ?_
  obtain ⟨r63, hr64, hm⟩ := bind_some hm
  refine PX_e 3 rfl (by kernel_rfl) (.inl rfl) rfl (by decide) (E_givesRow (args := [v_a0, (.slice A3 a1_Went.length c4)]) [_] _ hST rfl Tryz.call105 (by exact args2 rfl rfl) ((w_merge_minus v_a0 a0 (.slice A3 a1_Went.length c4) a1_Went _ _ (h_a0.mono (Pl.mono _) hST.sub_hp) (h_a1_Went.mono (Pl.mono _) hST.sub_hp) hr64)) (fun W65 v68 μ66 R69 hST hle67 hR70 => ?_))
  replace hST : ST true NoF w _ _ ((b5, Obj.cells (#[(.slice A1 a1_Came.length c2), (.slice A3 a1_Went.length c4)] : Array Value) 70 (0, 0)) :: (R69 ++ [])) := hST
  have hS0 : Has (hp w) ((b5, Obj.cells (#[(.slice A1 a1_Came.length c2), (.slice A3 a1_Went.length c4)] : Array Value) 70 (0, 0)) :: []) _ := hST.has.sub hle67 (fun p hq => ((List.mem_cons.1 hq).elim (fun hq => by rw [hq]; exact (.head _)) (fun hq => (absurd hq List.not_mem_nil))))
  refine ⟨hS0, ?_⟩
  obtain ⟨A71, c72, rfl⟩ := hR70.form
  refine PX_e 6 rfl (by kernel_rfl) (.inl rfl) rfl (by decide) (E_buildSlice (qs := #[(0, (.slice A71 r63.length c72)), (1, (.slice A1 a1_Came.length c2))]) (cs := #[(.slice A71 r63.length c72), (.slice A1 a1_Came.length c2)]) hST (parts2 rfl rfl) (run_lit [(.slice A71 r63.length c72), (.slice A1 a1_Came.length c2)] Tryz.underlying178 Tryz.sizeOf22 Tryz.zeroValue22 (by decide) rfl (by intro v hv; simp only [List.mem_cons, List.not_mem_nil, or_false] at hv; rcases hv with rfl | rfl <;> rfl) rfl rfl) (fun W74 b73 hST => ?_))
  have hS0 : Has (hp w) ((b5, Obj.cells (#[(.slice A1 a1_Came.length c2), (.slice A3 a1_Went.length c4)] : Array Value) 70 (0, 0)) :: []) _ := hST.has.sub hle67 (fun p hq => ((List.mem_cons.1 hq).elim (fun hq => by rw [hq]; exact (.tail _ (.head _))) (fun hq => (absurd hq List.not_mem_nil))))
  refine ⟨hS0, ?_⟩
  obtain ⟨r75, hr76, hm⟩ := bind_some hm
  refine PX_e 7 rfl (by kernel_rfl) (.inl rfl) rfl (by decide) (E_givesRow (args := [(.slice (some ⟨b73, 0, none⟩) 2 2)]) [_, _] _ hST rfl Tryz.call104 (by exact args1 rfl) ((w_slices_Concat_Cred (.slice (some ⟨b73, 0, none⟩) 2 2) ([r63, a1_Came]) _ _ (SlR.lit (l := [r63, a1_Came]) (vs := [(.slice A71 r63.length c72), (.slice A1 a1_Came.length c2)]) rfl (Nat.le_of_ble_eq_true rfl) (hST.at_ (.head _)) (.cons (hR70.sl lenCred (fun b o hq => hST.at_ (.tail _ (.tail _ (List.mem_append_left _ hq))))) (.cons (h_a1_Came.mono (Pl.mono _) (hle67.trans hST.sub_hp)) .nil))) hr76)) (fun W77 v80 μ78 R81 hST hle79 hR82 => ?_))
  replace hST : ST true NoF w _ _ ((b73, Obj.cells (#[(.slice A71 r63.length c72), (.slice A1 a1_Came.length c2)] : Array Value) 22 (0, 0)) :: ((b5, Obj.cells (#[(.slice A1 a1_Came.length c2), (.slice A3 a1_Went.length c4)] : Array Value) 70 (0, 0)) :: (R81 ++ (R69 ++ [])))) := hST
  have hS0 : Has (hp w) ((b5, Obj.cells (#[(.slice A1 a1_Came.length c2), (.slice A3 a1_Went.length c4)] : Array Value) 70 (0, 0)) :: []) _ := hST.has.sub (hle67.trans hle79) (fun p hq => ((List.mem_cons.1 hq).elim (fun hq => by rw [hq]; exact (.tail _ (.head _))) (fun hq => (absurd hq List.not_mem_nil))))
  refine ⟨hS0, ?_⟩
  obtain ⟨r83, hr84, hm⟩ := bind_some hm
  refine PX_e 8 rfl (by kernel_rfl) (.inl rfl) rfl (by decide) (E_givesRow (args := [v80]) [_, _] _ hST rfl Tryz.call77 (by exact args1 rfl) ((w_cred_Set v80 r75 _ _ (hR82.sl lenCred (fun b o hq => hST.at_ (.tail _ (.tail _ (List.mem_append_left _ hq))))) hr84)) (fun W85 v88 μ86 R89 hST hle87 hR90 => ?_))
  replace hST : ST true NoF w _ _ ((b73, Obj.cells (#[(.slice A71 r63.length c72), (.slice A1 a1_Came.length c2)] : Array Value) 22 (0, 0)) :: ((b5, Obj.cells (#[(.slice A1 a1_Came.length c2), (.slice A3 a1_Went.length c4)] : Array Value) 70 (0, 0)) :: (R89 ++ (R81 ++ (R69 ++ []))))) := hST
  have hS0 : Has (hp w) ((b5, Obj.cells (#[(.slice A1 a1_Came.length c2), (.slice A3 a1_Went.length c4)] : Array Value) 70 (0, 0)) :: []) _ := hST.has.sub ((hle67.trans hle79).trans hle87) (fun p hq => ((List.mem_cons.1 hq).elim (fun hq => by rw [hq]; exact (.tail _ (.head _))) (fun hq => (absurd hq List.not_mem_nil))))
  refine ⟨hS0, ?_⟩
  refine PV 9 rfl hS0 (R_assign (v := v88) rfl) ?_
  refine PX_done (by kernel_rfl) ?_
  refine sq_n ?_
  replace hST : ST true NoF w _ _ (R89 ++ []) := hST.sublist (List.Sublist.cons _ (List.Sublist.cons _ (List.Sublist.append (List.Sublist.refl _) (((List.Sublist.refl _).trans (List.sublist_append_right _ _)).trans (List.sublist_append_right _ _)))))
  refine CW_ret ?_
  replace hm := Option.some.inj hm; subst hm
  refine retQ_1 (v := v88) rfl rfl ?_
  exact ⟨_, R89, rfl, hST.backRow (fun p hq => by simp [hq]) hR90.nd, hR90⟩
theorem w_merge_Back (v_a0_Came : Value) (a0_Came : List Cred) (v_a0_Went : Value) (a0_Went : List Cred) (r : Unit) (w : World) (h_a0_Came : Sl (Pl encCred) 9 (hp w) v_a0_Came a0_Came) (h_a0_Went : Sl (Pl encCred) 9 (hp w) v_a0_Went a0_Went) (hm : m_merge_Back a0_Came a0_Went = some r) :
    GivesM true Tryz.prog 50 [(.agg #[v_a0_Came, v_a0_Went])] w [] (fun v L1 W' => v = (.agg #[v_a0_Went, v_a0_Came]) ∧ L1 = []) := by
  have hST := ST.start (dd := true) w
  unfold m_merge_Back at hm
  refine calls_of_CW (n := 8) Tryz.func50 rfl rfl (Nat.le_of_ble_eq_true rfl) ?_
  refine CW_seq ?_
  refine CW_region ?_
  obtain ⟨A1, c2, rfl⟩ := h_a0_Came.form
  obtain ⟨A3, c4, rfl⟩ := h_a0_Went.form
  refine LE (E_box (v := (.agg #[(.slice A1 a0_Came.length c2), (.slice A3 a0_Went.length c4)])) hST rfl (fun W6 b5 hST => ?_))
  refine LE (E_alloc hST Tryz.zeroValue70 (fun W8 b7 hST => ?_))
  refine LW_nil ?_
  refine sq_n ?_
  refine CW_seq ?_
  refine CW_region ?_
  refine LV (R_field fa70_1 rfl) ?_
  refine LV (R_load (v := (.slice A3 a0_Went.length c4)) rfl (load_box1 hST.has (.tail _ (.head _)) rfl Tryz.isAgg22)) ?_
  refine LV (R_field fa70_0 rfl) ?_
  refine LV (R_load (v := (.slice A1 a0_Came.length c2)) rfl (load_box1 hST.has (.tail _ (.head _)) rfl Tryz.isAgg22)) ?_
  refine LV (R_build (qs := #[(0, (.slice A3 a0_Went.length c4)), (1, (.slice A1 a0_Came.length c2))]) (v := (.agg #[(.slice A3 a0_Went.length c4), (.slice A1 a0_Came.length c2)])) (parts2 rfl rfl) (run_build Tryz.zeroValue70 Tryz.underlying70 (pl70 _ Tryz.underlying70) (by kernel_rfl))) ?_
  refine LW_e0 (.inl rfl) rfl (E_store [] (.agg #[(.slice A3 a0_Went.length c4), (.slice A1 a0_Came.length c2)]) (#[(.slice A3 a0_Went.length c4), (.slice A1 a0_Came.length c2)]) hST rfl rfl Tryz.sizeOf70 (by simp [Value.cells, Value.oneCell']) (Nat.le_of_ble_eq_true rfl) rfl (fun W9 hST => ?_))
  refine LW_nil ?_
  refine sq_n ?_
  replace hST : ST true NoF w _ _ ((b7, Obj.cells (#[(.slice A3 a0_Went.length c4), (.slice A1 a0_Came.length c2)] : Array Value) 70 (0, 0)) :: ((b5, Obj.cells (#[(.slice A1 a0_Came.length c2), (.slice A3 a0_Went.length c4)] : Array Value) 70 (0, 0)) :: [])) := hST
  replace hST : ST true NoF w _ _ ((b7, Obj.cells (#[(.slice A3 a0_Went.length c4), (.slice A1 a0_Came.length c2)] : Array Value) 70 (0, 0)) :: []) := hST.sublist (List.Sublist.cons_cons _ (List.Sublist.cons _ (List.Sublist.refl _)))
  refine CW_ret ?_
  replace hm := Option.some.inj hm; subst hm
  refine retQ_cell (v := (.agg #[(.slice A3 a0_Went.length c4), (.slice A1 a0_Came.length c2)])) rfl rfl (load_boxA hST.has (.head _) [(.slice A3 a0_Went.length c4), (.slice A1 a0_Came.length c2)] rfl Tryz.isAgg70 Tryz.sizeOf70) ?_
  replace hST : ST true NoF w _ _ ((b7, Obj.cells (#[(.slice A3 a0_Went.length c4), (.slice A1 a0_Came.length c2)] : Array Value) 70 (0, 0)) :: []) := hST
  exact ⟨_, [], rfl, (ST.backL (L1 := []) (by have hh : ST true NoF w _ _ ((b7, Obj.cells (#[(.slice A3 a0_Went.length c4), (.slice A1 a0_Came.length c2)] : Array Value) 70 (0, 0)) :: []) := hST.perm (List.Perm.refl _); simpa only [List.append_assoc, List.cons_append, List.nil_append] using hh)), rfl, rfl⟩
end Go.Proofs.YtfjdjbdnnoijgaaGreat
