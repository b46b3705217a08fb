/- a part of a proof of ModelLeast -/
import Derived.Test.YtfjdjbdnnoijgaaGC4W1x2
set_option linter.all false
namespace Go.Proofs.Ytfjdjbdnnoijgaa
open Go.RowKit
set_option maxRecDepth 10000
theorem w_model_Model_settle_w (b_a0 : Nat) (v_a0_in_ : Value) (a0_in_ : List (Role × (List (ByteArray × Bool)))) (R_a0_in_ : List (Nat × Obj)) (v_a0_creds : Value) (a0_creds : List Cred) (R_a0_creds : List (Nat × Obj)) (v_a0_uses : Value) (a0_uses : List (Role × (List Cred))) (R_a0_uses : List (Nat × Obj)) (v_a0_words : Value) (a0_words : List (ByteArray × (List Cred))) (R_a0_words : List (Nat × Obj)) (v_a0_todo : Value) (a0_todo : List Fact) (R_a0_todo : List (Nat × Obj)) (a0_n : Int) (r : ((List (Role × (List (ByteArray × Bool)))) × (List Fact) × Int)) (w : World) {μ0 : Mem} (hH : Held ((b_a0, Obj.cells (#[v_a0_in_, v_a0_creds, v_a0_uses, v_a0_words, v_a0_todo, (.int .i64 a0_n)] : Array Value) 53 (0, 0)) :: (R_a0_in_ ++ (R_a0_creds ++ (R_a0_uses ++ (R_a0_words ++ (R_a0_todo ++ [])))))) w) (hN : ((((b_a0, Obj.cells (#[v_a0_in_, v_a0_creds, v_a0_uses, v_a0_words, v_a0_todo, (.int .i64 a0_n)] : Array Value) 53 (0, 0)) :: (R_a0_in_ ++ (R_a0_creds ++ (R_a0_uses ++ (R_a0_words ++ (R_a0_todo ++ [])))))) : List (Nat × Obj)).map (·.1)).Nodup) (hS0 : Sub μ0 (hpx w ((b_a0, Obj.cells (#[v_a0_in_, v_a0_creds, v_a0_uses, v_a0_words, v_a0_todo, (.int .i64 a0_n)] : Array Value) 53 (0, 0)) :: (R_a0_in_ ++ (R_a0_creds ++ (R_a0_uses ++ (R_a0_words ++ (R_a0_todo ++ [])))))))) (h_a0_in_ : DeepE (fun (x : Role) => (.agg (encRole x).toArray)) (MapRow Value.string (fun (x : Bool) => (Value.bool x))) v_a0_in_ a0_in_ R_a0_in_) (h_a0_creds : Row 36 encCred 9 v_a0_creds a0_creds R_a0_creds) (h_a0_uses : DeepE (fun (x : Role) => (.agg (encRole x).toArray)) (Row 36 encCred 9) v_a0_uses a0_uses R_a0_uses) (h_a0_words : DeepE Value.string (Row 36 encCred 9) v_a0_words a0_words R_a0_words) (h_a0_todo : Que 43 encFact 3 v_a0_todo a0_todo R_a0_todo) (hm : m_model_Model_settle_w a0_in_ a0_creds a0_uses a0_words a0_todo a0_n = some r) :
    GivesM false Try.prog 26 [(.pointer (some ⟨b_a0, 0, none⟩))] w ((b_a0, Obj.cells (#[v_a0_in_, v_a0_creds, v_a0_uses, v_a0_words, v_a0_todo, (.int .i64 a0_n)] : Array Value) 53 (0, 0)) :: (R_a0_in_ ++ (R_a0_creds ++ (R_a0_uses ++ (R_a0_words ++ (R_a0_todo ++ [])))))) (fun v L1 W' => ∃ (S1 : List (Nat × Obj)) (y3 : Value) (S4 : List (Nat × Obj)), v = (.tuple #[]) ∧ L1 = ((b_a0, Obj.cells (#[v_a0_in_, v_a0_creds, v_a0_uses, v_a0_words, y3, (.int .i64 (r.2.2))] : Array Value) 53 (0, 0)) :: (S1 ++ (R_a0_creds ++ (R_a0_uses ++ (R_a0_words ++ (S4 ++ [])))))) ∧ DeepE (fun (x : Role) => (.agg (encRole x).toArray)) (MapRow Value.string (fun (x : Bool) => (Value.bool x))) v_a0_in_ r.1 S1 ∧ Que 43 encFact 3 y3 r.2.1 S4) := by
  have hST := (ST.startM (dd := false) hH hN).weak hS0
  unfold m_model_Model_settle_w at hm
  refine calls_of_CW (n := 75) Try.func26 rfl rfl (Nat.le_of_ble_eq_true rfl) ?_
  refine CW_tail ?_
  refine CW_block (CW_loop (fun m E W => ∃ (l2027 : List (Role × (List (ByteArray × Bool)))) (R2029 : List (Nat × Obj)) (v2030 : Value) (l2031 : List Fact) (R2033 : List (Nat × Obj)) (x2034 : Int) (μ2026 : Mem) (L2546 : List (Nat × Obj)), Sub μ0 μ2026 ∧ ST false (keys ((b_a0, Obj.cells (#[v_a0_in_, v_a0_creds, v_a0_uses, v_a0_words, v_a0_todo, (.int .i64 a0_n)] : Array Value) 53 (0, 0)) :: (R_a0_in_ ++ (R_a0_creds ++ (R_a0_uses ++ (R_a0_words ++ (R_a0_todo ++ []))))))) w W μ2026 ((b_a0, Obj.cells (#[v_a0_in_, v_a0_creds, v_a0_uses, v_a0_words, v2030, (.int .i64 x2034)] : Array Value) 53 (0, 0)) :: (R2029 ++ (R_a0_creds ++ (R_a0_uses ++ (R_a0_words ++ (R2033 ++ L2546)))))) ∧ E 0 = (.pointer (some ⟨b_a0, 0, none⟩)) ∧ DeepE (fun (x : Role) => (.agg (encRole x).toArray)) (MapRow Value.string (fun (x : Bool) => (Value.bool x))) v_a0_in_ l2027 R2029 ∧ Que 43 encFact 3 v2030 l2031 R2033 ∧ m_model_Model_settle_w_L1 a0_creds a0_uses a0_words m l2027 l2031 x2034 = some r) FUEL ⟨a0_in_, R_a0_in_, v_a0_todo, a0_todo, R_a0_todo, a0_n, μ0, _, (Sub.refl _), (hST.sublist (List.Sublist.refl _)), rfl, h_a0_in_, h_a0_todo, hm⟩ ?_)
  rintro m E W ⟨l2027, R2029, v2030, l2031, R2033, x2034, μ2026, L2546, hle2549, hST, e2550, hs2028, hs2032, hm2547⟩
  cases m with
  | zero => rw [m_model_Model_settle_w_L1] at hm2547; cases hm2547
  | succ n2548 =>
    rw [m_model_Model_settle_w_L1] at hm2547
    refine CW_seq ?_
    refine CW_seq ?_
    refine CW_region ?_
    refine LV (R_move (v := (.pointer (some ⟨b_a0, 0, none⟩))) e2550) ?_
    refine LV (R_nilCheck rfl) ?_
    refine LV (R_field fa53_4 rfl) ?_
    refine LV (R_load (v := v2030) rfl (load_box1 hST.has (.head _) rfl Try.isAgg28)) ?_
    refine LV (R_lenQue Try.underlying28 rfl hs2032) ?_
    refine LV (R_int (k := .i64) (a := ((l2031.length : Int))) (b := 0) (v := (.bool ((decide (((l2031.length : Int)) > 0))))) rfl rfl rfl) ?_
    refine LW_nil ?_
    refine sq_n ?_
    refine CW_if (b := (decide (((l2031.length : Int)) > 0))) rfl (fun hb2551 => ?_) (fun hb2551 => ?_)
    · replace hm2547 := if_t hb2551 hm2547
      refine CW_skip ?_
      refine sq_n ?_
      refine CW_block ?_
      refine CW_seq ?_
      refine CW_region ?_
      refine LV (R_move (v := (.pointer (some ⟨b_a0, 0, none⟩))) e2550) ?_
      refine LV (R_nilCheck rfl) ?_
      refine LV (R_field fa53_4 rfl) ?_
      refine LV (R_load (v := v2030) rfl (load_box1 hST.has (.head _) rfl Try.isAgg28)) ?_
      obtain ⟨x2555, hx2556, hm2547⟩ := bind_some hm2547
      refine LQ (R_indexP (enc := encFact) (i := 0) (x0 := x2555) Try.underlying28 Try.sizeOf43 rfl rfl (hs2032.slL lenFact) (idx_nonneg hx2556) (idx_get hx2556)) (fun p2552 hp2553 => ?_)
      refine LV (R_load rfl (load_atA (Has.hp _) (hp2553.mono (memL_held (fun b o hq => hST.has.2 b o (.tail _ (List.mem_append_right _ (List.mem_append_right _ (List.mem_append_right _ (List.mem_append_right _ (List.mem_append_left _ hq))))))))) Try.isAgg43 Try.sizeOf43)) ?_
      refine LE (E_alloc hST Try.zeroValue43 (fun W2558 b2557 hST => ?_))
      refine LW_e0 (.inl rfl) rfl (E_store [] (.agg (encFact x2555).toArray) ((encFact x2555).toArray) hST rfl rfl Try.sizeOf43 (oneFact x2555) (Nat.le_of_ble_eq_true rfl) rfl (fun W2559 hST => ?_))
      refine LW_nil ?_
      refine sq_n ?_
      refine CW_seq ?_
      refine CW_region ?_
      refine LV (R_move (v := (.pointer (some ⟨b_a0, 0, none⟩))) e2550) ?_
      refine LV (R_move (v := (.pointer (some ⟨b_a0, 0, none⟩))) e2550) ?_
      refine LV (R_nilCheck rfl) ?_
      refine LV (R_field fa53_4 rfl) ?_
      refine LV (R_load (v := v2030) rfl (load_box1 hST.has (.tail _ (.head _)) rfl Try.isAgg28)) ?_
      obtain ⟨_, hg2562, hm2547⟩ := bind_some hm2547
      refine LQ (R_sliceQue (i := 1) Try.underlying28 Try.sizeOf43 rfl rfl lenFact hs2032 (chk_1 hg2562) (chk_2 hg2562)) (fun v2560 hs2561 => ?_)
      refine LV (R_nilCheck rfl) ?_
      refine LV (R_field fa53_4 rfl) ?_
      obtain ⟨A2563, c2564, rfl⟩ := hs2561.form
      refine LW_e0 (.inl rfl) rfl (E_store [_] (.slice A2563 ((l2031.drop (Int.toNat 1))).length c2564) (#[v_a0_in_, v_a0_creds, v_a0_uses, v_a0_words, (.slice A2563 ((l2031.drop (Int.toNat 1))).length c2564), (.int .i64 x2034)]) hST rfl rfl Try.sizeOf28 (by simp [Value.cells, Value.oneCell']) (Nat.le_of_ble_eq_true rfl) rfl (fun W2565 hST => ?_))
      refine LW_nil ?_
      refine sq_n ?_
      refine CW_seq ?_
      refine CW_seq ?_
      refine PX_start (fun l W => Has μ2026 ((b2557, Obj.cells ((encFact x2555).toArray : Array Value) 43 (0, 0)) :: ((b_a0, Obj.cells (#[v_a0_in_, v_a0_creds, v_a0_uses, v_a0_words, (.slice A2563 ((l2031.drop (Int.toNat 1))).length c2564), (.int .i64 x2034)] : Array Value) 53 (0, 0)) :: (R_a0_uses ++ []))) W) Try_mixed ?_
      replace hST := hST.drew
      replace hST : ST false (keys ((b_a0, Obj.cells (#[v_a0_in_, v_a0_creds, v_a0_uses, v_a0_words, v_a0_todo, (.int .i64 a0_n)] : Array Value) 53 (0, 0)) :: (R_a0_in_ ++ (R_a0_creds ++ (R_a0_uses ++ (R_a0_words ++ (R_a0_todo ++ []))))))) w _ _ ((b2557, Obj.cells ((encFact x2555).toArray : Array Value) 43 (0, 0)) :: ((b_a0, Obj.cells (#[v_a0_in_, v_a0_creds, v_a0_uses, v_a0_words, (.slice A2563 ((l2031.drop (Int.toNat 1))).length c2564), (.int .i64 x2034)] : Array Value) 53 (0, 0)) :: (R2029 ++ (R_a0_creds ++ (R_a0_uses ++ (R_a0_words ++ (R2033 ++ L2546))))))) := hST
      have hS0 : Has μ2026 ((b2557, Obj.cells ((encFact x2555).toArray : Array Value) 43 (0, 0)) :: ((b_a0, Obj.cells (#[v_a0_in_, v_a0_creds, v_a0_uses, v_a0_words, (.slice A2563 ((l2031.drop (Int.toNat 1))).length c2564), (.int .i64 x2034)] : Array Value) 53 (0, 0)) :: (R_a0_uses ++ []))) _ := hST.has.sub (Sub.refl _) (fun p hq => ((List.mem_cons.1 hq).elim (fun hq => by rw [hq]; exact (.head _)) (fun hq => ((List.mem_cons.1 hq).elim (fun hq => by rw [hq]; exact (.tail _ (.head _))) (fun hq => ((List.mem_append.1 hq).elim (fun hq => (.tail _ (.tail _ (List.mem_append_right _ (List.mem_append_right _ (List.mem_append_left _ hq)))))) (fun hq => (absurd hq List.not_mem_nil))))))))
      refine PV 0 rfl hS0 (R_move (v := (.pointer (some ⟨b_a0, 0, none⟩))) e2550) ?_
      refine PV 1 rfl hS0 (R_nilCheck rfl) ?_
      refine PV 2 rfl hS0 (R_field fa53_2 rfl) ?_
      refine PX_v 3 rfl (by kernel_rfl) (.inl rfl) rfl (by decide) (fun _ _ h => h) hS0 (fun l W hpd hs => have hS := hs; R_load (v := v_a0_uses) rfl (load_box1 hS (.tail _ (.head _)) rfl Try.isAgg50)) ?_
      refine PV 4 rfl hS0 (R_field fa43_0 rfl) ?_
      refine PX_v 5 rfl (by kernel_rfl) (.inl rfl) rfl (by decide) (fun _ _ h => h) hS0 (fun l W hpd hs => have hS := hs; R_load (v := (.agg (encRole x2555.Role).toArray)) rfl (load_boxA hS (.head _) (encRole x2555.Role) rfl Try.isAgg34 Try.sizeOf34)) ?_
      obtain ⟨lv2576, hd2577⟩ := h_a0_uses
      obtain ⟨R2578, hr2579, hs2580⟩ := DeepV.rowAt beqRole_iff.1 hd2577 x2555.Role
      refine PX_v 6 rfl (by kernel_rfl) (.inl rfl) rfl (by decide) (fun _ _ h => h) hS0 (fun l W hpd hs => have hS := hs; R_lookupDeep (k := x2555.Role) (z := (.slice none 0 0)) kl34 Try.underlying50 Try.zeroValue24 rfl rfl hd2577 (fun b o hq => hS.2 b o (.tail _ (.tail _ (List.mem_append_left _ hq))))) ?_
      refine PV 7 rfl hS0 (R_len Try.underlying24 rfl (hr2579.slL lenCred)) ?_
      refine PV 8 rfl hS0 (R_move (v := (.int .i64 0)) rfl) ?_
      refine PX_done (by kernel_rfl) ?_
      refine sq_n ?_
      obtain ⟨s2953, hm2954, hm2955⟩ := bind_some hm2547
      refine CW_cut (fun E W => ∃ (l2677 : List (Role × (List (ByteArray × Bool)))) (R2679 : List (Nat × Obj)) (v2680 : Value) (l2681 : List Fact) (R2683 : List (Nat × Obj)) (x2684 : Int) (μ2676 : Mem) (L2685 : List (Nat × Obj)), Sub μ2026 μ2676 ∧ ST false (keys ((b_a0, Obj.cells (#[v_a0_in_, v_a0_creds, v_a0_uses, v_a0_words, v_a0_todo, (.int .i64 a0_n)] : Array Value) 53 (0, 0)) :: (R_a0_in_ ++ (R_a0_creds ++ (R_a0_uses ++ (R_a0_words ++ (R_a0_todo ++ []))))))) w W μ2676 ((b_a0, Obj.cells (#[v_a0_in_, v_a0_creds, v_a0_uses, v_a0_words, v2680, (.int .i64 x2684)] : Array Value) 53 (0, 0)) :: ((b2557, Obj.cells ((encFact x2555).toArray : Array Value) 43 (0, 0)) :: (R2679 ++ (R_a0_creds ++ (R_a0_uses ++ (R_a0_words ++ (R2683 ++ L2685))))))) ∧ E 0 = (.pointer (some ⟨b_a0, 0, none⟩)) ∧ E 2 = (.pointer (some ⟨b2557, 0, none⟩)) ∧ DeepE (fun (x : Role) => (.agg (encRole x).toArray)) (MapRow Value.string (fun (x : Bool) => (Value.bool x))) v_a0_in_ l2677 R2679 ∧ Que 43 encFact 3 v2680 l2681 R2683 ∧ ((m_model_Model_settle_w_L2 x2555 a0_creds a0_uses a0_words (((mget beqS a0_words x2555.Role.Word).getD [])) l2677 l2681 x2684 : Option (((List (Role × (List (ByteArray × Bool)))) × (List Fact) × Int))).bind fun (l2822, l2826, x2829) => (m_model_Model_settle_w_L1 a0_creds a0_uses a0_words n2548 l2822 l2826 x2829)) = some r) ?_ ?_
      · replace hST : ST false (keys ((b_a0, Obj.cells (#[v_a0_in_, v_a0_creds, v_a0_uses, v_a0_words, v_a0_todo, (.int .i64 a0_n)] : Array Value) 53 (0, 0)) :: (R_a0_in_ ++ (R_a0_creds ++ (R_a0_uses ++ (R_a0_words ++ (R_a0_todo ++ []))))))) w _ _ ((b_a0, Obj.cells (#[v_a0_in_, v_a0_creds, v_a0_uses, v_a0_words, (.slice A2563 ((l2031.drop (Int.toNat 1))).length c2564), (.int .i64 x2034)] : Array Value) 53 (0, 0)) :: ((b2557, Obj.cells ((encFact x2555).toArray : Array Value) 43 (0, 0)) :: (R2029 ++ (R_a0_creds ++ (R_a0_uses ++ (R_a0_words ++ (R2033 ++ L2546))))))) := hST.perm (permD [[(b2557, Obj.cells ((encFact x2555).toArray : Array Value) 43 (0, 0))], [(b_a0, Obj.cells (#[v_a0_in_, v_a0_creds, v_a0_uses, v_a0_words, (.slice A2563 ((l2031.drop (Int.toNat 1))).length c2564), (.int .i64 x2034)] : Array Value) 53 (0, 0))]] [0, 1] [1, 0] ((R2029 ++ (R_a0_creds ++ (R_a0_uses ++ (R_a0_words ++ (R2033 ++ L2546)))))) (by decide) rfl rfl)
        refine CW_range (fun i E W => ∃ (l2984 : List (Role × (List (ByteArray × Bool)))) (R2986 : List (Nat × Obj)) (v2987 : Value) (l2988 : List Fact) (R2990 : List (Nat × Obj)) (x2991 : Int) (μ2983 : Mem) (L3025 : List (Nat × Obj)), (E 35 = .int .i64 (i : Nat) ∧ E 34 = .int .i64 ((((mget beqRole a0_uses x2555.Role).getD [])).length : Nat)) ∧ Sub μ2026 μ2983 ∧ ST false (keys ((b_a0, Obj.cells (#[v_a0_in_, v_a0_creds, v_a0_uses, v_a0_words, v_a0_todo, (.int .i64 a0_n)] : Array Value) 53 (0, 0)) :: (R_a0_in_ ++ (R_a0_creds ++ (R_a0_uses ++ (R_a0_words ++ (R_a0_todo ++ []))))))) w W μ2983 ((b_a0, Obj.cells (#[v_a0_in_, v_a0_creds, v_a0_uses, v_a0_words, v2987, (.int .i64 x2991)] : Array Value) 53 (0, 0)) :: ((b2557, Obj.cells ((encFact x2555).toArray : Array Value) 43 (0, 0)) :: (R2986 ++ (R_a0_creds ++ (R_a0_uses ++ (R_a0_words ++ (R2990 ++ L3025))))))) ∧ E 0 = (.pointer (some ⟨b_a0, 0, none⟩)) ∧ E 2 = (.pointer (some ⟨b2557, 0, none⟩)) ∧ E 33 = (valAt beqRole lv2576 x2555.Role (.slice none 0 0)) ∧ DeepE (fun (x : Role) => (.agg (encRole x).toArray)) (MapRow Value.string (fun (x : Bool) => (Value.bool x))) v_a0_in_ l2984 R2986 ∧ Que 43 encFact 3 v2987 l2988 R2990 ∧ m_model_Model_settle_w_L3 a0_creds a0_uses a0_words x2555 ((((mget beqRole a0_uses x2555.Role).getD [])).drop i) l2984 l2988 x2991 = some s2953) (((mget beqRole a0_uses x2555.Role).getD [])).length (hr2579.slL lenCred).len ⟨l2027, R2029, (.slice A2563 ((l2031.drop (Int.toNat 1))).length c2564), ((l2031.drop (Int.toNat 1))), R2033, x2034, μ2026, _, ⟨rfl, rfl⟩, (Sub.refl _), (hST.sublist (List.Sublist.refl _)), e2550, rfl, rfl, hs2028, hs2561, hm2954⟩ (by decide) (by decide) (by decide) (fun _ _ _ h => by obtain ⟨_, _, _, _, _, _, _, _, eIN, _⟩ := h; exact eIN) ?_ ?_
        · rintro i2956 E W hi2962 ⟨l2984, R2986, v2987, l2988, R2990, x2991, μ2983, L3025, ⟨eI, eN⟩, hle3027, hST, e3028, e3029, e3030, hs2985, hs2989, hm3026⟩
          obtain ⟨x2957, xs2958, hx2960, hx2959, hx2961⟩ := drop_cons hi2962
          rw [hx2960] at hm3026
          rw [m_model_Model_settle_w_L3] at hm3026
          refine CW_block ?_
          refine CW_seq ?_
          refine CW_region ?_
          refine LQ (R_indexP (enc := encCred) (i := (i2956 : Int)) (x0 := x2957) Try.underlying24 Try.sizeOf36 e3030 eI (hr2579.slL lenCred) (Int.natCast_nonneg _) hx2959) (fun p3031 hp3032 => ?_)
          refine LV (R_load rfl (load_atA (Has.hp _) (hp3032.mono (memL_held (fun b o hq => hST.has.2 b o (.tail _ (.tail _ (List.mem_append_right _ (List.mem_append_right _ (List.mem_append_left _ (hs2580 b o hq))))))))) Try.isAgg36 Try.sizeOf36)) ?_
          refine LE (E_alloc hST Try.zeroValue36 (fun W3035 b3034 hST => ?_))
          refine LW_e0 (.inl rfl) rfl (E_store [] (.agg (encCred x2957).toArray) ((encCred x2957).toArray) hST rfl rfl Try.sizeOf36 (oneCred x2957) (Nat.le_of_ble_eq_true rfl) rfl (fun W3036 hST => ?_))
          refine LW_nil ?_
          refine sq_n ?_
          refine CW_region ?_
          refine LV (R_move (v := (.pointer (some ⟨b_a0, 0, none⟩))) e3028) ?_
          refine LV (R_load (v := (.agg (encCred x2957).toArray)) rfl (load_boxA hST.has (.head _) (encCred x2957) rfl Try.isAgg36 Try.sizeOf36)) ?_
          refine LV (R_load (v := (.agg (encFact x2555).toArray)) e3029 (load_boxA hST.has (.tail _ (.tail _ (.head _))) (encFact x2555) rfl Try.isAgg43 Try.sizeOf43)) ?_
          replace hST : ST false (keys ((b_a0, Obj.cells (#[v_a0_in_, v_a0_creds, v_a0_uses, v_a0_words, v_a0_todo, (.int .i64 a0_n)] : Array Value) 53 (0, 0)) :: (R_a0_in_ ++ (R_a0_creds ++ (R_a0_uses ++ (R_a0_words ++ (R_a0_todo ++ []))))))) w _ _ ((b3034, Obj.cells ((encCred x2957).toArray : Array Value) 36 (0, 0)) :: ((b_a0, Obj.cells (#[v_a0_in_, v_a0_creds, v_a0_uses, v_a0_words, v2987, (.int .i64 x2991)] : Array Value) 53 (0, 0)) :: ((b2557, Obj.cells ((encFact x2555).toArray : Array Value) 43 (0, 0)) :: (R2986 ++ (R_a0_creds ++ (R_a0_uses ++ (R_a0_words ++ (R2990 ++ L3025)))))))) := hST
          obtain ⟨r3037, hr3038, hm3026⟩ := bind_some hm3026
          replace hST : ST false (keys ((b_a0, Obj.cells (#[v_a0_in_, v_a0_creds, v_a0_uses, v_a0_words, v_a0_todo, (.int .i64 a0_n)] : Array Value) 53 (0, 0)) :: (R_a0_in_ ++ (R_a0_creds ++ (R_a0_uses ++ (R_a0_words ++ (R_a0_todo ++ []))))))) w _ _ ((b_a0, Obj.cells (#[v_a0_in_, v_a0_creds, v_a0_uses, v_a0_words, v2987, (.int .i64 x2991)] : Array Value) 53 (0, 0)) :: (R2986 ++ (R_a0_creds ++ (R_a0_uses ++ (R_a0_words ++ (R2990 ++ ((b3034, Obj.cells ((encCred x2957).toArray : Array Value) 36 (0, 0)) :: ((b2557, Obj.cells ((encFact x2555).toArray : Array Value) 43 (0, 0)) :: L3025)))))))) := hST.perm (permD [[(b3034, Obj.cells ((encCred x2957).toArray : Array Value) 36 (0, 0))], [(b_a0, Obj.cells (#[v_a0_in_, v_a0_creds, v_a0_uses, v_a0_words, v2987, (.int .i64 x2991)] : Array Value) 53 (0, 0))], [(b2557, Obj.cells ((encFact x2555).toArray : Array Value) 43 (0, 0))], R2986, R_a0_creds, R_a0_uses, R_a0_words, R2990] [0, 1, 2, 3, 4, 5, 6, 7] [1, 3, 4, 5, 6, 7, 0, 2] L3025 (by decide) rfl rfl)
          have hsz := hST.size
          refine LE (E_callM (args := [(.pointer (some ⟨b_a0, 0, none⟩)), (.agg (encCred x2957).toArray), (.agg (encFact x2555).toArray)]) (caps := #[]) (((b_a0, Obj.cells (#[v_a0_in_, v_a0_creds, v_a0_uses, v_a0_words, v2987, (.int .i64 x2991)] : Array Value) 53 (0, 0)) :: (R2986 ++ (R_a0_creds ++ (R_a0_uses ++ (R_a0_words ++ (R2990 ++ []))))))) (((b3034, Obj.cells ((encCred x2957).toArray : Array Value) 36 (0, 0)) :: ((b2557, Obj.cells ((encFact x2555).toArray : Array Value) 43 (0, 0)) :: L3025))) hST (by simp only [List.append_assoc, List.cons_append, List.nil_append]; exact List.Perm.refl _) rfl Try.call46 (by exact args3 rfl rfl rfl) (fun hH hN hsb hmm => (w_model_Model_use_w b_a0 v_a0_in_ l2984 R2986 v_a0_creds a0_creds R_a0_creds v_a0_uses a0_uses R_a0_uses v_a0_words a0_words R_a0_words v2987 l2988 R2990 x2991 x2957 x2555 _ _ hH hN (Sub.refl _) hs2985 h_a0_creds hd2577.e h_a0_words hs2989 hr3038)) (fun W3039 v3042 μ3040 L3044 hST hle3041 hlift hK3043 => ?_))
          obtain ⟨S3045, y3047, S3048, hv3050, rfl, hy3046, hy3049⟩ := hK3043
          replace hv3050 := hv3050.symm; subst hv3050
          simp only [List.append_assoc, List.cons_append, List.nil_append] at hST
          replace hST : ST false (keys ((b_a0, Obj.cells (#[v_a0_in_, v_a0_creds, v_a0_uses, v_a0_words, v_a0_todo, (.int .i64 a0_n)] : Array Value) 53 (0, 0)) :: (R_a0_in_ ++ (R_a0_creds ++ (R_a0_uses ++ (R_a0_words ++ (R_a0_todo ++ []))))))) w _ _ ((b_a0, Obj.cells (#[v_a0_in_, v_a0_creds, v_a0_uses, v_a0_words, y3047, (.int .i64 (r3037.2.2))] : Array Value) 53 (0, 0)) :: ((b3034, Obj.cells ((encCred x2957).toArray : Array Value) 36 (0, 0)) :: ((b2557, Obj.cells ((encFact x2555).toArray : Array Value) 43 (0, 0)) :: (S3045 ++ (R_a0_creds ++ (R_a0_uses ++ (R_a0_words ++ (S3048 ++ L3025)))))))) := hST.perm (permD [[(b_a0, Obj.cells (#[v_a0_in_, v_a0_creds, v_a0_uses, v_a0_words, y3047, (.int .i64 (r3037.2.2))] : Array Value) 53 (0, 0))], S3045, R_a0_creds, R_a0_uses, R_a0_words, S3048, [(b3034, Obj.cells ((encCred x2957).toArray : Array Value) 36 (0, 0))], [(b2557, Obj.cells ((encFact x2555).toArray : Array Value) 43 (0, 0))]] [0, 1, 2, 3, 4, 5, 6, 7] [0, 6, 7, 1, 2, 3, 4, 5] L3025 (by decide) rfl rfl)
          refine LW_nil ?_
          refine bq_n ?_
          refine sq_n ?_
          replace hST : ST false (keys ((b_a0, Obj.cells (#[v_a0_in_, v_a0_creds, v_a0_uses, v_a0_words, v_a0_todo, (.int .i64 a0_n)] : Array Value) 53 (0, 0)) :: (R_a0_in_ ++ (R_a0_creds ++ (R_a0_uses ++ (R_a0_words ++ (R_a0_todo ++ []))))))) w _ _ ((b_a0, Obj.cells (#[v_a0_in_, v_a0_creds, v_a0_uses, v_a0_words, y3047, (.int .i64 (r3037.2.2))] : Array Value) 53 (0, 0)) :: ((b2557, Obj.cells ((encFact x2555).toArray : Array Value) 43 (0, 0)) :: (S3045 ++ (R_a0_creds ++ (R_a0_uses ++ (R_a0_words ++ (S3048 ++ L3025))))))) := hST.sublist (List.Sublist.cons_cons _ (List.Sublist.cons _ (List.Sublist.refl _)))
          exact ⟨eI, r3037.1, S3045, y3047, r3037.2.1, S3048, r3037.2.2, μ3040, _, ⟨rfl, eN⟩, (hle3027.trans hle3041), (hST.sublist (List.Sublist.refl _)), e3028, e3029, e3030, hy3046, hy3049, (by rw [hx2961]; exact hm3026)⟩
        · rintro E W ⟨l2984, R2986, v2987, l2988, R2990, x2991, μ2983, L3025, ⟨eI, eN⟩, hle3027, hST, e3028, e3029, e3030, hs2985, hs2989, hm3026⟩
          rw [List.drop_length] at hm3026
          rw [m_model_Model_settle_w_L3] at hm3026
          refine sq_n ?_
          replace hm3026 := Option.some.inj hm3026; subst hm3026
          exact ⟨l2984, R2986, v2987, l2988, R2990, x2991, μ2983, _, hle3027, (hST.sublist (List.Sublist.refl _)), e3028, e3029, hs2985, hs2989, hm2955⟩
      · rintro E W ⟨l2677, R2679, v2680, l2681, R2683, x2684, μ2676, L2685, hle2687, hST, e2688, e2689, hs2678, hs2682, hm2686⟩
        refine CW_seq ?_
        refine PX_start (fun l W => Has μ2676 ((b_a0, Obj.cells (#[v_a0_in_, v_a0_creds, v_a0_uses, v_a0_words, v2680, (.int .i64 x2684)] : Array Value) 53 (0, 0)) :: ((b2557, Obj.cells ((encFact x2555).toArray : Array Value) 43 (0, 0)) :: (R_a0_words ++ []))) W) Try_mixed ?_
        replace hST := hST.drew
        have hS0 : Has μ2676 ((b_a0, Obj.cells (#[v_a0_in_, v_a0_creds, v_a0_uses, v_a0_words, v2680, (.int .i64 x2684)] : Array Value) 53 (0, 0)) :: ((b2557, Obj.cells ((encFact x2555).toArray : Array Value) 43 (0, 0)) :: (R_a0_words ++ []))) _ := hST.has.sub (Sub.refl _) (fun p hq => ((List.mem_cons.1 hq).elim (fun hq => by rw [hq]; exact (.head _)) (fun hq => ((List.mem_cons.1 hq).elim (fun hq => by rw [hq]; exact (.tail _ (.head _))) (fun hq => ((List.mem_append.1 hq).elim (fun hq => (.tail _ (.tail _ (List.mem_append_right _ (List.mem_append_right _ (List.mem_append_right _ (List.mem_append_left _ hq))))))) (fun hq => (absurd hq List.not_mem_nil))))))))
        refine PV 0 rfl hS0 (R_move (v := (.pointer (some ⟨b_a0, 0, none⟩))) e2688) ?_
        refine PV 1 rfl hS0 (R_nilCheck rfl) ?_
        refine PV 2 rfl hS0 (R_field fa53_3 rfl) ?_
        refine PX_v 3 rfl (by kernel_rfl) (.inl rfl) rfl (by decide) (fun _ _ h => h) hS0 (fun l W hpd hs => have hS := hs; R_load (v := v_a0_words) rfl (load_box1 hS (.head _) rfl Try.isAgg51)) ?_
        refine PV 4 rfl hS0 (R_field fa43_0 e2689) ?_
        refine PV 5 rfl hS0 (R_field fa34_1 rfl) ?_
        refine PX_v 6 rfl (by kernel_rfl) (.inl rfl) rfl (by decide) (fun _ _ h => h) hS0 (fun l W hpd hs => have hS := hs; R_load (v := (.string x2555.Role.Word)) rfl (load_box1 hS (.tail _ (.head _)) rfl Try.isAgg9)) ?_
        obtain ⟨lv2700, hd2701⟩ := h_a0_words
        obtain ⟨R2702, hr2703, hs2704⟩ := DeepV.rowAt beqS_iff.1 hd2701 x2555.Role.Word
        refine PX_v 7 rfl (by kernel_rfl) (.inl rfl) rfl (by decide) (fun _ _ h => h) hS0 (fun l W hpd hs => have hS := hs; R_lookupDeep (k := x2555.Role.Word) (z := (.slice none 0 0)) kl9 Try.underlying51 Try.zeroValue24 rfl rfl hd2701 (fun b o hq => hS.2 b o (.tail _ (.tail _ (List.mem_append_left _ hq))))) ?_
        refine PV 8 rfl hS0 (R_len Try.underlying24 rfl (hr2703.slL lenCred)) ?_
        refine PV 9 rfl hS0 (R_move (v := (.int .i64 0)) rfl) ?_
        refine PX_done (by kernel_rfl) ?_
        refine sq_n ?_
        refine CW_tail ?_
        obtain ⟨s2834, hm2835, hm2836⟩ := bind_some hm2686
        refine CW_cut (fun E W => ∃ (l2822 : List (Role × (List (ByteArray × Bool)))) (R2824 : List (Nat × Obj)) (v2825 : Value) (l2826 : List Fact) (R2828 : List (Nat × Obj)) (x2829 : Int) (μ2821 : Mem) (L2830 : List (Nat × Obj)), Sub μ2676 μ2821 ∧ ST false (keys ((b_a0, Obj.cells (#[v_a0_in_, v_a0_creds, v_a0_uses, v_a0_words, v_a0_todo, (.int .i64 a0_n)] : Array Value) 53 (0, 0)) :: (R_a0_in_ ++ (R_a0_creds ++ (R_a0_uses ++ (R_a0_words ++ (R_a0_todo ++ []))))))) w W μ2821 ((b_a0, Obj.cells (#[v_a0_in_, v_a0_creds, v_a0_uses, v_a0_words, v2825, (.int .i64 x2829)] : Array Value) 53 (0, 0)) :: (R2824 ++ (R_a0_creds ++ (R_a0_uses ++ (R_a0_words ++ (R2828 ++ L2830)))))) ∧ E 0 = (.pointer (some ⟨b_a0, 0, none⟩)) ∧ DeepE (fun (x : Role) => (.agg (encRole x).toArray)) (MapRow Value.string (fun (x : Bool) => (Value.bool x))) v_a0_in_ l2822 R2824 ∧ Que 43 encFact 3 v2825 l2826 R2828 ∧ (m_model_Model_settle_w_L1 a0_creds a0_uses a0_words n2548 l2822 l2826 x2829) = some r) ?_ ?_
        · refine CW_range (fun i E W => ∃ (l2872 : List (Role × (List (ByteArray × Bool)))) (R2874 : List (Nat × Obj)) (v2875 : Value) (l2876 : List Fact) (R2878 : List (Nat × Obj)) (x2879 : Int) (μ2871 : Mem) (L2920 : List (Nat × Obj)), (E 53 = .int .i64 (i : Nat) ∧ E 52 = .int .i64 ((((mget beqS a0_words x2555.Role.Word).getD [])).length : Nat)) ∧ Sub μ2676 μ2871 ∧ ST false (keys ((b_a0, Obj.cells (#[v_a0_in_, v_a0_creds, v_a0_uses, v_a0_words, v_a0_todo, (.int .i64 a0_n)] : Array Value) 53 (0, 0)) :: (R_a0_in_ ++ (R_a0_creds ++ (R_a0_uses ++ (R_a0_words ++ (R_a0_todo ++ []))))))) w W μ2871 ((b_a0, Obj.cells (#[v_a0_in_, v_a0_creds, v_a0_uses, v_a0_words, v2875, (.int .i64 x2879)] : Array Value) 53 (0, 0)) :: ((b2557, Obj.cells ((encFact x2555).toArray : Array Value) 43 (0, 0)) :: (R2874 ++ (R_a0_creds ++ (R_a0_uses ++ (R_a0_words ++ (R2878 ++ L2920))))))) ∧ E 0 = (.pointer (some ⟨b_a0, 0, none⟩)) ∧ E 2 = (.pointer (some ⟨b2557, 0, none⟩)) ∧ E 51 = (valAt beqS lv2700 x2555.Role.Word (.slice none 0 0)) ∧ DeepE (fun (x : Role) => (.agg (encRole x).toArray)) (MapRow Value.string (fun (x : Bool) => (Value.bool x))) v_a0_in_ l2872 R2874 ∧ Que 43 encFact 3 v2875 l2876 R2878 ∧ m_model_Model_settle_w_L2 x2555 a0_creds a0_uses a0_words ((((mget beqS a0_words x2555.Role.Word).getD [])).drop i) l2872 l2876 x2879 = some s2834) (((mget beqS a0_words x2555.Role.Word).getD [])).length (hr2703.slL lenCred).len ⟨l2677, R2679, v2680, l2681, R2683, x2684, μ2676, _, ⟨rfl, rfl⟩, (Sub.refl _), (hST.sublist (List.Sublist.refl _)), e2688, e2689, rfl, hs2678, hs2682, hm2835⟩ (by decide) (by decide) (by decide) (fun _ _ _ h => by obtain ⟨_, _, _, _, _, _, _, _, eIN, _⟩ := h; exact eIN) ?_ ?_
          · rintro i2837 E W hi2843 ⟨l2872, R2874, v2875, l2876, R2878, x2879, μ2871, L2920, ⟨eI, eN⟩, hle2922, hST, e2923, e2924, e2925, hs2873, hs2877, hm2921⟩
            obtain ⟨x2838, xs2839, hx2841, hx2840, hx2842⟩ := drop_cons hi2843
            rw [hx2841] at hm2921
            rw [m_model_Model_settle_w_L2] at hm2921
            refine CW_block ?_
            refine CW_seq ?_
            refine CW_region ?_
            refine LQ (R_indexP (enc := encCred) (i := (i2837 : Int)) (x0 := x2838) Try.underlying24 Try.sizeOf36 e2925 eI (hr2703.slL lenCred) (Int.natCast_nonneg _) hx2840) (fun p2926 hp2927 => ?_)
            refine LV (R_load rfl (load_atA (Has.hp _) (hp2927.mono (memL_held (fun b o hq => hST.has.2 b o (.tail _ (.tail _ (List.mem_append_right _ (List.mem_append_right _ (List.mem_append_right _ (List.mem_append_left _ (hs2704 b o hq)))))))))) Try.isAgg36 Try.sizeOf36)) ?_
            refine LE (E_alloc hST Try.zeroValue36 (fun W2930 b2929 hST => ?_))
            refine LW_e0 (.inl rfl) rfl (E_store [] (.agg (encCred x2838).toArray) ((encCred x2838).toArray) hST rfl rfl Try.sizeOf36 (oneCred x2838) (Nat.le_of_ble_eq_true rfl) rfl (fun W2931 hST => ?_))
            refine LW_nil ?_
            refine sq_n ?_
            refine CW_seq ?_
            refine PX_start (fun l W => Has μ2871 ((b2929, Obj.cells ((encCred x2838).toArray : Array Value) 36 (0, 0)) :: ((b_a0, Obj.cells (#[v_a0_in_, v_a0_creds, v_a0_uses, v_a0_words, v2875, (.int .i64 x2879)] : Array Value) 53 (0, 0)) :: ((b2557, Obj.cells ((encFact x2555).toArray : Array Value) 43 (0, 0)) :: (R2874 ++ [])))) W) Try_mixed ?_
            replace hST := hST.drew
            replace hST : ST false (keys ((b_a0, Obj.cells (#[v_a0_in_, v_a0_creds, v_a0_uses, v_a0_words, v_a0_todo, (.int .i64 a0_n)] : Array Value) 53 (0, 0)) :: (R_a0_in_ ++ (R_a0_creds ++ (R_a0_uses ++ (R_a0_words ++ (R_a0_todo ++ []))))))) w _ _ ((b2929, Obj.cells ((encCred x2838).toArray : Array Value) 36 (0, 0)) :: ((b_a0, Obj.cells (#[v_a0_in_, v_a0_creds, v_a0_uses, v_a0_words, v2875, (.int .i64 x2879)] : Array Value) 53 (0, 0)) :: ((b2557, Obj.cells ((encFact x2555).toArray : Array Value) 43 (0, 0)) :: (R2874 ++ (R_a0_creds ++ (R_a0_uses ++ (R_a0_words ++ (R2878 ++ L2920)))))))) := hST
            have hS0 : Has μ2871 ((b2929, Obj.cells ((encCred x2838).toArray : Array Value) 36 (0, 0)) :: ((b_a0, Obj.cells (#[v_a0_in_, v_a0_creds, v_a0_uses, v_a0_words, v2875, (.int .i64 x2879)] : Array Value) 53 (0, 0)) :: ((b2557, Obj.cells ((encFact x2555).toArray : Array Value) 43 (0, 0)) :: (R2874 ++ [])))) _ := hST.has.sub (Sub.refl _) (fun p hq => ((List.mem_cons.1 hq).elim (fun hq => by rw [hq]; exact (.head _)) (fun hq => ((List.mem_cons.1 hq).elim (fun hq => by rw [hq]; exact (.tail _ (.head _))) (fun hq => ((List.mem_cons.1 hq).elim (fun hq => by rw [hq]; exact (.tail _ (.tail _ (.head _)))) (fun hq => ((List.mem_append.1 hq).elim (fun hq => (.tail _ (.tail _ (.tail _ (List.mem_append_left _ hq))))) (fun hq => (absurd hq List.not_mem_nil))))))))))
            refine PV 0 rfl hS0 (R_move (v := (.pointer (some ⟨b_a0, 0, none⟩))) e2923) ?_
            refine PV 1 rfl hS0 (R_nilCheck rfl) ?_
            refine PV 2 rfl hS0 (R_field fa53_0 rfl) ?_
            refine PX_v 3 rfl (by kernel_rfl) (.inl rfl) rfl (by decide) (fun _ _ h => h) hS0 (fun l W hpd hs => have hS := hs; R_load (v := v_a0_in_) rfl (load_box1 hS (.tail _ (.head _)) rfl Try.isAgg49)) ?_
            refine PV 4 rfl hS0 (R_field fa36_3 rfl) ?_
            refine PX_v 5 rfl (by kernel_rfl) (.inl rfl) rfl (by decide) (fun _ _ h => h) hS0 (fun l W hpd hs => have hS := hs; R_load (v := (.agg (encRole x2838.B).toArray)) rfl (load_boxA hS (.head _) (encRole x2838.B) rfl Try.isAgg34 Try.sizeOf34)) ?_
            obtain ⟨lv2936, hd2937⟩ := hs2873
            refine PX_v 6 rfl (by kernel_rfl) (.inl rfl) rfl (by decide) (fun _ _ h => h) hS0 (fun l W hpd hs => have hS := hs; R_lookupDeep (k := x2838.B) (z := (.map none)) kl34 Try.underlying49 Try.zeroValue59 rfl rfl hd2937 (fun b o hq => hS.2 b o (.tail _ (.tail _ (.tail _ (List.mem_append_left _ hq)))))) ?_
            refine PV 7 rfl hS0 (R_field fa43_0 e2924) ?_
            refine PV 8 rfl hS0 (R_field fa34_0 rfl) ?_
            refine PX_v 9 rfl (by kernel_rfl) (.inl rfl) rfl (by decide) (fun _ _ h => h) hS0 (fun l W hpd hs => have hS := hs; R_load (v := (.string x2555.Role.Owner)) rfl (load_box1 hS (.tail _ (.tail _ (.head _))) rfl Try.isAgg9)) ?_
            refine PX_v 10 rfl (by kernel_rfl) (.inl rfl) rfl (by decide) (fun _ _ h => h) hS0 (fun l W hpd hs => have hS := hs; R_lookupD (k := x2555.Role.Owner) (z := false) (vf := (fun (x : Bool) => (Value.bool x))) kl9 Try.underlying59 Try.zeroValue4 rfl rfl (DeepV.mapAt (μ := hp _) beqRole_iff.1 hd2937 x2838.B (fun b o hq => hS.2 b o (.tail _ (.tail _ (.tail _ (List.mem_append_left _ hq))))))) ?_
            refine PX_done (by kernel_rfl) ?_
            refine sq_n ?_
            refine CW_if (b := (mgetD beqS (((mget beqRole l2872 x2838.B).getD [])) x2555.Role.Owner false)) rfl (fun hb2938 => ?_) (fun hb2938 => ?_)
            · replace hm2921 := if_t hb2938 hm2921
              refine CW_region ?_
              refine LV (R_move (v := (.pointer (some ⟨b_a0, 0, none⟩))) e2923) ?_
              refine LV (R_field fa36_1 rfl) ?_
              refine LV (R_load (v := (.agg (encRole x2838.Head).toArray)) rfl (load_boxA hST.has (.head _) (encRole x2838.Head) rfl Try.isAgg34 Try.sizeOf34)) ?_
              refine LV (R_field fa43_1 e2924) ?_
              refine LV (R_load (v := (.string x2555.Who)) rfl (load_box1 hST.has (.tail _ (.tail _ (.head _))) rfl Try.isAgg9)) ?_
              obtain ⟨r2939, hr2940, hm2921⟩ := bind_some hm2921
              replace hST : ST false (keys ((b_a0, Obj.cells (#[v_a0_in_, v_a0_creds, v_a0_uses, v_a0_words, v_a0_todo, (.int .i64 a0_n)] : Array Value) 53 (0, 0)) :: (R_a0_in_ ++ (R_a0_creds ++ (R_a0_uses ++ (R_a0_words ++ (R_a0_todo ++ []))))))) w _ _ ((b_a0, Obj.cells (#[v_a0_in_, v_a0_creds, v_a0_uses, v_a0_words, v2875, (.int .i64 x2879)] : Array Value) 53 (0, 0)) :: (R2874 ++ (R_a0_creds ++ (R_a0_uses ++ (R_a0_words ++ (R2878 ++ ((b2929, Obj.cells ((encCred x2838).toArray : Array Value) 36 (0, 0)) :: ((b2557, Obj.cells ((encFact x2555).toArray : Array Value) 43 (0, 0)) :: L2920)))))))) := hST.perm (permD [[(b2929, Obj.cells ((encCred x2838).toArray : Array Value) 36 (0, 0))], [(b_a0, Obj.cells (#[v_a0_in_, v_a0_creds, v_a0_uses, v_a0_words, v2875, (.int .i64 x2879)] : Array Value) 53 (0, 0))], [(b2557, Obj.cells ((encFact x2555).toArray : Array Value) 43 (0, 0))], R2874, R_a0_creds, R_a0_uses, R_a0_words, R2878] [0, 1, 2, 3, 4, 5, 6, 7] [1, 3, 4, 5, 6, 7, 0, 2] L2920 (by decide) rfl rfl)
              have hsz := hST.size
              refine LE (E_callM (args := [(.pointer (some ⟨b_a0, 0, none⟩)), (.agg (encRole x2838.Head).toArray), (.string x2555.Who)]) (caps := #[]) (((b_a0, Obj.cells (#[v_a0_in_, v_a0_creds, v_a0_uses, v_a0_words, v2875, (.int .i64 x2879)] : Array Value) 53 (0, 0)) :: (R2874 ++ (R_a0_creds ++ (R_a0_uses ++ (R_a0_words ++ (R2878 ++ []))))))) (((b2929, Obj.cells ((encCred x2838).toArray : Array Value) 36 (0, 0)) :: ((b2557, Obj.cells ((encFact x2555).toArray : Array Value) 43 (0, 0)) :: L2920))) hST (by simp only [List.append_assoc, List.cons_append, List.nil_append]; exact List.Perm.refl _) rfl Try.call45 (by exact args3 rfl rfl rfl) (fun hH hN hsb hmm => GivesM.weak (w_model_Model_tell_w b_a0 v_a0_in_ l2872 R2874 v_a0_creds a0_creds R_a0_creds v_a0_uses a0_uses R_a0_uses v_a0_words a0_words R_a0_words v2875 l2876 R2878 x2879 x2838.Head x2555.Who _ _ hH hN (Sub.refl _) hd2937.e h_a0_creds hd2577.e hd2701.e hs2877 hr2940)) (fun W2941 v2944 μ2942 L2946 hST hle2943 hlift hK2945 => ?_))
              obtain ⟨S2947, y2949, S2950, hv2952, rfl, hy2948, hy2951⟩ := hK2945
              replace hv2952 := hv2952.symm; subst hv2952
              simp only [List.append_assoc, List.cons_append, List.nil_append] at hST
              replace hST : ST false (keys ((b_a0, Obj.cells (#[v_a0_in_, v_a0_creds, v_a0_uses, v_a0_words, v_a0_todo, (.int .i64 a0_n)] : Array Value) 53 (0, 0)) :: (R_a0_in_ ++ (R_a0_creds ++ (R_a0_uses ++ (R_a0_words ++ (R_a0_todo ++ []))))))) w _ _ ((b_a0, Obj.cells (#[v_a0_in_, v_a0_creds, v_a0_uses, v_a0_words, y2949, (.int .i64 (r2939.2.2))] : Array Value) 53 (0, 0)) :: ((b2929, Obj.cells ((encCred x2838).toArray : Array Value) 36 (0, 0)) :: ((b2557, Obj.cells ((encFact x2555).toArray : Array Value) 43 (0, 0)) :: (S2947 ++ (R_a0_creds ++ (R_a0_uses ++ (R_a0_words ++ (S2950 ++ L2920)))))))) := hST.perm (permD [[(b_a0, Obj.cells (#[v_a0_in_, v_a0_creds, v_a0_uses, v_a0_words, y2949, (.int .i64 (r2939.2.2))] : Array Value) 53 (0, 0))], S2947, R_a0_creds, R_a0_uses, R_a0_words, S2950, [(b2929, Obj.cells ((encCred x2838).toArray : Array Value) 36 (0, 0))], [(b2557, Obj.cells ((encFact x2555).toArray : Array Value) 43 (0, 0))]] [0, 1, 2, 3, 4, 5, 6, 7] [0, 6, 7, 1, 2, 3, 4, 5] L2920 (by decide) rfl rfl)
              refine LW_nil ?_
              refine bq_n ?_
              refine sq_n ?_
              replace hST : ST false (keys ((b_a0, Obj.cells (#[v_a0_in_, v_a0_creds, v_a0_uses, v_a0_words, v_a0_todo, (.int .i64 a0_n)] : Array Value) 53 (0, 0)) :: (R_a0_in_ ++ (R_a0_creds ++ (R_a0_uses ++ (R_a0_words ++ (R_a0_todo ++ []))))))) w _ _ ((b_a0, Obj.cells (#[v_a0_in_, v_a0_creds, v_a0_uses, v_a0_words, y2949, (.int .i64 (r2939.2.2))] : Array Value) 53 (0, 0)) :: ((b2557, Obj.cells ((encFact x2555).toArray : Array Value) 43 (0, 0)) :: (S2947 ++ (R_a0_creds ++ (R_a0_uses ++ (R_a0_words ++ (S2950 ++ L2920))))))) := hST.sublist (List.Sublist.cons_cons _ (List.Sublist.cons _ (List.Sublist.refl _)))
              exact ⟨eI, r2939.1, S2947, y2949, r2939.2.1, S2950, r2939.2.2, μ2942, _, ⟨rfl, eN⟩, (hle2922.trans hle2943), (hST.sublist (List.Sublist.refl _)), e2923, e2924, e2925, hy2948, hy2951, (by rw [hx2842]; exact hm2921)⟩
            · replace hm2921 := if_f hb2938 hm2921
              refine CW_skip ?_
              refine bq_n ?_
              refine sq_n ?_
              replace hST : ST false (keys ((b_a0, Obj.cells (#[v_a0_in_, v_a0_creds, v_a0_uses, v_a0_words, v_a0_todo, (.int .i64 a0_n)] : Array Value) 53 (0, 0)) :: (R_a0_in_ ++ (R_a0_creds ++ (R_a0_uses ++ (R_a0_words ++ (R_a0_todo ++ []))))))) w _ _ ((b_a0, Obj.cells (#[v_a0_in_, v_a0_creds, v_a0_uses, v_a0_words, v2875, (.int .i64 x2879)] : Array Value) 53 (0, 0)) :: ((b2557, Obj.cells ((encFact x2555).toArray : Array Value) 43 (0, 0)) :: (R2874 ++ (R_a0_creds ++ (R_a0_uses ++ (R_a0_words ++ (R2878 ++ L2920))))))) := hST.sublist (List.Sublist.cons _ (List.Sublist.refl _))
              exact ⟨eI, l2872, R2874, v2875, l2876, R2878, x2879, μ2871, _, ⟨rfl, eN⟩, hle2922, (hST.sublist (List.Sublist.refl _)), e2923, e2924, e2925, hd2937.e, hs2877, (by rw [hx2842]; exact hm2921)⟩
          · rintro E W ⟨l2872, R2874, v2875, l2876, R2878, x2879, μ2871, L2920, ⟨eI, eN⟩, hle2922, hST, e2923, e2924, e2925, hs2873, hs2877, hm2921⟩
            rw [List.drop_length] at hm2921
            rw [m_model_Model_settle_w_L2] at hm2921
            refine sq_n ?_
            replace hm2921 := Option.some.inj hm2921; subst hm2921
            exact ⟨l2872, R2874, v2875, l2876, R2878, x2879, μ2871, _, hle2922, (hST.sublist (List.Sublist.cons_cons _ (List.Sublist.cons _ (List.Sublist.refl _)))), e2923, hs2873, hs2877, hm2836⟩
        · rintro E W ⟨l2822, R2824, v2825, l2826, R2828, x2829, μ2821, L2830, hle2832, hST, e2833, hs2823, hs2827, hm2831⟩
          refine bq_n ?_
          refine sq_n ?_
          exact ⟨n2548, Nat.lt_succ_self _, l2822, R2824, v2825, l2826, R2828, x2829, μ2821, _, ((hle2549.trans hle2687).trans hle2832), (hST.sublist (List.Sublist.refl _)), e2833, hs2823, hs2827, hm2831⟩
    · replace hm2547 := if_f hb2551 hm2547
      refine CW_exit ?_
      refine sq_e (sq_e (bq_e ?_))
      refine sq_n ?_
      refine retQ_n ?_
      replace hm2547 := Option.some.inj hm2547; subst hm2547
      refine retQ_0 rfl ?_
      replace hST : ST false (keys ((b_a0, Obj.cells (#[v_a0_in_, v_a0_creds, v_a0_uses, v_a0_words, v_a0_todo, (.int .i64 a0_n)] : Array Value) 53 (0, 0)) :: (R_a0_in_ ++ (R_a0_creds ++ (R_a0_uses ++ (R_a0_words ++ (R_a0_todo ++ []))))))) w _ _ ((b_a0, Obj.cells (#[v_a0_in_, v_a0_creds, v_a0_uses, v_a0_words, v2030, (.int .i64 x2034)] : Array Value) 53 (0, 0)) :: (R2029 ++ (R_a0_creds ++ (R_a0_uses ++ (R_a0_words ++ (R2033 ++ L2546)))))) := hST
      exact ⟨_, ((b_a0, Obj.cells (#[v_a0_in_, v_a0_creds, v_a0_uses, v_a0_words, v2030, (.int .i64 x2034)] : Array Value) 53 (0, 0)) :: (R2029 ++ (R_a0_creds ++ (R_a0_uses ++ (R_a0_words ++ (R2033 ++ [])))))), rfl, (ST.backM (L1 := ((b_a0, Obj.cells (#[v_a0_in_, v_a0_creds, v_a0_uses, v_a0_words, v2030, (.int .i64 x2034)] : Array Value) 53 (0, 0)) :: (R2029 ++ (R_a0_creds ++ (R_a0_uses ++ (R_a0_words ++ (R2033 ++ []))))))) (by have hh : ST false (keys ((b_a0, Obj.cells (#[v_a0_in_, v_a0_creds, v_a0_uses, v_a0_words, v_a0_todo, (.int .i64 a0_n)] : Array Value) 53 (0, 0)) :: (R_a0_in_ ++ (R_a0_creds ++ (R_a0_uses ++ (R_a0_words ++ (R_a0_todo ++ []))))))) w _ _ ((b_a0, Obj.cells (#[v_a0_in_, v_a0_creds, v_a0_uses, v_a0_words, v2030, (.int .i64 x2034)] : Array Value) 53 (0, 0)) :: (R2029 ++ (R_a0_creds ++ (R_a0_uses ++ (R_a0_words ++ (R2033 ++ L2546)))))) := hST.perm (List.Perm.refl _); simpa only [List.append_assoc, List.cons_append, List.nil_append] using hh)), R2029, v2030, R2033, rfl, rfl, hs2028, hs2032⟩
theorem w_model_Model_Add_w (b_a0 : Nat) (v_a0_in_ : Value) (a0_in_ : List (Role × (List (ByteArray × Bool)))) (R_a0_in_ : List (Nat × Obj)) (v_a0_creds : Value) (a0_creds : List Cred) (R_a0_creds : List (Nat × Obj)) (v_a0_uses : Value) (a0_uses : List (Role × (List Cred))) (R_a0_uses : List (Nat × Obj)) (v_a0_words : Value) (a0_words : List (ByteArray × (List Cred))) (R_a0_words : List (Nat × Obj)) (v_a0_todo : Value) (a0_todo : List Fact) (R_a0_todo : List (Nat × Obj)) (a0_n : Int) (v_a1 : Value) (a1 : List Cred) (r : (Int × (List (Role × (List (ByteArray × Bool)))) × (List Cred) × (List (Role × (List Cred))) × (List (ByteArray × (List Cred))) × (List Fact) × Int)) (w : World) {μ0 : Mem} (hH : Held ((b_a0, Obj.cells (#[v_a0_in_, v_a0_creds, v_a0_uses, v_a0_words, v_a0_todo, (.int .i64 a0_n)] : Array Value) 53 (0, 0)) :: (R_a0_in_ ++ (R_a0_creds ++ (R_a0_uses ++ (R_a0_words ++ (R_a0_todo ++ [])))))) w) (hN : ((((b_a0, Obj.cells (#[v_a0_in_, v_a0_creds, v_a0_uses, v_a0_words, v_a0_todo, (.int .i64 a0_n)] : Array Value) 53 (0, 0)) :: (R_a0_in_ ++ (R_a0_creds ++ (R_a0_uses ++ (R_a0_words ++ (R_a0_todo ++ [])))))) : List (Nat × Obj)).map (·.1)).Nodup) (hS0 : Sub μ0 (hpx w ((b_a0, Obj.cells (#[v_a0_in_, v_a0_creds, v_a0_uses, v_a0_words, v_a0_todo, (.int .i64 a0_n)] : Array Value) 53 (0, 0)) :: (R_a0_in_ ++ (R_a0_creds ++ (R_a0_uses ++ (R_a0_words ++ (R_a0_todo ++ [])))))))) (h_a0_in_ : DeepE (fun (x : Role) => (.agg (encRole x).toArray)) (MapRow Value.string (fun (x : Bool) => (Value.bool x))) v_a0_in_ a0_in_ R_a0_in_) (h_a0_creds : Row 36 encCred 9 v_a0_creds a0_creds R_a0_creds) (h_a0_uses : DeepE (fun (x : Role) => (.agg (encRole x).toArray)) (Row 36 encCred 9) v_a0_uses a0_uses R_a0_uses) (h_a0_words : DeepE Value.string (Row 36 encCred 9) v_a0_words a0_words R_a0_words) (h_a0_todo : Que 43 encFact 3 v_a0_todo a0_todo R_a0_todo) (h_a1 : Sl (Pl encCred) 9 μ0 v_a1 a1) (hm : m_model_Model_Add_w a0_in_ a0_creds a0_uses a0_words a0_todo a0_n a1 = some r) :
    GivesM false Try.prog 9 [(.pointer (some ⟨b_a0, 0, none⟩)), v_a1] w ((b_a0, Obj.cells (#[v_a0_in_, v_a0_creds, v_a0_uses, v_a0_words, v_a0_todo, (.int .i64 a0_n)] : Array Value) 53 (0, 0)) :: (R_a0_in_ ++ (R_a0_creds ++ (R_a0_uses ++ (R_a0_words ++ (R_a0_todo ++ [])))))) (fun v L1 W' => ∃ (S1 : List (Nat × Obj)) (y3 : Value) (S4 : List (Nat × Obj)) (S6 : List (Nat × Obj)) (S8 : List (Nat × Obj)) (y10 : Value) (S11 : List (Nat × Obj)), v = (.int .i64 (r.1)) ∧ L1 = ((b_a0, Obj.cells (#[v_a0_in_, y3, v_a0_uses, v_a0_words, y10, (.int .i64 (r.2.2.2.2.2.2))] : Array Value) 53 (0, 0)) :: (S1 ++ (S4 ++ (S6 ++ (S8 ++ (S11 ++ [])))))) ∧ DeepE (fun (x : Role) => (.agg (encRole x).toArray)) (MapRow Value.string (fun (x : Bool) => (Value.bool x))) v_a0_in_ r.2.1 S1 ∧ Row 36 encCred 9 y3 r.2.2.1 S4 ∧ DeepE (fun (x : Role) => (.agg (encRole x).toArray)) (Row 36 encCred 9) v_a0_uses r.2.2.2.1 S6 ∧ DeepE Value.string (Row 36 encCred 9) v_a0_words r.2.2.2.2.1 S8 ∧ Que 43 encFact 3 y10 r.2.2.2.2.2.1 S11) := by
  have hST := (ST.startM (dd := false) hH hN).weak hS0
  unfold m_model_Model_Add_w at hm
  refine calls_of_CW (n := 46) Try.func9 rfl rfl (Nat.le_of_ble_eq_true rfl) ?_
  refine CW_seq ?_
  refine CW_region ?_
  refine LV (R_assign (v := (.int .i64 0)) rfl) ?_
  refine LW_nil ?_
  refine sq_n ?_
  refine CW_seq ?_
  refine CW_seq ?_
  refine CW_region ?_
  refine LV (R_move (v := (.pointer (some ⟨b_a0, 0, none⟩))) rfl) ?_
  refine LV (R_ptrEqNil Try.underlying25 rfl rfl) ?_
  refine LW_nil ?_
  refine sq_n ?_
  refine CW_if_false rfl ?_
  refine CW_skip ?_
  refine sq_n ?_
  refine CW_seq ?_
  refine CW_region ?_
  refine LV (R_move (v := (.pointer (some ⟨b_a0, 0, none⟩))) rfl) ?_
  refine LV (R_nilCheck rfl) ?_
  refine LV (R_field fa53_5 rfl) ?_
  refine LV (R_load (v := (.int .i64 a0_n)) rfl (load_box1 hST.has (.head _) rfl Try.isAgg3)) ?_
  refine LV (R_assign (v := (.int .i64 a0_n)) rfl) ?_
  refine LW_nil ?_
  refine sq_n ?_
  refine CW_seq ?_
  refine CW_seq ?_
  refine CW_region ?_
  refine LV (R_move (v := v_a1) rfl) ?_
  refine LV (R_len Try.underlying24 rfl h_a1) ?_
  refine LV (R_move (v := (.int .i64 0)) rfl) ?_
  refine LW_nil ?_
  refine sq_n ?_
  refine CW_range (fun i E W => ∃ (l500 : List (Role × (List (ByteArray × Bool)))) (R502 : List (Nat × Obj)) (v503 : Value) (l504 : List Cred) (R506 : List (Nat × Obj)) (l507 : List (Role × (List Cred))) (R509 : List (Nat × Obj)) (l510 : List (ByteArray × (List Cred))) (R512 : List (Nat × Obj)) (v513 : Value) (l514 : List Fact) (R516 : List (Nat × Obj)) (x517 : Int) (μ499 : Mem) (L650 : List (Nat × Obj)), (E 16 = .int .i64 (i : Nat) ∧ E 15 = .int .i64 (a1.length : Nat)) ∧ Sub μ0 μ499 ∧ ST false (keys ((b_a0, Obj.cells (#[v_a0_in_, v_a0_creds, v_a0_uses, v_a0_words, v_a0_todo, (.int .i64 a0_n)] : Array Value) 53 (0, 0)) :: (R_a0_in_ ++ (R_a0_creds ++ (R_a0_uses ++ (R_a0_words ++ (R_a0_todo ++ []))))))) w W μ499 ((b_a0, Obj.cells (#[v_a0_in_, v503, v_a0_uses, v_a0_words, v513, (.int .i64 x517)] : Array Value) 53 (0, 0)) :: (R502 ++ (R506 ++ (R509 ++ (R512 ++ (R516 ++ L650)))))) ∧ E 0 = (.pointer (some ⟨b_a0, 0, none⟩)) ∧ E 5 = (.int .i64 a0_n) ∧ E 14 = v_a1 ∧ DeepE (fun (x : Role) => (.agg (encRole x).toArray)) (MapRow Value.string (fun (x : Bool) => (Value.bool x))) v_a0_in_ l500 R502 ∧ Row 36 encCred 9 v503 l504 R506 ∧ DeepE (fun (x : Role) => (.agg (encRole x).toArray)) (Row 36 encCred 9) v_a0_uses l507 R509 ∧ DeepE Value.string (Row 36 encCred 9) v_a0_words l510 R512 ∧ Que 43 encFact 3 v513 l514 R516 ∧ m_model_Model_Add_w_L1 a0_n (a1.drop i) l500 l504 l507 l510 l514 x517 = some r) a1.length h_a1.len ⟨a0_in_, R_a0_in_, v_a0_creds, a0_creds, R_a0_creds, a0_uses, R_a0_uses, a0_words, R_a0_words, v_a0_todo, a0_todo, R_a0_todo, a0_n, μ0, _, ⟨rfl, rfl⟩, (Sub.refl _), (hST.sublist (List.Sublist.refl _)), rfl, rfl, rfl, h_a0_in_, h_a0_creds, h_a0_uses, h_a0_words, h_a0_todo, hm⟩ (by decide) (by decide) (by decide) (fun _ _ _ h => by obtain ⟨_, _, _, _, _, _, _, _, _, _, _, _, _, _, _, eIN, _⟩ := h; exact eIN) ?_ ?_
  · rintro i383 E W hi389 ⟨l500, R502, v503, l504, R506, l507, R509, l510, R512, v513, l514, R516, x517, μ499, L650, ⟨eI, eN⟩, hle652, hST, e653, e654, e655, hs501, hs505, hs508, hs511, hs515, hm651⟩
    obtain ⟨x384, xs385, hx387, hx386, hx388⟩ := drop_cons hi389
    rw [hx387] at hm651
    rw [m_model_Model_Add_w_L1] at hm651
    refine CW_block ?_
    refine CW_seq ?_
    refine CW_region ?_
    refine LQ (R_indexP (enc := encCred) (i := (i383 : Int)) (x0 := x384) Try.underlying24 Try.sizeOf36 e655 eI (h_a1.mono (Pl.mono _) hle652) (Int.natCast_nonneg _) hx386) (fun p656 hp657 => ?_)
    refine LV (R_load rfl (load_atA hST.has hp657 Try.isAgg36 Try.sizeOf36)) ?_
    refine LE (E_alloc hST Try.zeroValue36 (fun W660 b659 hST => ?_))
    refine LW_e0 (.inl rfl) rfl (E_store [] (.agg (encCred x384).toArray) ((encCred x384).toArray) hST rfl rfl Try.sizeOf36 (oneCred x384) (Nat.le_of_ble_eq_true rfl) rfl (fun W661 hST => ?_))
    refine LW_nil ?_
    refine sq_n ?_
    refine CW_seq ?_
    refine PX_start (fun l W => Has μ499 ((b659, Obj.cells ((encCred x384).toArray : Array Value) 36 (0, 0)) :: ((b_a0, Obj.cells (#[v_a0_in_, v503, v_a0_uses, v_a0_words, v513, (.int .i64 x517)] : Array Value) 53 (0, 0)) :: [])) W) Try_mixed ?_
    replace hST := hST.drew
    replace hST : ST false (keys ((b_a0, Obj.cells (#[v_a0_in_, v_a0_creds, v_a0_uses, v_a0_words, v_a0_todo, (.int .i64 a0_n)] : Array Value) 53 (0, 0)) :: (R_a0_in_ ++ (R_a0_creds ++ (R_a0_uses ++ (R_a0_words ++ (R_a0_todo ++ []))))))) w _ _ ((b659, Obj.cells ((encCred x384).toArray : Array Value) 36 (0, 0)) :: ((b_a0, Obj.cells (#[v_a0_in_, v503, v_a0_uses, v_a0_words, v513, (.int .i64 x517)] : Array Value) 53 (0, 0)) :: (R502 ++ (R506 ++ (R509 ++ (R512 ++ (R516 ++ L650))))))) := hST
    have hS0 : Has μ499 ((b659, Obj.cells ((encCred x384).toArray : Array Value) 36 (0, 0)) :: ((b_a0, Obj.cells (#[v_a0_in_, v503, v_a0_uses, v_a0_words, v513, (.int .i64 x517)] : Array Value) 53 (0, 0)) :: [])) _ := hST.has.sub (Sub.refl _) (fun p hq => ((List.mem_cons.1 hq).elim (fun hq => by rw [hq]; exact (.head _)) (fun hq => ((List.mem_cons.1 hq).elim (fun hq => by rw [hq]; exact (.tail _ (.head _))) (fun hq => (absurd hq List.not_mem_nil))))))
    refine PX_v 0 rfl (by kernel_rfl) (.inl rfl) rfl (by decide) (fun _ _ h => h) hS0 (fun l W hpd hs => have hS := hs; R_load (v := (.agg (encCred x384).toArray)) rfl (load_boxA hS (.head _) (encCred x384) rfl Try.isAgg36 Try.sizeOf36)) ?_
    obtain ⟨r710, hr711, hm651⟩ := bind_some hm651
    refine PX_e 1 rfl (by kernel_rfl) (.inl rfl) rfl (by decide) (E_gives (args := [(.agg (encCred x384).toArray)]) hST rfl Try.call22 (by exact args1 rfl) (Gives.weak (w_cred_Right x384 _ _  hr711)) (fun W712 hST => ?_))
    have hS0 : Has μ499 ((b659, Obj.cells ((encCred x384).toArray : Array Value) 36 (0, 0)) :: ((b_a0, Obj.cells (#[v_a0_in_, v503, v_a0_uses, v_a0_words, v513, (.int .i64 x517)] : Array Value) 53 (0, 0)) :: [])) _ := hST.has.sub (Sub.refl _) (fun p hq => ((List.mem_cons.1 hq).elim (fun hq => by rw [hq]; exact (.head _)) (fun hq => ((List.mem_cons.1 hq).elim (fun hq => by rw [hq]; exact (.tail _ (.head _))) (fun hq => (absurd hq List.not_mem_nil))))))
    refine ⟨hS0, ?_⟩
    refine PV 2 rfl hS0 (R_move (v := (.bool r710)) rfl) ?_
    obtain ⟨s758, hm759, hm760⟩ := bind_some hm651
    refine PX_join (J := fun E W => ∃ (x717 : Bool) (L718 : List (Nat × Obj)), ST false (keys ((b_a0, Obj.cells (#[v_a0_in_, v_a0_creds, v_a0_uses, v_a0_words, v_a0_todo, (.int .i64 a0_n)] : Array Value) 53 (0, 0)) :: (R_a0_in_ ++ (R_a0_creds ++ (R_a0_uses ++ (R_a0_words ++ (R_a0_todo ++ []))))))) w W μ499 ((b659, Obj.cells ((encCred x384).toArray : Array Value) 36 (0, 0)) :: ((b_a0, Obj.cells (#[v_a0_in_, v503, v_a0_uses, v_a0_words, v513, (.int .i64 x517)] : Array Value) 53 (0, 0)) :: (R502 ++ (R506 ++ (R509 ++ (R512 ++ (R516 ++ L718))))))) ∧ E 0 = (.pointer (some ⟨b_a0, 0, none⟩)) ∧ E 5 = (.int .i64 a0_n) ∧ E 7 = (.pointer (some ⟨b659, 0, none⟩)) ∧ E 14 = v_a1 ∧ E 15 = (.int .i64 ((a1.length : Int))) ∧ E 16 = (.int .i64 ((i383 : Int))) ∧ E 30 = (.bool x717) ∧ (if x717 then (((m_model_Model_note_w l500 l504 l507 l510 l514 x517 x384)).bind fun r728 => (((m_model_Model_begin_w l500 r728.1 r728.2.1 r728.2.2 l514 x517 x384)).bind fun r744 => (m_model_Model_Add_w_L1 a0_n xs385 r744.1 r728.1 r728.2.1 r728.2.2 r744.2.1 r744.2.2))) else (m_model_Model_Add_w_L1 a0_n xs385 l500 l504 l507 l510 l514 x517)) = some r) #[true, true, true, true, true, true, true, true, true, true, true] 0 ?_ (fun key761 => ?_)
    · rintro E W ⟨x717, L718, hST, e720, e721, e722, e723, e724, e725, e726, hm719⟩
      have hS0 : Has μ499 ((b659, Obj.cells ((encCred x384).toArray : Array Value) 36 (0, 0)) :: ((b_a0, Obj.cells (#[v_a0_in_, v503, v_a0_uses, v_a0_words, v513, (.int .i64 x517)] : Array Value) 53 (0, 0)) :: [])) _ := hST.has.sub (Sub.refl _) (fun p hq => ((List.mem_cons.1 hq).elim (fun hq => by rw [hq]; exact (.head _)) (fun hq => ((List.mem_cons.1 hq).elim (fun hq => by rw [hq]; exact (.tail _ (.head _))) (fun hq => (absurd hq List.not_mem_nil))))))
      refine PX_done (by kernel_rfl) ?_
      refine sq_n ?_
      refine CW_if (b := x717) e726 (fun hb727 => ?_) (fun hb727 => ?_)
      · replace hm719 := if_t hb727 hm719
        refine CW_seq ?_
        refine CW_region ?_
        refine LV (R_move (v := (.pointer (some ⟨b_a0, 0, none⟩))) e720) ?_
        refine LV (R_load (v := (.agg (encCred x384).toArray)) e722 (load_boxA hST.has (.head _) (encCred x384) rfl Try.isAgg36 Try.sizeOf36)) ?_
        obtain ⟨r728, hr729, hm719⟩ := bind_some hm719
        replace hST : ST false (keys ((b_a0, Obj.cells (#[v_a0_in_, v_a0_creds, v_a0_uses, v_a0_words, v_a0_todo, (.int .i64 a0_n)] : Array Value) 53 (0, 0)) :: (R_a0_in_ ++ (R_a0_creds ++ (R_a0_uses ++ (R_a0_words ++ (R_a0_todo ++ []))))))) w _ _ ((b_a0, Obj.cells (#[v_a0_in_, v503, v_a0_uses, v_a0_words, v513, (.int .i64 x517)] : Array Value) 53 (0, 0)) :: (R502 ++ (R506 ++ (R509 ++ (R512 ++ (R516 ++ ((b659, Obj.cells ((encCred x384).toArray : Array Value) 36 (0, 0)) :: L718))))))) := hST.perm (permD [[(b659, Obj.cells ((encCred x384).toArray : Array Value) 36 (0, 0))], [(b_a0, Obj.cells (#[v_a0_in_, v503, v_a0_uses, v_a0_words, v513, (.int .i64 x517)] : Array Value) 53 (0, 0))], R502, R506, R509, R512, R516] [0, 1, 2, 3, 4, 5, 6] [1, 2, 3, 4, 5, 6, 0] L718 (by decide) rfl rfl)
        have hsz := hST.size
        refine LE (E_callM (args := [(.pointer (some ⟨b_a0, 0, none⟩)), (.agg (encCred x384).toArray)]) (caps := #[]) (((b_a0, Obj.cells (#[v_a0_in_, v503, v_a0_uses, v_a0_words, v513, (.int .i64 x517)] : Array Value) 53 (0, 0)) :: (R502 ++ (R506 ++ (R509 ++ (R512 ++ (R516 ++ []))))))) (((b659, Obj.cells ((encCred x384).toArray : Array Value) 36 (0, 0)) :: L718)) hST (by simp only [List.append_assoc, List.cons_append, List.nil_append]; exact List.Perm.refl _) rfl Try.call24 (by exact args2 rfl rfl) (fun hH hN hsb hmm => GivesM.weak (w_model_Model_note_w b_a0 v_a0_in_ l500 R502 v503 l504 R506 v_a0_uses l507 R509 v_a0_words l510 R512 v513 l514 R516 x517 x384 _ _ hH hN (Sub.refl _) hs501 hs505 hs508 hs511 hs515 hr729)) (fun W730 v733 μ731 L735 hST hle732 hlift hK734 => ?_))
        obtain ⟨y736, S737, S739, S741, hv743, rfl, hy738, hy740, hy742⟩ := hK734
        replace hv743 := hv743.symm; subst hv743
        simp only [List.append_assoc, List.cons_append, List.nil_append] at hST
        replace hST : ST false (keys ((b_a0, Obj.cells (#[v_a0_in_, v_a0_creds, v_a0_uses, v_a0_words, v_a0_todo, (.int .i64 a0_n)] : Array Value) 53 (0, 0)) :: (R_a0_in_ ++ (R_a0_creds ++ (R_a0_uses ++ (R_a0_words ++ (R_a0_todo ++ []))))))) w _ _ ((b_a0, Obj.cells (#[v_a0_in_, y736, v_a0_uses, v_a0_words, v513, (.int .i64 x517)] : Array Value) 53 (0, 0)) :: ((b659, Obj.cells ((encCred x384).toArray : Array Value) 36 (0, 0)) :: (R502 ++ (S737 ++ (S739 ++ (S741 ++ (R516 ++ L718))))))) := hST.perm (permD [[(b_a0, Obj.cells (#[v_a0_in_, y736, v_a0_uses, v_a0_words, v513, (.int .i64 x517)] : Array Value) 53 (0, 0))], R502, S737, S739, S741, R516, [(b659, Obj.cells ((encCred x384).toArray : Array Value) 36 (0, 0))]] [0, 1, 2, 3, 4, 5, 6] [0, 6, 1, 2, 3, 4, 5] L718 (by decide) rfl rfl)
        refine LW_nil ?_
        refine sq_n ?_
        refine CW_region ?_
        refine LV (R_move (v := (.pointer (some ⟨b_a0, 0, none⟩))) e720) ?_
        refine LV (R_load (v := (.agg (encCred x384).toArray)) e722 (load_boxA hST.has (.tail _ (.head _)) (encCred x384) rfl Try.isAgg36 Try.sizeOf36)) ?_
        obtain ⟨r744, hr745, hm719⟩ := bind_some hm719
        replace hST : ST false (keys ((b_a0, Obj.cells (#[v_a0_in_, v_a0_creds, v_a0_uses, v_a0_words, v_a0_todo, (.int .i64 a0_n)] : Array Value) 53 (0, 0)) :: (R_a0_in_ ++ (R_a0_creds ++ (R_a0_uses ++ (R_a0_words ++ (R_a0_todo ++ []))))))) w _ _ ((b_a0, Obj.cells (#[v_a0_in_, y736, v_a0_uses, v_a0_words, v513, (.int .i64 x517)] : Array Value) 53 (0, 0)) :: (R502 ++ (S737 ++ (S739 ++ (S741 ++ (R516 ++ ((b659, Obj.cells ((encCred x384).toArray : Array Value) 36 (0, 0)) :: L718))))))) := hST.perm (permD [[(b_a0, Obj.cells (#[v_a0_in_, y736, v_a0_uses, v_a0_words, v513, (.int .i64 x517)] : Array Value) 53 (0, 0))], [(b659, Obj.cells ((encCred x384).toArray : Array Value) 36 (0, 0))], R502, S737, S739, S741, R516] [0, 1, 2, 3, 4, 5, 6] [0, 2, 3, 4, 5, 6, 1] L718 (by decide) rfl rfl)
        have hsz := hST.size
        refine LE (E_callM (args := [(.pointer (some ⟨b_a0, 0, none⟩)), (.agg (encCred x384).toArray)]) (caps := #[]) (((b_a0, Obj.cells (#[v_a0_in_, y736, v_a0_uses, v_a0_words, v513, (.int .i64 x517)] : Array Value) 53 (0, 0)) :: (R502 ++ (S737 ++ (S739 ++ (S741 ++ (R516 ++ []))))))) (((b659, Obj.cells ((encCred x384).toArray : Array Value) 36 (0, 0)) :: L718)) hST (by simp only [List.append_assoc, List.cons_append, List.nil_append]; exact List.Perm.refl _) rfl Try.call25 (by exact args2 rfl rfl) (fun hH hN hsb hmm => (w_model_Model_begin_w b_a0 v_a0_in_ l500 R502 y736 r728.1 S737 v_a0_uses r728.2.1 S739 v_a0_words r728.2.2 S741 v513 l514 R516 x517 x384 _ _ hH hN (Sub.refl _) hs501 hy738 hy740 hy742 hs515 hr745)) (fun W746 v749 μ747 L751 hST hle748 hlift hK750 => ?_))
        obtain ⟨S752, y754, S755, hv757, rfl, hy753, hy756⟩ := hK750
        replace hv757 := hv757.symm; subst hv757
        simp only [List.append_assoc, List.cons_append, List.nil_append] at hST
        replace hST : ST false (keys ((b_a0, Obj.cells (#[v_a0_in_, v_a0_creds, v_a0_uses, v_a0_words, v_a0_todo, (.int .i64 a0_n)] : Array Value) 53 (0, 0)) :: (R_a0_in_ ++ (R_a0_creds ++ (R_a0_uses ++ (R_a0_words ++ (R_a0_todo ++ []))))))) w _ _ ((b_a0, Obj.cells (#[v_a0_in_, y736, v_a0_uses, v_a0_words, y754, (.int .i64 (r744.2.2))] : Array Value) 53 (0, 0)) :: ((b659, Obj.cells ((encCred x384).toArray : Array Value) 36 (0, 0)) :: (S752 ++ (S737 ++ (S739 ++ (S741 ++ (S755 ++ L718))))))) := hST.perm (permD [[(b_a0, Obj.cells (#[v_a0_in_, y736, v_a0_uses, v_a0_words, y754, (.int .i64 (r744.2.2))] : Array Value) 53 (0, 0))], S752, S737, S739, S741, S755, [(b659, Obj.cells ((encCred x384).toArray : Array Value) 36 (0, 0))]] [0, 1, 2, 3, 4, 5, 6] [0, 6, 1, 2, 3, 4, 5] L718 (by decide) rfl rfl)
        refine LW_nil ?_
        refine bq_n ?_
        refine sq_n ?_
        replace hST : ST false (keys ((b_a0, Obj.cells (#[v_a0_in_, v_a0_creds, v_a0_uses, v_a0_words, v_a0_todo, (.int .i64 a0_n)] : Array Value) 53 (0, 0)) :: (R_a0_in_ ++ (R_a0_creds ++ (R_a0_uses ++ (R_a0_words ++ (R_a0_todo ++ []))))))) w _ _ ((b_a0, Obj.cells (#[v_a0_in_, y736, v_a0_uses, v_a0_words, y754, (.int .i64 (r744.2.2))] : Array Value) 53 (0, 0)) :: (S752 ++ (S737 ++ (S739 ++ (S741 ++ (S755 ++ L718)))))) := hST.sublist (List.Sublist.cons_cons _ (List.Sublist.cons _ (List.Sublist.refl _)))
        exact ⟨e725, r744.1, S752, y736, r728.1, S737, r728.2.1, S739, r728.2.2, S741, y754, r744.2.1, S755, r744.2.2, μ747, _, ⟨rfl, e724⟩, ((hle652.trans hle732).trans hle748), (hST.sublist (List.Sublist.refl _)), e720, e721, e723, hy753, hy738, hy740, hy742, hy756, (by rw [hx388]; exact hm719)⟩
      · replace hm719 := if_f hb727 hm719
        refine CW_skip ?_
        refine bq_n ?_
        refine sq_n ?_
        replace hST : ST false (keys ((b_a0, Obj.cells (#[v_a0_in_, v_a0_creds, v_a0_uses, v_a0_words, v_a0_todo, (.int .i64 a0_n)] : Array Value) 53 (0, 0)) :: (R_a0_in_ ++ (R_a0_creds ++ (R_a0_uses ++ (R_a0_words ++ (R_a0_todo ++ []))))))) w _ _ ((b_a0, Obj.cells (#[v_a0_in_, v503, v_a0_uses, v_a0_words, v513, (.int .i64 x517)] : Array Value) 53 (0, 0)) :: (R502 ++ (R506 ++ (R509 ++ (R512 ++ (R516 ++ L718)))))) := hST.sublist (List.Sublist.cons _ (List.Sublist.refl _))
        exact ⟨e725, l500, R502, v503, l504, R506, l507, R509, l510, R512, v513, l514, R516, x517, μ499, _, ⟨rfl, e724⟩, hle652, (hST.sublist (List.Sublist.refl _)), e720, e721, e723, hs501, hs505, hs508, hs511, hs515, (by rw [hx388]; exact hm719)⟩
    · rcases bool_cases r710 with hb713 | hb713
      · replace hm759 := if_t hb713 hm759
        refine PX_v 3 rfl (by kernel_rfl) (.inr ⟨2, true, 22, rfl, rfl, by decide, (congrArg Value.bool hb713)⟩) rfl (by decide) (fun _ _ h => h) hS0 (fun _ _ _ _ => R_move (v := (.pointer (some ⟨b_a0, 0, none⟩))) e653) ?_
        refine PX_v 4 rfl (by kernel_rfl) (.inr ⟨2, true, 22, rfl, rfl, by decide, (congrArg Value.bool hb713)⟩) rfl (by decide) (fun _ _ h => h) hS0 (fun _ _ _ _ => R_nilCheck rfl) ?_
        refine PX_v 5 rfl (by kernel_rfl) (.inr ⟨2, true, 22, rfl, rfl, by decide, (congrArg Value.bool hb713)⟩) rfl (by decide) (fun _ _ h => h) hS0 (fun _ _ _ _ => R_field fa53_1 rfl) ?_
        refine PX_v 6 rfl (by kernel_rfl) (.inr ⟨2, true, 22, rfl, rfl, by decide, (congrArg Value.bool hb713)⟩) rfl (by decide) (fun _ _ h => h) hS0 (fun l W hpd hs => have hS := hs; R_load (v := v503) rfl (load_box1 hS (.tail _ (.head _)) rfl Try.isAgg24)) ?_
        refine PX_v 7 rfl (by kernel_rfl) (.inr ⟨2, true, 22, rfl, rfl, by decide, (congrArg Value.bool hb713)⟩) rfl (by decide) (fun _ _ h => h) hS0 (fun l W hpd hs => have hS := hs; R_load (v := (.agg (encCred x384).toArray)) rfl (load_boxA hS (.head _) (encCred x384) rfl Try.isAgg36 Try.sizeOf36)) ?_
        obtain ⟨r762, hr763, hm759⟩ := bind_some hm759
        refine PX_e 8 rfl (by kernel_rfl) (.inr ⟨2, true, 22, rfl, rfl, by decide, (congrArg Value.bool hb713)⟩) rfl (by decide) (E_gives (args := [v503, (.agg (encCred x384).toArray)]) hST rfl Try.call23 (by exact args2 rfl rfl) (Gives.weak (w_cred_Has v503 l504 x384 _ _ (hs505.sl lenCred (fun b o hq => hST.at_ (.tail _ (.tail _ (List.mem_append_right _ (List.mem_append_left _ hq)))))) hr763)) (fun W764 hST => ?_))
        have hS0 : Has μ499 ((b659, Obj.cells ((encCred x384).toArray : Array Value) 36 (0, 0)) :: ((b_a0, Obj.cells (#[v_a0_in_, v503, v_a0_uses, v_a0_words, v513, (.int .i64 x517)] : Array Value) 53 (0, 0)) :: [])) _ := hST.has.sub (Sub.refl _) (fun p hq => ((List.mem_cons.1 hq).elim (fun hq => by rw [hq]; exact (.head _)) (fun hq => ((List.mem_cons.1 hq).elim (fun hq => by rw [hq]; exact (.tail _ (.head _))) (fun hq => (absurd hq List.not_mem_nil))))))
        refine ⟨hS0, ?_⟩
        refine PX_v 9 rfl (by kernel_rfl) (.inr ⟨2, true, 22, rfl, rfl, by decide, (congrArg Value.bool hb713)⟩) rfl (by decide) (fun _ _ h => h) hS0 (fun _ _ _ _ => R_not (b := r762) rfl) ?_
        refine PV 10 rfl hS0 (R_pickT (v := (.bool ((!r762)))) (congrArg Value.bool hb713) rfl) ?_
        replace hm759 := Option.some.inj hm759; subst hm759
        refine PX_at (by kernel_rfl) (key761 _ _ ⟨((!r762)), _, (hST.sublist (List.Sublist.refl _)), e653, e654, rfl, e655, eN, eI, rfl, hm760⟩)
      · replace hm759 := if_f hb713 hm759
        refine PX_no 3 rfl (by kernel_rfl) rfl rfl (by decide) (congrArg Value.bool hb713) rfl (by decide) (fun _ _ h => h) hS0 ?_
        refine PX_no 4 rfl (by kernel_rfl) rfl rfl (by decide) (congrArg Value.bool hb713) rfl (by decide) (fun _ _ h => h) hS0 ?_
        refine PX_no 5 rfl (by kernel_rfl) rfl rfl (by decide) (congrArg Value.bool hb713) rfl (by decide) (fun _ _ h => h) hS0 ?_
        refine PX_no 6 rfl (by kernel_rfl) rfl rfl (by decide) (congrArg Value.bool hb713) rfl (by decide) (fun _ _ h => h) hS0 ?_
        refine PX_no 7 rfl (by kernel_rfl) rfl rfl (by decide) (congrArg Value.bool hb713) rfl (by decide) (fun _ _ h => h) hS0 ?_
        refine PX_no 8 rfl (by kernel_rfl) rfl rfl (by decide) (congrArg Value.bool hb713) rfl (by decide) (fun _ _ h => h) hS0 ?_
        refine PX_no 9 rfl (by kernel_rfl) rfl rfl (by decide) (congrArg Value.bool hb713) rfl (by decide) (fun _ _ h => h) hS0 ?_
        refine PV 10 rfl hS0 (R_pickF (v := (.bool false)) (congrArg Value.bool hb713) rfl) ?_
        replace hm759 := Option.some.inj hm759; subst hm759
        refine PX_at (by kernel_rfl) (key761 _ _ ⟨false, _, (hST.sublist (List.Sublist.refl _)), e653, e654, rfl, e655, eN, eI, rfl, hm760⟩)
  · rintro E W ⟨l500, R502, v503, l504, R506, l507, R509, l510, R512, v513, l514, R516, x517, μ499, L650, ⟨eI, eN⟩, hle652, hST, e653, e654, e655, hs501, hs505, hs508, hs511, hs515, hm651⟩
    rw [List.drop_length] at hm651
    rw [m_model_Model_Add_w_L1] at hm651
    refine sq_n ?_
    refine CW_seq ?_
    refine CW_region ?_
    refine LV (R_move (v := (.pointer (some ⟨b_a0, 0, none⟩))) e653) ?_
    obtain ⟨r765, hr766, hm651⟩ := bind_some hm651
    replace hST : ST false (keys ((b_a0, Obj.cells (#[v_a0_in_, v_a0_creds, v_a0_uses, v_a0_words, v_a0_todo, (.int .i64 a0_n)] : Array Value) 53 (0, 0)) :: (R_a0_in_ ++ (R_a0_creds ++ (R_a0_uses ++ (R_a0_words ++ (R_a0_todo ++ []))))))) w _ _ ((b_a0, Obj.cells (#[v_a0_in_, v503, v_a0_uses, v_a0_words, v513, (.int .i64 x517)] : Array Value) 53 (0, 0)) :: (R502 ++ (R506 ++ (R509 ++ (R512 ++ (R516 ++ L650)))))) := hST.perm (List.Perm.refl _)
    have hsz := hST.size
    refine LE (E_callM (args := [(.pointer (some ⟨b_a0, 0, none⟩))]) (caps := #[]) (((b_a0, Obj.cells (#[v_a0_in_, v503, v_a0_uses, v_a0_words, v513, (.int .i64 x517)] : Array Value) 53 (0, 0)) :: (R502 ++ (R506 ++ (R509 ++ (R512 ++ (R516 ++ []))))))) L650 hST (by simp only [List.append_assoc, List.cons_append, List.nil_append]; exact List.Perm.refl _) rfl Try.call26 (by exact args1 rfl) (fun hH hN hsb hmm => (w_model_Model_settle_w b_a0 v_a0_in_ l500 R502 v503 l504 R506 v_a0_uses l507 R509 v_a0_words l510 R512 v513 l514 R516 x517 _ _ hH hN (Sub.refl _) hs501 hs505 hs508 hs511 hs515 hr766)) (fun W767 v770 μ768 L772 hST hle769 hlift hK771 => ?_))
    obtain ⟨S773, y775, S776, hv778, rfl, hy774, hy777⟩ := hK771
    replace hv778 := hv778.symm; subst hv778
    simp only [List.append_assoc, List.cons_append, List.nil_append] at hST
    refine LW_nil ?_
    refine sq_n ?_
    refine CW_seq ?_
    refine CW_region ?_
    refine LV (R_move (v := (.pointer (some ⟨b_a0, 0, none⟩))) e653) ?_
    refine LV (R_nilCheck rfl) ?_
    refine LV (R_field fa53_5 rfl) ?_
    refine LV (R_load (v := (.int .i64 r765.2.2)) rfl (load_box1 hST.has (.head _) rfl Try.isAgg3)) ?_
    refine LV (R_move (v := (.int .i64 a0_n)) e654) ?_
    refine LV (R_int (k := .i64) (a := r765.2.2) (b := a0_n) (v := (.int .i64 ((IntKind.i64.wrap (r765.2.2 - a0_n))))) rfl rfl rfl) ?_
    refine LV (R_assign (v := (.int .i64 ((IntKind.i64.wrap (r765.2.2 - a0_n))))) rfl) ?_
    refine LW_nil ?_
    refine sq_n ?_
    refine CW_ret ?_
    replace hm651 := Option.some.inj hm651; subst hm651
    refine retQ_1 (v := (.int .i64 ((IntKind.i64.wrap (r765.2.2 - a0_n))))) rfl rfl ?_
    replace hST : ST false (keys ((b_a0, Obj.cells (#[v_a0_in_, v_a0_creds, v_a0_uses, v_a0_words, v_a0_todo, (.int .i64 a0_n)] : Array Value) 53 (0, 0)) :: (R_a0_in_ ++ (R_a0_creds ++ (R_a0_uses ++ (R_a0_words ++ (R_a0_todo ++ []))))))) w _ _ ((b_a0, Obj.cells (#[v_a0_in_, v503, v_a0_uses, v_a0_words, y775, (.int .i64 (r765.2.2))] : Array Value) 53 (0, 0)) :: (S773 ++ (R506 ++ (R509 ++ (R512 ++ (S776 ++ L650)))))) := hST
    exact ⟨_, ((b_a0, Obj.cells (#[v_a0_in_, v503, v_a0_uses, v_a0_words, y775, (.int .i64 (r765.2.2))] : Array Value) 53 (0, 0)) :: (S773 ++ (R506 ++ (R509 ++ (R512 ++ (S776 ++ [])))))), rfl, (ST.backM (L1 := ((b_a0, Obj.cells (#[v_a0_in_, v503, v_a0_uses, v_a0_words, y775, (.int .i64 (r765.2.2))] : Array Value) 53 (0, 0)) :: (S773 ++ (R506 ++ (R509 ++ (R512 ++ (S776 ++ []))))))) (by have hh : ST false (keys ((b_a0, Obj.cells (#[v_a0_in_, v_a0_creds, v_a0_uses, v_a0_words, v_a0_todo, (.int .i64 a0_n)] : Array Value) 53 (0, 0)) :: (R_a0_in_ ++ (R_a0_creds ++ (R_a0_uses ++ (R_a0_words ++ (R_a0_todo ++ []))))))) w _ _ ((b_a0, Obj.cells (#[v_a0_in_, v503, v_a0_uses, v_a0_words, y775, (.int .i64 (r765.2.2))] : Array Value) 53 (0, 0)) :: (S773 ++ (R506 ++ (R509 ++ (R512 ++ (S776 ++ L650)))))) := hST.perm (List.Perm.refl _); simpa only [List.append_assoc, List.cons_append, List.nil_append] using hh)), S773, v503, R506, R509, R512, y775, S776, rfl, rfl, hy774, hs505, hs508, hs511, hy777⟩
theorem w_model_Of (v_a0 : Value) (a0 : List Cred) (r : ((List (Role × (List (ByteArray × Bool)))) × (List Cred) × (List (Role × (List Cred))) × (List (ByteArray × (List Cred))) × (List Fact) × Int)) (w : World) (h_a0 : Sl (Pl encCred) 9 (hp w) v_a0 a0) (hm : m_model_Of a0 = some r) :
    GivesM false Try.prog 6 [v_a0] w [] (fun v L1 W' => ∃ (b1 : Nat) (y2 : Value) (S3 : List (Nat × Obj)) (y5 : Value) (S6 : List (Nat × Obj)) (y8 : Value) (S9 : List (Nat × Obj)) (y11 : Value) (S12 : List (Nat × Obj)) (y14 : Value) (S15 : List (Nat × Obj)), v = (.pointer (some ⟨b1, 0, none⟩)) ∧ L1 = ((b1, Obj.cells (#[y2, y5, y8, y11, y14, (.int .i64 (r.2.2.2.2.2))] : Array Value) 53 (0, 0)) :: (S3 ++ (S6 ++ (S9 ++ (S12 ++ (S15 ++ [])))))) ∧ DeepE (fun (x : Role) => (.agg (encRole x).toArray)) (MapRow Value.string (fun (x : Bool) => (Value.bool x))) y2 r.1 S3 ∧ Row 36 encCred 9 y5 r.2.1 S6 ∧ DeepE (fun (x : Role) => (.agg (encRole x).toArray)) (Row 36 encCred 9) y8 r.2.2.1 S9 ∧ DeepE Value.string (Row 36 encCred 9) y11 r.2.2.2.1 S12 ∧ Que 43 encFact 3 y14 r.2.2.2.2.1 S15) := by
  have hST := ST.start (dd := false) w
  unfold m_model_Of at hm
  refine calls_of_CW (n := 13) Try.func6 rfl rfl (Nat.le_of_ble_eq_true rfl) ?_
  refine CW_seq ?_
  refine CW_region ?_
  refine LV (R_assign (v := (.pointer none)) rfl) ?_
  refine LW_nil ?_
  refine sq_n ?_
  refine CW_seq ?_
  refine CW_region ?_
  refine LE (E_makeMapD (P := Try.prog) (fun (x : Role) => (.agg (encRole x).toArray)) (MapRow Value.string (fun (x : Bool) => (Value.bool x))) hST (fun W1 v4 R2 hST hR3 => ?_))
  refine LE (E_makeMapD (P := Try.prog) (fun (x : Role) => (.agg (encRole x).toArray)) (Row 36 encCred 9) hST (fun W5 v8 R6 hST hR7 => ?_))
  refine LE (E_makeMapD (P := Try.prog) Value.string (Row 36 encCred 9) hST (fun W9 v12 R10 hST hR11 => ?_))
  obtain ⟨m13, rfl⟩ := hR3.form
  obtain ⟨m14, rfl⟩ := hR7.form
  obtain ⟨m15, rfl⟩ := hR11.form
  refine LV (R_build (qs := #[(0, (.map (some m13))), (2, (.map (some m14))), (3, (.map (some m15)))]) (v := (.agg #[(.map (some m13)), (.slice none 0 0), (.map (some m14)), (.map (some m15)), (.slice none 0 0), (.int .i64 0)])) (parts3 rfl rfl rfl) (run_build Try.zeroValue53 Try.underlying53 (pl53 _ Try.underlying53) (by kernel_rfl))) ?_
  refine LE (E_box (v := (.agg #[(.map (some m13)), (.slice none 0 0), (.map (some m14)), (.map (some m15)), (.slice none 0 0), (.int .i64 0)])) hST rfl (fun W17 b16 hST => ?_))
  refine LV (R_assign (v := (.pointer (some ⟨b16, 0, none⟩))) rfl) ?_
  refine LW_nil ?_
  refine sq_n ?_
  refine CW_seq ?_
  refine CW_region ?_
  refine LV (R_move (v := (.pointer (some ⟨b16, 0, none⟩))) rfl) ?_
  refine LV (R_move (v := v_a0) rfl) ?_
  replace hST : ST false NoF w _ _ ((b16, Obj.cells (#[(.map (some m13)), (.slice none 0 0), (.map (some m14)), (.map (some m15)), (.slice none 0 0), (.int .i64 0)] : Array Value) 53 (0, 0)) :: (R10 ++ (R6 ++ (R2 ++ [])))) := hST
  obtain ⟨r18, hr19, hm⟩ := bind_some hm
  replace hST : ST false NoF w _ _ ((b16, Obj.cells (#[(.map (some m13)), (.slice none 0 0), (.map (some m14)), (.map (some m15)), (.slice none 0 0), (.int .i64 0)] : Array Value) 53 (0, 0)) :: (R2 ++ (R6 ++ (R10 ++ [])))) := hST.perm (permD [[(b16, Obj.cells (#[(.map (some m13)), (.slice none 0 0), (.map (some m14)), (.map (some m15)), (.slice none 0 0), (.int .i64 0)] : Array Value) 53 (0, 0))], R10, R6, R2] [0, 1, 2, 3] [0, 3, 2, 1] ([]) (by decide) rfl rfl)
  have hsz := hST.size
  refine LE (E_callM (args := [(.pointer (some ⟨b16, 0, none⟩)), v_a0]) (caps := #[]) (((b16, Obj.cells (#[(.map (some m13)), (.slice none 0 0), (.map (some m14)), (.map (some m15)), (.slice none 0 0), (.int .i64 0)] : Array Value) 53 (0, 0)) :: (R2 ++ ([] ++ (R6 ++ (R10 ++ ([] ++ []))))))) ([]) hST (by simp only [List.append_assoc, List.cons_append, List.nil_append]; exact List.Perm.refl _) rfl Try.call9 (by exact args2 rfl rfl) (fun hH hN hsb hmm => (w_model_Model_Add_w b16 (.map (some m13)) ([]) R2 (.slice none 0 0) ([]) [] (.map (some m14)) ([]) R6 (.map (some m15)) ([]) R10 (.slice none 0 0) ([]) [] 0 v_a0 a0 _ _ hH hN (Sub.refl _) hR3 (Row.nil _ _ _) hR7 hR11 (Que.nil _ _ _) (h_a0.mono (Pl.mono _) hsb) hr19)) (fun W20 v23 μ21 L25 hST hle22 hlift hK24 => ?_))
  obtain ⟨S26, y28, S29, S31, S33, y35, S36, hv38, rfl, hy27, hy30, hy32, hy34, hy37⟩ := hK24
  replace hv38 := hv38.symm; subst hv38
  simp only [List.append_assoc, List.cons_append, List.nil_append] at hST
  refine LW_nil ?_
  refine sq_n ?_
  refine CW_seq ?_
  refine CW_region ?_
  refine LV (R_move (v := (.pointer (some ⟨b16, 0, none⟩))) rfl) ?_
  refine LV (R_assign (v := (.pointer (some ⟨b16, 0, none⟩))) rfl) ?_
  refine LW_nil ?_
  refine sq_n ?_
  refine CW_ret ?_
  replace hm := Option.some.inj hm; subst hm
  refine retQ_1 (v := (.pointer (some ⟨b16, 0, none⟩))) rfl rfl ?_
  replace hST : ST false NoF w _ _ ((b16, Obj.cells (#[(.map (some m13)), y28, (.map (some m14)), (.map (some m15)), y35, (.int .i64 (r18.2.2.2.2.2.2))] : Array Value) 53 (0, 0)) :: (S26 ++ (S29 ++ (S31 ++ (S33 ++ (S36 ++ [])))))) := hST
  exact ⟨_, ((b16, Obj.cells (#[(.map (some m13)), y28, (.map (some m14)), (.map (some m15)), y35, (.int .i64 (r18.2.2.2.2.2.2))] : Array Value) 53 (0, 0)) :: (S26 ++ (S29 ++ (S31 ++ (S33 ++ (S36 ++ [])))))), rfl, (ST.backL (L1 := ((b16, Obj.cells (#[(.map (some m13)), y28, (.map (some m14)), (.map (some m15)), y35, (.int .i64 (r18.2.2.2.2.2.2))] : Array Value) 53 (0, 0)) :: (S26 ++ (S29 ++ (S31 ++ (S33 ++ (S36 ++ []))))))) (by have hh : ST false NoF w _ _ ((b16, Obj.cells (#[(.map (some m13)), y28, (.map (some m14)), (.map (some m15)), y35, (.int .i64 (r18.2.2.2.2.2.2))] : Array Value) 53 (0, 0)) :: (S26 ++ (S29 ++ (S31 ++ (S33 ++ (S36 ++ [])))))) := hST.perm (List.Perm.refl _); simpa only [List.append_assoc, List.cons_append, List.nil_append] using hh)), b16, (.map (some m13)), S26, y28, S29, (.map (some m14)), S31, (.map (some m15)), S33, y35, S36, rfl, rfl, hy27, hy30, hy32, hy34, hy37⟩
theorem w_sortS54 (v_a0 : Value) (a0 : List ByteArray) (R_a0 : List (Nat × Obj)) (r : List ByteArray) (w : World) {μ0 : Mem} (hH : Held (R_a0 ++ []) w) (hN : (((R_a0 ++ []) : List (Nat × Obj)).map (·.1)).Nodup) (hS0 : Sub μ0 (hpx w (R_a0 ++ []))) (h_a0 : Row 9 encSk 1 v_a0 a0 R_a0) (hm : sortS a0 = some r) :
    GivesM true Try.prog 54 [v_a0] w (R_a0 ++ []) (fun v L1 W' => ∃ (S : List (Nat × Obj)), v = (.tuple #[]) ∧ L1 = (S ++ []) ∧ Row 9 encSk 1 v_a0 r S) := sortS_gives (P := Try.prog) (ρ := ren54) lay54 hH h_a0 hm
theorem w_slices_Compact_string (v_a0 : Value) (a0 : List ByteArray) (R_a0 : List (Nat × Obj)) (r : List ByteArray) (w : World) {μ0 : Mem} (hH : Held (R_a0 ++ []) w) (hN : (((R_a0 ++ []) : List (Nat × Obj)).map (·.1)).Nodup) (hS0 : Sub μ0 (hpx w (R_a0 ++ []))) (h_a0 : Row 9 encSk 1 v_a0 a0 R_a0) (hm : m_slices_Compact_string a0 = some r) :
    GivesM true Try.prog 55 [v_a0] w (R_a0 ++ []) (fun v L1 W' => ∃ (y1 : Value) (S2 : List (Nat × Obj)), v = y1 ∧ L1 = (S2 ++ []) ∧ Row 9 encSk 1 y1 r S2) := by
  have hST := (ST.startM (dd := true) hH hN).weak hS0
  unfold m_slices_Compact_string at hm
  refine calls_of_CW (n := 61) Try.func55 rfl rfl (Nat.le_of_ble_eq_true rfl) ?_
  refine CW_seq ?_
  refine CW_region ?_
  refine LV (R_assign (v := (.slice none 0 0)) rfl) ?_
  refine LW_nil ?_
  refine sq_n ?_
  refine CW_seq ?_
  refine CW_seq ?_
  refine CW_region ?_
  refine LV (R_move (v := v_a0) rfl) ?_
  refine LV (R_lenRow Try.underlying37 rfl h_a0) ?_
  refine LV (R_int (k := .i64) (a := ((a0.length : Int))) (b := 2) (v := (.bool ((decide (((a0.length : Int)) < 2))))) rfl rfl rfl) ?_
  refine LW_nil ?_
  refine sq_n ?_
  refine CW_if (b := (decide (((a0.length : Int)) < 2))) rfl (fun hb1 => ?_) (fun hb1 => ?_)
  · replace hm := if_t hb1 hm
    refine CW_seq ?_
    refine CW_region ?_
    refine LV (R_move (v := v_a0) rfl) ?_
    refine LV (R_assign (v := v_a0) rfl) ?_
    refine LW_nil ?_
    refine sq_n ?_
    refine CW_ret ?_
    refine sq_r ?_
    replace hm := Option.some.inj hm; subst hm
    refine retQ_1 (v := v_a0) rfl rfl ?_
    replace hST : ST true (keys (R_a0 ++ [])) w _ _ (R_a0 ++ []) := hST
    exact ⟨_, (R_a0 ++ []), rfl, (ST.backM (L1 := (R_a0 ++ [])) (by have hh : ST true (keys (R_a0 ++ [])) w _ _ (R_a0 ++ []) := hST.perm (List.Perm.refl _); simpa only [List.append_assoc, List.cons_append, List.nil_append] using hh)), v_a0, R_a0, rfl, rfl, h_a0⟩
  · replace hm := if_f hb1 hm
    refine CW_skip ?_
    refine sq_n ?_
    refine CW_seq ?_
    refine CW_seq ?_
    refine CW_region ?_
    refine LV (R_assign (v := (.int .i64 1)) rfl) ?_
    refine LW_nil ?_
    refine sq_n ?_
    refine CW_block (CW_loop (fun m E W => ∃ (x2891 : Int) (L3615 : List (Nat × Obj)), ST true (keys (R_a0 ++ [])) w W μ0 (R_a0 ++ L3615) ∧ E 0 = v_a0 ∧ E 3 = (.int .i64 x2891) ∧ m_slices_Compact_string_L1 a0 m x2891 = some r) FUEL ⟨1, _, (hST.sublist (List.Sublist.refl _)), rfl, rfl, hm⟩ ?_)
    rintro m E W ⟨x2891, L3615, hST, e3618, e3619, hm3616⟩
    cases m with
    | zero => rw [m_slices_Compact_string_L1] at hm3616; cases hm3616
    | succ n3617 =>
      rw [m_slices_Compact_string_L1] at hm3616
      refine CW_seq ?_
      refine CW_seq ?_
      refine CW_region ?_
      refine LV (R_move (v := (.int .i64 x2891)) e3619) ?_
      refine LV (R_move (v := v_a0) e3618) ?_
      refine LV (R_lenRow Try.underlying37 rfl h_a0) ?_
      refine LV (R_int (k := .i64) (a := x2891) (b := ((a0.length : Int))) (v := (.bool ((decide (x2891 < ((a0.length : Int))))))) rfl rfl rfl) ?_
      refine LW_nil ?_
      refine sq_n ?_
      refine CW_if (b := (decide (x2891 < ((a0.length : Int))))) rfl (fun hb3620 => ?_) (fun hb3620 => ?_)
      · replace hm3616 := if_t hb3620 hm3616
        refine CW_skip ?_
        refine sq_n ?_
        refine CW_seq ?_
        refine CW_block ?_
        refine CW_seq ?_
        refine PX_start (fun l W => Has μ0 (R_a0 ++ []) W) Try_mixed ?_
        replace hST := hST.drew
        have hS0 : Has μ0 (R_a0 ++ []) _ := hST.has.sub (Sub.refl _) (fun p hq => ((List.mem_append.1 hq).elim (fun hq => (List.mem_append_left _ hq)) (fun hq => (absurd hq List.not_mem_nil))))
        refine PV 0 rfl hS0 (R_move (v := v_a0) e3618) ?_
        refine PV 1 rfl hS0 (R_move (v := (.int .i64 x2891)) e3619) ?_
        obtain ⟨x3644, hx3645, hm3616⟩ := bind_some hm3616
        refine PX_q 2 rfl (by kernel_rfl) (.inl rfl) rfl (by decide) (fun _ _ h => h) hS0 (R_indexRow (i := x2891) (x0 := x3644) Try.underlying37 Try.sizeOf9 rfl rfl h_a0 (idx_nonneg hx3645) (idx_get hx3645)) (fun p3641 hp3642 => ?_)
        refine PX_v 3 rfl (by kernel_rfl) (.inl rfl) rfl (by decide) (fun _ _ h => h) hS0 (fun l W hpd hs => have hS := hs; R_load (v := (.string x3644)) rfl (load_ix1 hS (fun p hq => by simp [hq]) h_a0 (fun _ => rfl) hp3642 (idx_get hx3645) (y := (.string x3644)) rfl Try.isAgg9)) ?_
        refine PV 4 rfl hS0 (R_move (v := v_a0) e3618) ?_
        refine PV 5 rfl hS0 (R_move (v := (.int .i64 x2891)) e3619) ?_
        refine PV 6 rfl hS0 (R_int (k := .i64) (a := x2891) (b := 1) (v := (.int .i64 ((IntKind.i64.wrap (x2891 - 1))))) rfl rfl rfl) ?_
        obtain ⟨x3649, hx3650, hm3616⟩ := bind_some hm3616
        refine PX_q 7 rfl (by kernel_rfl) (.inl rfl) rfl (by decide) (fun _ _ h => h) hS0 (R_indexRow (i := (IntKind.i64.wrap (x2891 - 1))) (x0 := x3649) Try.underlying37 Try.sizeOf9 rfl rfl h_a0 (idx_nonneg hx3650) (idx_get hx3650)) (fun p3646 hp3647 => ?_)
        refine PX_v 8 rfl (by kernel_rfl) (.inl rfl) rfl (by decide) (fun _ _ h => h) hS0 (fun l W hpd hs => have hS := hs; R_load (v := (.string x3649)) rfl (load_ix1 hS (fun p hq => by simp [hq]) h_a0 (fun _ => rfl) hp3647 (idx_get hx3650) (y := (.string x3649)) rfl Try.isAgg9)) ?_
        refine PV 9 rfl hS0 (R_str (a := x3644) (b := x3649) (v := (.bool ((beqS x3644 x3649)))) rfl rfl rfl) ?_
        refine PX_done (by kernel_rfl) ?_
        refine sq_n ?_
        refine CW_if (b := (beqS x3644 x3649)) rfl (fun hb3651 => ?_) (fun hb3651 => ?_)
        · replace hm3616 := if_t hb3651 hm3616
          refine CW_seq ?_
          refine CW_region ?_
          refine LV (R_move (v := v_a0) e3618) ?_
          refine LV (R_move (v := (.int .i64 x2891)) e3619) ?_
          obtain ⟨_, hg3654, hm3616⟩ := bind_some hm3616
          refine LQ (R_sliceTail (i := x2891) Try.underlying37 Try.sizeOf9 rfl rfl h_a0 (chk_1 hg3654) (chk_2 hg3654)) (fun v3652 hs3653 => ?_)
          refine LV (R_assign (v := v3652) rfl) ?_
          refine LW_nil ?_
          refine sq_n ?_
          refine CW_seq ?_
          refine CW_seq ?_
          refine CW_region ?_
          refine LV (R_assign (v := (.int .i64 1)) rfl) ?_
          refine LW_nil ?_
          refine sq_n ?_
          obtain ⟨s4005, hm4006, hm4007⟩ := bind_some hm3616
          refine CW_cut (fun E W => ∃ (l3988 : List ByteArray) (R3990 : List (Nat × Obj)) (x3991 : Int) (L3992 : List (Nat × Obj)), ST true (keys (R_a0 ++ [])) w W μ0 (R3990 ++ L3992) ∧ E 0 = v_a0 ∧ E 3 = (.int .i64 x3991) ∧ Row 9 encSk 1 v_a0 l3988 R3990 ∧ (((chk (decide (0 ≤ x3991) && decide (x3991 ≤ (l3988.length : Int))))).bind fun _ => (((chk (decide (0 ≤ x3991) && decide (x3991 ≤ (((clearT l3988 (Int.toNat x3991) zS)).length : Int))))).bind fun _ => some (((clearT l3988 (Int.toNat x3991) zS)).take (Int.toNat x3991)))) = some r) ?_ ?_
          · refine CW_block (CW_loop (fun m E W => ∃ (l4112 : List ByteArray) (R4114 : List (Nat × Obj)) (x4115 : Int) (x4116 : Int) (L4230 : List (Nat × Obj)), ST true (keys (R_a0 ++ [])) w W μ0 (R4114 ++ L4230) ∧ E 0 = v_a0 ∧ E 3 = (.int .i64 x4115) ∧ E 4 = v3652 ∧ E 5 = (.int .i64 x4116) ∧ Row 9 encSk 1 v_a0 l4112 R4114 ∧ m_slices_Compact_string_L2 x2891 m l4112 x4115 x4116 = some s4005) FUEL ⟨a0, R_a0, x2891, 1, _, (hST.sublist (List.Sublist.refl _)), e3618, e3619, rfl, rfl, h_a0, hm4006⟩ ?_)
            rintro m E W ⟨l4112, R4114, x4115, x4116, L4230, hST, e4233, e4234, e4235, e4236, hs4113, hm4231⟩
            cases m with
            | zero => rw [m_slices_Compact_string_L2] at hm4231; cases hm4231
            | succ n4232 =>
              rw [m_slices_Compact_string_L2] at hm4231
              refine CW_seq ?_
              refine CW_seq ?_
              refine CW_region ?_
              refine LV (R_move (v := (.int .i64 x4116)) e4236) ?_
              refine LV (R_move (v := v3652) e4235) ?_
              refine LV (R_lenTail Try.underlying37 rfl hs3653 hs4113) ?_
              refine LV (R_int (k := .i64) (a := x4116) (b := (((l4112.length - (Int.toNat x2891) : Nat) : Int))) (v := (.bool ((decide (x4116 < (((l4112.length - (Int.toNat x2891) : Nat) : Int))))))) rfl rfl rfl) ?_
              refine LW_nil ?_
              refine sq_n ?_
              refine CW_if (b := (decide (x4116 < (((l4112.length - (Int.toNat x2891) : Nat) : Int))))) rfl (fun hb4237 => ?_) (fun hb4237 => ?_)
              · replace hm4231 := if_t hb4237 hm4231
                refine CW_skip ?_
                refine sq_n ?_
                refine CW_seq ?_
                obtain ⟨s4293, hm4294, hm4295⟩ := bind_some hm4231
                refine CW_cut (fun E W => ∃ (l4283 : List ByteArray) (R4285 : List (Nat × Obj)) (x4286 : Int) (L4287 : List (Nat × Obj)), ST true (keys (R_a0 ++ [])) w W μ0 (R4285 ++ L4287) ∧ E 0 = v_a0 ∧ E 3 = (.int .i64 x4286) ∧ E 4 = v3652 ∧ E 5 = (.int .i64 x4116) ∧ Row 9 encSk 1 v_a0 l4283 R4285 ∧ (m_slices_Compact_string_L2 x2891 n4232 l4283 x4286 ((IntKind.i64.wrap (x4116 + 1)))) = some s4005) ?_ ?_
                · refine CW_block ?_
                  refine CW_seq ?_
                  refine PX_start (fun l W => Has μ0 (R4114 ++ []) W) Try_mixed ?_
                  replace hST := hST.drew
                  have hS0 : Has μ0 (R4114 ++ []) _ := hST.has.sub (Sub.refl _) (fun p hq => ((List.mem_append.1 hq).elim (fun hq => (List.mem_append_left _ hq)) (fun hq => (absurd hq List.not_mem_nil))))
                  refine PV 0 rfl hS0 (R_move (v := v3652) e4235) ?_
                  refine PV 1 rfl hS0 (R_move (v := (.int .i64 x4116)) e4236) ?_
                  obtain ⟨x4319, hx4320, hm4294⟩ := bind_some hm4294
                  refine PX_q 2 rfl (by kernel_rfl) (.inl rfl) rfl (by decide) (fun _ _ h => h) hS0 (R_indexTail (i := x4116) (x0 := x4319) Try.underlying37 Try.sizeOf9 rfl rfl hs4113 hs3653 (idx_nonneg hx4320) (idx_get hx4320)) (fun p4316 hp4317 => ?_)
                  refine PX_v 3 rfl (by kernel_rfl) (.inl rfl) rfl (by decide) (fun _ _ h => h) hS0 (fun l W hpd hs => have hS := hs; R_load (v := (.string x4319)) rfl (load_ix1 hS (fun p hq => by simp [hq]) hs4113 (fun _ => rfl) hp4317 (tail_get (idx_get hx4320)) (y := (.string x4319)) rfl Try.isAgg9)) ?_
                  refine PV 4 rfl hS0 (R_move (v := v3652) e4235) ?_
                  refine PV 5 rfl hS0 (R_move (v := (.int .i64 x4116)) e4236) ?_
                  refine PV 6 rfl hS0 (R_int (k := .i64) (a := x4116) (b := 1) (v := (.int .i64 ((IntKind.i64.wrap (x4116 - 1))))) rfl rfl rfl) ?_
                  obtain ⟨x4324, hx4325, hm4294⟩ := bind_some hm4294
                  refine PX_q 7 rfl (by kernel_rfl) (.inl rfl) rfl (by decide) (fun _ _ h => h) hS0 (R_indexTail (i := (IntKind.i64.wrap (x4116 - 1))) (x0 := x4324) Try.underlying37 Try.sizeOf9 rfl rfl hs4113 hs3653 (idx_nonneg hx4325) (idx_get hx4325)) (fun p4321 hp4322 => ?_)
                  refine PX_v 8 rfl (by kernel_rfl) (.inl rfl) rfl (by decide) (fun _ _ h => h) hS0 (fun l W hpd hs => have hS := hs; R_load (v := (.string x4324)) rfl (load_ix1 hS (fun p hq => by simp [hq]) hs4113 (fun _ => rfl) hp4322 (tail_get (idx_get hx4325)) (y := (.string x4324)) rfl Try.isAgg9)) ?_
                  refine PV 9 rfl hS0 (R_str (a := x4319) (b := x4324) (v := (.bool ((!(beqS x4319 x4324))))) rfl rfl rfl) ?_
                  refine PX_done (by kernel_rfl) ?_
                  refine sq_n ?_
                  refine CW_if (b := (!(beqS x4319 x4324))) rfl (fun hb4326 => ?_) (fun hb4326 => ?_)
                  · replace hm4294 := if_t hb4326 hm4294
                    refine CW_seq ?_
                    refine CW_region ?_
                    refine LV (R_move (v := v_a0) e4233) ?_
                    refine LV (R_move (v := (.int .i64 x4115)) e4234) ?_
                    refine LV (R_move (v := v3652) e4235) ?_
                    refine LV (R_move (v := (.int .i64 x4116)) e4236) ?_
                    obtain ⟨x4330, hx4331, hm4294⟩ := bind_some hm4294
                    refine LQ (R_indexTail (i := x4116) (x0 := x4330) Try.underlying37 Try.sizeOf9 rfl rfl hs4113 hs3653 (idx_nonneg hx4331) (idx_get hx4331)) (fun p4327 hp4328 => ?_)
                    refine LV (R_load (v := (.string x4330)) rfl (load_ix1 hST.has (fun p hq => by simp [hq]) hs4113 (fun _ => rfl) hp4328 (tail_get (idx_get hx4331)) (y := (.string x4330)) rfl Try.isAgg9)) ?_
                    obtain ⟨x4335, hx4336, hm4294⟩ := bind_some hm4294
                    refine LQ (R_indexRow (i := x4115) (x0 := x4335) Try.underlying37 Try.sizeOf9 rfl rfl hs4113 (idx_nonneg hx4336) (idx_get hx4336)) (fun p4332 hp4333 => ?_)
                    refine LW_e0 (.inl rfl) rfl (E_storeRow (u := (.string x4330)) (x1 := x4330) [] hST hs4113 (fun _ => rfl) oneS rfl rfl rfl hp4333 (idx_get hx4336) Try.sizeOf9 (fun W4337 R4338 hST hR4339 => ?_))
                    refine LW_nil ?_
                    refine sq_n ?_
                    refine CW_region ?_
                    refine LV (R_move (v := (.int .i64 x4115)) e4234) ?_
                    refine LV (R_int (k := .i64) (a := x4115) (b := 1) (v := (.int .i64 ((IntKind.i64.wrap (x4115 + 1))))) rfl rfl rfl) ?_
                    refine LV (R_assign (v := (.int .i64 ((IntKind.i64.wrap (x4115 + 1))))) rfl) ?_
                    refine LW_nil ?_
                    refine bq_n ?_
                    refine sq_n ?_
                    replace hm4294 := Option.some.inj hm4294; subst hm4294
                    replace hST : ST true (keys (R_a0 ++ [])) w _ _ (R4338 ++ L4230) := hST
                    exact ⟨((l4112.set (Int.toNat x4115) x4330)), R4338, ((IntKind.i64.wrap (x4115 + 1))), _, (hST.sublist (List.Sublist.refl _)), e4233, rfl, e4235, e4236, hR4339, hm4295⟩
                  · replace hm4294 := if_f hb4326 hm4294
                    refine CW_skip ?_
                    refine bq_n ?_
                    refine sq_n ?_
                    replace hm4294 := Option.some.inj hm4294; subst hm4294
                    exact ⟨l4112, R4114, x4115, _, (hST.sublist (List.Sublist.refl _)), e4233, e4234, e4235, e4236, hs4113, hm4295⟩
                · rintro E W ⟨l4283, R4285, x4286, L4287, hST, e4289, e4290, e4291, e4292, hs4284, hm4288⟩
                  refine CW_region ?_
                  refine LV (R_move (v := (.int .i64 x4116)) e4292) ?_
                  refine LV (R_int (k := .i64) (a := x4116) (b := 1) (v := (.int .i64 ((IntKind.i64.wrap (x4116 + 1))))) rfl rfl rfl) ?_
                  refine LV (R_assign (v := (.int .i64 ((IntKind.i64.wrap (x4116 + 1))))) rfl) ?_
                  refine LW_nil ?_
                  refine sq_n ?_
                  exact ⟨n4232, Nat.lt_succ_self _, l4283, R4285, x4286, ((IntKind.i64.wrap (x4116 + 1))), _, (hST.sublist (List.Sublist.refl _)), e4289, e4290, e4291, rfl, hs4284, hm4288⟩
              · replace hm4231 := if_f hb4237 hm4231
                refine CW_exit ?_
                refine sq_e (sq_e (bq_e ?_))
                refine sq_n ?_
                replace hm4231 := Option.some.inj hm4231; subst hm4231
                exact ⟨l4112, R4114, x4115, _, (hST.sublist (List.Sublist.refl _)), e4233, e4234, hs4113, hm4007⟩
          · rintro E W ⟨l3988, R3990, x3991, L3992, hST, e3994, e3995, hs3989, hm3993⟩
            refine CW_seq ?_
            refine CW_region ?_
            refine LV (R_move (v := v_a0) e3994) ?_
            refine LV (R_move (v := (.int .i64 x3991)) e3995) ?_
            obtain ⟨_, hg3998, hm3993⟩ := bind_some hm3993
            refine LQ (R_sliceTail (i := x3991) Try.underlying37 Try.sizeOf9 rfl rfl hs3989 (chk_1 hg3998) (chk_2 hg3998)) (fun v3996 hs3997 => ?_)
            refine LW_e0 (.inl rfl) rfl (E_clearTail (z := zS) [] hST hs3989 (fun _ => rfl) oneS Try.underlying37 Try.zeroValue9 hs3997 rfl rfl (fun W3999 R4000 hST hR4001 => ?_))
            refine LW_nil ?_
            refine sq_n ?_
            refine CW_seq ?_
            refine CW_region ?_
            refine LV (R_move (v := v_a0) e3994) ?_
            refine LV (R_move (v := (.int .i64 x3991)) e3995) ?_
            obtain ⟨_, hg4004, hm3993⟩ := bind_some hm3993
            refine LQ (R_sliceTo (i := x3991) Try.underlying37 Try.sizeOf9 rfl rfl hR4001 (fun _ => rfl) (chk_1 hg4004) (chk_2 hg4004)) (fun v4002 hs4003 => ?_)
            refine LV (R_assign (v := v4002) rfl) ?_
            refine LW_nil ?_
            refine sq_n ?_
            refine CW_ret ?_
            refine bq_r (sq_r (sq_r (bq_r (sq_r ?_))))
            replace hm3993 := Option.some.inj hm3993; subst hm3993
            refine retQ_1 (v := v4002) rfl rfl ?_
            replace hST : ST true (keys (R_a0 ++ [])) w _ _ (R4000 ++ L3992) := hST
            exact ⟨_, (R4000 ++ []), rfl, (ST.backM (L1 := (R4000 ++ [])) (by have hh : ST true (keys (R_a0 ++ [])) w _ _ (R4000 ++ L3992) := hST.perm (List.Perm.refl _); simpa only [List.append_assoc, List.cons_append, List.nil_append] using hh)), v4002, R4000, rfl, rfl, hs4003⟩
        · replace hm3616 := if_f hb3651 hm3616
          refine CW_skip ?_
          refine bq_n ?_
          refine sq_n ?_
          refine CW_region ?_
          refine LV (R_move (v := (.int .i64 x2891)) e3619) ?_
          refine LV (R_int (k := .i64) (a := x2891) (b := 1) (v := (.int .i64 ((IntKind.i64.wrap (x2891 + 1))))) rfl rfl rfl) ?_
          refine LV (R_assign (v := (.int .i64 ((IntKind.i64.wrap (x2891 + 1))))) rfl) ?_
          refine LW_nil ?_
          refine sq_n ?_
          exact ⟨n3617, Nat.lt_succ_self _, ((IntKind.i64.wrap (x2891 + 1))), _, (hST.sublist (List.Sublist.refl _)), e3618, rfl, hm3616⟩
      · replace hm3616 := if_f hb3620 hm3616
        refine CW_exit ?_
        refine sq_e (sq_e (bq_e ?_))
        refine sq_n ?_
        refine CW_seq ?_
        refine CW_region ?_
        refine LV (R_move (v := v_a0) e3618) ?_
        refine LV (R_assign (v := v_a0) rfl) ?_
        refine LW_nil ?_
        refine sq_n ?_
        refine CW_ret ?_
        replace hm3616 := Option.some.inj hm3616; subst hm3616
        refine retQ_1 (v := v_a0) rfl rfl ?_
        replace hST : ST true (keys (R_a0 ++ [])) w _ _ (R_a0 ++ L3615) := hST
        exact ⟨_, (R_a0 ++ []), rfl, (ST.backM (L1 := (R_a0 ++ [])) (by have hh : ST true (keys (R_a0 ++ [])) w _ _ (R_a0 ++ L3615) := hST.perm (List.Perm.refl _); simpa only [List.append_assoc, List.cons_append, List.nil_append] using hh)), v_a0, R_a0, rfl, rfl, h_a0⟩
theorem w_name_Set (v_a0 : Value) (a0 : List ByteArray) (r : List ByteArray) (w : World) (h_a0 : Sl (Pl encSk) 1 (hp w) v_a0 a0) (hm : m_name_Set a0 = some r) :
    GivesRow true Try.prog 35 [v_a0] w 9 encSk 1 r := by
  have hST := ST.start (dd := true) w
  unfold m_name_Set at hm
  refine calls_of_CW (n := 23) Try.func35 rfl rfl (Nat.le_of_ble_eq_true rfl) ?_
  refine CW_seq ?_
  refine CW_region ?_
  refine LV (R_assign (v := (.slice none 0 0)) rfl) ?_
  refine LW_nil ?_
  refine sq_n ?_
  refine CW_seq ?_
  refine CW_region ?_
  refine LV (R_assign (v := (.slice none 0 0)) rfl) ?_
  refine LW_nil ?_
  refine sq_n ?_
  refine CW_seq ?_
  refine CW_seq ?_
  refine CW_region ?_
  refine LV (R_move (v := v_a0) rfl) ?_
  refine LV (R_len Try.underlying37 rfl h_a0) ?_
  refine LV (R_move (v := (.int .i64 0)) rfl) ?_
  refine LW_nil ?_
  refine sq_n ?_
  refine CW_range (fun i E W => ∃ (v89 : Value) (l90 : List ByteArray) (R92 : List (Nat × Obj)) (L114 : List (Nat × Obj)), (E 8 = .int .i64 (i : Nat) ∧ E 7 = .int .i64 (a0.length : Nat)) ∧ ST true NoF w W (hp w) (R92 ++ L114) ∧ E 3 = v89 ∧ E 6 = v_a0 ∧ Row 9 encSk 1 v89 l90 R92 ∧ m_name_Set_L1 (a0.drop i) l90 = some r) a0.length h_a0.len ⟨(.slice none 0 0), ([]), [], _, ⟨rfl, rfl⟩, (hST.sublist (List.Sublist.refl _)), rfl, rfl, (Row.nil _ _ _), hm⟩ (by decide) (by decide) (by decide) (fun _ _ _ h => by obtain ⟨_, _, _, _, eIN, _⟩ := h; exact eIN) ?_ ?_
  · rintro i67 E W hi73 ⟨v89, l90, R92, L114, ⟨eI, eN⟩, hST, e116, e117, hs91, hm115⟩
    obtain ⟨x68, xs69, hx71, hx70, hx72⟩ := drop_cons hi73
    rw [hx71] at hm115
    rw [m_name_Set_L1] at hm115
    refine CW_block ?_
    refine CW_seq ?_
    refine CW_region ?_
    refine LQ (R_indexP (enc := encSk) (i := (i67 : Int)) (x0 := x68) Try.underlying37 Try.sizeOf9 e117 eI h_a0 (Int.natCast_nonneg _) hx70) (fun p118 hp119 => ?_)
    refine LV (R_load rfl (load_at1 hST.has (y := (.string x68)) hp119 Try.isAgg9)) ?_
    refine LV (R_assign (v := (.string x68)) rfl) ?_
    refine LW_nil ?_
    refine sq_n ?_
    refine CW_seq ?_
    refine CW_region ?_
    refine LV (R_move (v := (.string x68)) rfl) ?_
    obtain ⟨r121, hr122, hm115⟩ := bind_some hm115
    refine LE (E_gives (args := [(.string x68)]) hST rfl Try.call42 (by exact args1 rfl) ((w_name_Right x68 _ _  hr122)) (fun W123 hST => ?_))
    refine LW_nil ?_
    refine sq_n ?_
    refine CW_if (b := r121) rfl (fun hb124 => ?_) (fun hb124 => ?_)
    · replace hm115 := if_t hb124 hm115
      refine CW_region ?_
      refine LV (R_move (v := v89) e116) ?_
      refine LV (R_move (v := (.string x68)) rfl) ?_
      refine LE (E_buildSlice (qs := #[(0, (.string x68))]) (cs := [(.string x68)].toArray) hST (parts1 rfl) (run_lit [(.string x68)] Try.underlying37 Try.sizeOf9 Try.zeroValue9 (by decide) rfl (by intro v hv; simp only [List.mem_cons, List.not_mem_nil, or_false] at hv; rcases hv with rfl <;> rfl) rfl rfl) (fun W126 b125 hST => ?_))
      obtain ⟨l127, hb128, hm115⟩ := bind_some hm115
      refine LE (E_append (enc := encSk) (v := v89) (vs := (.slice (some ⟨b125, 0, none⟩) 1 1)) (R := R92) [_] hST (fun _ => rfl) (by decide) oneS Try.underlying37 info9.1 info9.2.1 rfl info9.2.2.1 info9.2.2.2 rfl rfl hs91 (Sl.lit (enc := encSk) (l := [x68]) (fun _ => rfl) rfl (Nat.le_of_ble_eq_true rfl) rfl (hST.at_ (.head _))) hb128 (fun W129 v132 R130 hST hR131 => ?_))
      refine LV (R_assign (v := v132) rfl) ?_
      refine LW_nil ?_
      refine bq_n ?_
      refine sq_n ?_
      replace hST : ST true NoF w _ _ ((b125, Obj.cells ([(.string x68)].toArray : Array Value) 9 (0, 0)) :: (R130 ++ L114)) := hST
      replace hST : ST true NoF w _ _ (R130 ++ L114) := hST.sublist (List.Sublist.cons _ (List.Sublist.refl _))
      exact ⟨eI, v132, l127, R130, _, ⟨rfl, eN⟩, (hST.sublist (List.Sublist.refl _)), rfl, e117, hR131, (by rw [hx72]; exact hm115)⟩
    · replace hm115 := if_f hb124 hm115
      refine CW_skip ?_
      refine bq_n ?_
      refine sq_n ?_
      exact ⟨eI, v89, l90, R92, _, ⟨rfl, eN⟩, (hST.sublist (List.Sublist.refl _)), e116, e117, hs91, (by rw [hx72]; exact hm115)⟩
  · rintro E W ⟨v89, l90, R92, L114, ⟨eI, eN⟩, hST, e116, e117, hs91, hm115⟩
    rw [List.drop_length] at hm115
    rw [m_name_Set_L1] at hm115
    refine sq_n ?_
    refine CW_seq ?_
    refine CW_region ?_
    refine LV (R_move (v := v89) e116) ?_
    obtain ⟨r133, hr134, hm115⟩ := bind_some hm115
    replace hST : ST true NoF w _ _ (R92 ++ L114) := hST.perm (List.Perm.refl _)
    have hsz := hST.size
    refine LE (E_callM (args := [v89]) (caps := #[]) ((R92 ++ [])) L114 hST (by simp only [List.append_assoc, List.cons_append, List.nil_append]; exact List.Perm.refl _) rfl Try.call54 (by exact args1 rfl) (fun hH hN hsb hmm => (w_sortS54 v89 l90 R92 _ _ hH hN (Sub.refl _) hs91 hr134)) (fun W135 v138 μ136 L140 hST hle137 hlift hK139 => ?_))
    obtain ⟨S141, hv143, rfl, hy142⟩ := hK139
    replace hv143 := hv143.symm; subst hv143
    simp only [List.append_assoc, List.cons_append, List.nil_append] at hST
    refine LW_nil ?_
    refine sq_n ?_
    refine CW_seq ?_
    refine CW_region ?_
    refine LV (R_move (v := v89) e116) ?_
    replace hST : ST true NoF w _ _ (S141 ++ L114) := hST
    obtain ⟨r144, hr145, hm115⟩ := bind_some hm115
    replace hST : ST true NoF w _ _ (S141 ++ L114) := hST.perm (List.Perm.refl _)
    have hsz := hST.size
    refine LE (E_callM (args := [v89]) (caps := #[]) ((S141 ++ [])) L114 hST (by simp only [List.append_assoc, List.cons_append, List.nil_append]; exact List.Perm.refl _) rfl Try.call55 (by exact args1 rfl) (fun hH hN hsb hmm => (w_slices_Compact_string v89 r133 S141 _ _ hH hN (Sub.refl _) hy142 hr145)) (fun W146 v149 μ147 L151 hST hle148 hlift hK150 => ?_))
    obtain ⟨y152, S153, hv155, rfl, hy154⟩ := hK150
    replace hv155 := hv155.symm; subst hv155
    simp only [List.append_assoc, List.cons_append, List.nil_append] at hST
    refine LV (R_assign (v := y152) rfl) ?_
    refine LW_nil ?_
    refine sq_n ?_
    refine CW_ret ?_
    replace hm115 := Option.some.inj hm115; subst hm115
    refine retQ_1 (v := y152) rfl rfl ?_
    exact ⟨_, S153, rfl, hST.backRow (fun p hq => by simp [hq]) hy154.nd, hy154⟩
theorem w_slices_IndexFunc_string (v_a0 : Value) (a0 : List ByteArray) (v_a1 : Value) (f1 : ByteArray → Option Bool) (r : Int) (w : World) (h_a0 : Sl (Pl encSk) 1 (hp w) v_a0 a0) (h_a1 : CbOk Try.prog v_a1 (hp w) (fun (x : ByteArray) => [(.string x)]) (fun (r : Bool) => (.bool r)) f1) (hm : m_slices_IndexFunc_string a0 f1 = some r) :
    Gives true Try.prog 77 [v_a0, v_a1] w (.int .i64 r) := by
  have hST := ST.start (dd := true) w
  unfold m_slices_IndexFunc_string at hm
  refine calls_of_CW (n := 19) Try.func77 rfl rfl (Nat.le_of_ble_eq_true rfl) ?_
  refine CW_seq ?_
  refine CW_region ?_
  refine LV (R_assign (v := (.int .i64 0)) rfl) ?_
  refine LW_nil ?_
  refine sq_n ?_
  refine CW_seq ?_
  refine CW_seq ?_
  refine CW_region ?_
  refine LV (R_move (v := v_a0) rfl) ?_
  refine LV (R_len Try.underlying37 rfl h_a0) ?_
  refine LV (R_move (v := (.int .i64 0)) rfl) ?_
  refine LW_nil ?_
  refine sq_n ?_
  refine CW_range (fun i E W => ∃  (L58 : List (Nat × Obj)), (E 8 = .int .i64 (i : Nat) ∧ E 7 = .int .i64 (a0.length : Nat)) ∧ ST true NoF w W (hp w) L58 ∧ E 0 = v_a0 ∧ E 1 = v_a1 ∧ m_slices_IndexFunc_string_L1 f1 (a0.drop i) i = some r) a0.length h_a0.len ⟨_, ⟨rfl, rfl⟩, (hST.sublist (List.Sublist.refl _)), rfl, rfl, hm⟩ (by decide) (by decide) (by decide) (fun _ _ _ h => by obtain ⟨_, eIN, _⟩ := h; exact eIN) ?_ ?_
  · rintro i35 E W hi41 ⟨L58, ⟨eI, eN⟩, hST, e60, e61, hm59⟩
    obtain ⟨x36, xs37, hx39, hx38, hx40⟩ := drop_cons hi41
    rw [hx39] at hm59
    rw [m_slices_IndexFunc_string_L1] at hm59
    refine CW_block ?_
    refine CW_seq ?_
    refine CW_region ?_
    refine LV (R_move (v := (.int .i64 ((i35 : Int)))) eI) ?_
    refine LV (R_assign (v := (.int .i64 ((i35 : Int)))) rfl) ?_
    refine LW_nil ?_
    refine sq_n ?_
    refine CW_seq ?_
    refine CW_region ?_
    refine LV (R_move (v := v_a1) e61) ?_
    refine LV (R_move (v := v_a0) e60) ?_
    refine LV (R_move (v := (.int .i64 ((i35 : Int)))) rfl) ?_
    refine LQ (R_indexP (enc := encSk) (i := (i35 : Int)) (x0 := x36) Try.underlying37 Try.sizeOf9 rfl rfl h_a0 (Int.natCast_nonneg _) hx38) (fun p62 hp63 => ?_)
    refine LV (R_load rfl (load_at1 hST.has (y := (.string x36)) hp63 Try.isAgg9)) ?_
    obtain ⟨r65, hr66, hm59⟩ := bind_some hm59
    refine LE (E_cb x36 hST h_a1 (Sub.refl _) rfl (args1 rfl) hr66 (fun W67 hST => ?_))
    refine LW_nil ?_
    refine sq_n ?_
    refine CW_if (b := r65) rfl (fun hb68 => ?_) (fun hb68 => ?_)
    · replace hm59 := if_t hb68 hm59
      refine CW_seq ?_
      refine CW_region ?_
      refine LV (R_move (v := (.int .i64 ((i35 : Int)))) rfl) ?_
      refine LV (R_assign (v := (.int .i64 ((i35 : Int)))) rfl) ?_
      refine LW_nil ?_
      refine sq_n ?_
      refine CW_ret ?_
      refine bq_r (sq_r (bq_r (sq_r ?_)))
      replace hm59 := Option.some.inj hm59; subst hm59
      refine retQ_1 (v := (.int .i64 ((i35 : Int)))) rfl rfl ?_
      exact ⟨rfl, hST.ex⟩
    · replace hm59 := if_f hb68 hm59
      refine CW_skip ?_
      refine bq_n ?_
      refine sq_n ?_
      exact ⟨eI, _, ⟨rfl, eN⟩, (hST.sublist (List.Sublist.refl _)), e60, e61, (by rw [hx40]; exact hm59)⟩
  · rintro E W ⟨L58, ⟨eI, eN⟩, hST, e60, e61, hm59⟩
    rw [List.drop_length] at hm59
    rw [m_slices_IndexFunc_string_L1] at hm59
    refine sq_n ?_
    refine CW_seq ?_
    refine CW_region ?_
    refine LV (R_assign (v := (.int .i64 ((-1)))) rfl) ?_
    refine LW_nil ?_
    refine sq_n ?_
    refine CW_ret ?_
    replace hm59 := Option.some.inj hm59; subst hm59
    refine retQ_1 (v := (.int .i64 ((-1)))) rfl rfl ?_
    exact ⟨rfl, hST.ex⟩
theorem w_slices_ContainsFunc_string (v_a0 : Value) (a0 : List ByteArray) (v_a1 : Value) (f1 : ByteArray → Option Bool) (r : Bool) (w : World) (h_a0 : Sl (Pl encSk) 1 (hp w) v_a0 a0) (h_a1 : CbOk Try.prog v_a1 (hp w) (fun (x : ByteArray) => [(.string x)]) (fun (r : Bool) => (.bool r)) f1) (hm : m_slices_ContainsFunc_string a0 f1 = some r) :
    Gives true Try.prog 56 [v_a0, v_a1] w (.bool r) := by
  have hST := ST.start (dd := true) w
  unfold m_slices_ContainsFunc_string at hm
  refine calls_of_CW (n := 9) Try.func56 rfl rfl (Nat.le_of_ble_eq_true rfl) ?_
  refine CW_seq ?_
  refine CW_region ?_
  refine LV (R_assign (v := (.bool false)) rfl) ?_
  refine LW_nil ?_
  refine sq_n ?_
  refine CW_seq ?_
  refine CW_region ?_
  refine LV (R_move (v := v_a0) rfl) ?_
  refine LV (R_move (v := v_a1) rfl) ?_
  obtain ⟨r1, hr2, hm⟩ := bind_some hm
  refine LE (E_gives (args := [v_a0, v_a1]) hST rfl Try.call77 (by exact args2 rfl rfl) ((w_slices_IndexFunc_string v_a0 a0 v_a1 f1 _ _ (h_a0.mono (Pl.mono _) hST.sub_hp) (h_a1.mono hST.sub_hp) hr2)) (fun W3 hST => ?_))
  refine LV (R_int (k := .i64) (a := r1) (b := 0) (v := (.bool ((decide (r1 ≥ 0))))) rfl rfl rfl) ?_
  refine LV (R_assign (v := (.bool ((decide (r1 ≥ 0))))) rfl) ?_
  refine LW_nil ?_
  refine sq_n ?_
  refine CW_ret ?_
  replace hm := Option.some.inj hm; subst hm
  refine retQ_1 (v := (.bool ((decide (r1 ≥ 0))))) rfl rfl ?_
  exact ⟨rfl, hST.ex⟩
theorem w_model_brings_c1 (a0 : ByteArray) (b_c0 : Nat) (v_c0 : Value) (f_c0 : ((Role × ByteArray)) → Option Bool) (b_c1 : Nat) (c1 : Cred) (b_c2 : Nat) (c2 : ByteArray) (r : Bool) (w : World) (h_c0 : CbOk Try.prog v_c0 (hp w) (fun (x : (Role × ByteArray)) => [(.agg (encRole x.1).toArray), (.string x.2)]) (fun (r : Bool) => (.bool r)) f_c0) (hA_c0 : At (hp w) (.pointer (some ⟨b_c0, 0, none⟩)) [v_c0]) (hA_c1 : At (hp w) (.pointer (some ⟨b_c1, 0, none⟩)) (encCred c1)) (hA_c2 : At (hp w) (.pointer (some ⟨b_c2, 0, none⟩)) [(.string c2)]) (hm : m_model_brings_c1 a0 f_c0 c1 c2 = some r) :
    Gives true Try.prog 57 [(.string a0), (.pointer (some ⟨b_c0, 0, none⟩)), (.pointer (some ⟨b_c1, 0, none⟩)), (.pointer (some ⟨b_c2, 0, none⟩))] w (.bool r) := by
  have hST := ST.start (dd := true) w
  unfold m_model_brings_c1 at hm
  refine calls_of_CW (n := 20) Try.func57 rfl rfl (Nat.le_of_ble_eq_true rfl) ?_
  refine CW_seq ?_
  refine CW_region ?_
  refine LV (R_assign (v := (.bool false)) rfl) ?_
  refine LW_nil ?_
  refine sq_n ?_
  refine CW_seq ?_
  refine CW_region ?_
  refine LV (R_load rfl (load_at1 hST.has (y := v_c0) hA_c0 Try.isAgg41)) ?_
  refine LQ (R_fieldAt (encRole c1.B) fa36_3 rfl hA_c1 rfl) (fun p1 hp2 => ?_)
  refine LV (R_load rfl (load_atA hST.has hp2 Try.isAgg34 Try.sizeOf34)) ?_
  refine LV (R_move (v := (.string a0)) rfl) ?_
  obtain ⟨r4, hr5, hm⟩ := bind_some hm
  refine LE (E_cb ((c1.B, a0)) hST h_c0 (Sub.refl _) rfl (args2 rfl rfl) hr5 (fun W6 hST => ?_))
  refine LV (R_move (v := (.bool r4)) rfl) ?_
  obtain ⟨s19, hm20, hm21⟩ := bind_some hm
  refine LW_join (J := fun E W => ∃ (x14 : Bool) (L15 : List (Nat × Obj)), ST true NoF w W (hp w) L15 ∧ E 5 = (.bool false) ∧ E 19 = (.bool x14) ∧ some x14 = some r) 8 ?_ (fun key22 => ?_)
  · rintro E W ⟨x14, L15, hST, e17, e18, hm16⟩
    refine LV (R_assign (v := (.bool x14)) e18) ?_
    refine LW_nil ?_
    refine sq_n ?_
    refine CW_ret ?_
    replace hm16 := Option.some.inj hm16; subst hm16
    refine retQ_1 (v := (.bool x14)) rfl rfl ?_
    exact ⟨rfl, hST.ex⟩
  · rcases bool_cases r4 with hb7 | hb7
    · replace hm20 := if_t hb7 hm20
      refine LW_v (.inr ⟨5, true, 11, rfl, rfl, by decide, (congrArg Value.bool hb7)⟩) rfl (by decide) (R_load rfl (load_at1 hST.has (y := v_c0) hA_c0 Try.isAgg41)) ?_
      refine LW_v (.inr ⟨5, true, 11, rfl, rfl, by decide, (congrArg Value.bool hb7)⟩) rfl (by decide) (R_move (v := (.string a0)) rfl) ?_
      refine LW_q (.inr ⟨5, true, 11, rfl, rfl, by decide, (congrArg Value.bool hb7)⟩) rfl (by decide) (R_fieldAt [(.string c1.Word2)] fa36_5 rfl hA_c1 rfl) (fun p23 hp24 => ?_)
      refine LW_v (.inr ⟨5, true, 11, rfl, rfl, by decide, (congrArg Value.bool hb7)⟩) rfl (by decide) (R_load rfl (load_at1 hST.has (y := (.string c1.Word2)) hp24 Try.isAgg9)) ?_
      refine LW_v (.inr ⟨5, true, 11, rfl, rfl, by decide, (congrArg Value.bool hb7)⟩) rfl (by decide) (R_build (qs := #[(0, (.string a0)), (1, (.string c1.Word2))]) (v := (.agg (encRole ((⟨a0, c1.Word2⟩ : Role))).toArray)) (parts2 rfl rfl) (run_build Try.zeroValue34 Try.underlying34 (pl34 _ Try.underlying34) (by kernel_rfl))) ?_
      refine LW_v (.inr ⟨5, true, 11, rfl, rfl, by decide, (congrArg Value.bool hb7)⟩) rfl (by decide) (R_load rfl (load_at1 hST.has (y := (.string c2)) hA_c2 Try.isAgg9)) ?_
      obtain ⟨r26, hr27, hm20⟩ := bind_some hm20
      refine LW_e (.inr ⟨5, true, 11, rfl, rfl, by decide, (congrArg Value.bool hb7)⟩) rfl (by decide) (E_cb (((⟨a0, c1.Word2⟩ : Role), c2)) hST h_c0 (Sub.refl _) rfl (args2 rfl rfl) hr27 (fun W28 hST => ?_))
      refine LV (R_pickT (v := (.bool r26)) (congrArg Value.bool hb7) rfl) ?_
      replace hm20 := Option.some.inj hm20; subst hm20
      exact key22 _ _ ⟨r26, _, (hST.sublist (List.Sublist.refl _)), rfl, rfl, hm21⟩
    · replace hm20 := if_f hb7 hm20
      refine LW_no rfl (by decide) rfl rfl (by decide) (congrArg Value.bool hb7) ?_
      refine LW_no rfl (by decide) rfl rfl (by decide) (congrArg Value.bool hb7) ?_
      refine LW_no rfl (by decide) rfl rfl (by decide) (congrArg Value.bool hb7) ?_
      refine LW_no rfl (by decide) rfl rfl (by decide) (congrArg Value.bool hb7) ?_
      refine LW_no rfl (by decide) rfl rfl (by decide) (congrArg Value.bool hb7) ?_
      refine LW_no rfl (by decide) rfl rfl (by decide) (congrArg Value.bool hb7) ?_
      refine LW_no rfl (by decide) rfl rfl (by decide) (congrArg Value.bool hb7) ?_
      refine LV (R_pickF (v := (.bool false)) (congrArg Value.bool hb7) rfl) ?_
      replace hm20 := Option.some.inj hm20; subst hm20
      exact key22 _ _ ⟨false, _, (hST.sublist (List.Sublist.refl _)), rfl, rfl, hm21⟩
theorem w_model_brings (a0 : Cred) (v_a1 : Value) (f1 : ((Role × ByteArray)) → Option Bool) (v_a2 : Value) (a2 : List ByteArray) (a3 : ByteArray) (r : Bool) (w : World) (h_a1 : CbOk Try.prog v_a1 (hp w) (fun (x : (Role × ByteArray)) => [(.agg (encRole x.1).toArray), (.string x.2)]) (fun (r : Bool) => (.bool r)) f1) (h_a2 : Sl (Pl encSk) 1 (hp w) v_a2 a2) (hm : m_model_brings a0 f1 a2 a3 = some r) :
    Gives true Try.prog 36 [(.agg (encCred a0).toArray), v_a1, v_a2, (.string a3)] w (.bool r) := by
  have hST := ST.start (dd := true) w
  unfold m_model_brings at hm
  refine calls_of_CW (n := 41) Try.func36 rfl rfl (Nat.le_of_ble_eq_true rfl) ?_
  refine CW_seq ?_
  refine CW_region ?_
  refine LE (E_box (v := (.agg (encCred a0).toArray)) hST rfl (fun W2 b1 hST => ?_))
  obtain ⟨f3, f4, f5, rfl⟩ := h_a1.form
  refine LE (E_box (v := (.func f3 f4 f5)) hST rfl (fun W7 b6 hST => ?_))
  refine LE (E_box (v := (.string a3)) hST rfl (fun W9 b8 hST => ?_))
  refine LV (R_assign (v := (.bool false)) rfl) ?_
  refine LW_nil ?_
  refine sq_n ?_
  refine CW_seq ?_
  refine CW_seq ?_
  refine CW_region ?_
  refine LV (R_field fa36_0 rfl) ?_
  refine LV (R_load (v := (.int .i64 a0.Kind)) rfl (load_box1 hST.has (.tail _ (.tail _ (.head _))) rfl Try.isAgg3)) ?_
  refine LW_nil ?_
  refine sq_n ?_
  refine CW_block ?_
  refine CW_seq ?_
  refine CW_region ?_
  refine LV (R_int (k := .i64) (a := a0.Kind) (b := 1) (v := (.bool ((a0.Kind == 1)))) rfl rfl rfl) ?_
  refine LV (R_assign (v := (.bool ((a0.Kind == 1)))) rfl) ?_
  refine LW_nil ?_
  refine sq_n ?_
  refine CW_if (b := (a0.Kind == 1)) rfl (fun hb10 => ?_) (fun hb10 => ?_)
  · replace hm := if_t hb10 hm
    refine CW_seq ?_
    refine CW_region ?_
    refine LV (R_field fa36_2 rfl) ?_
    refine LV (R_load (v := (.string a0.Who)) rfl (load_box1 hST.has (.tail _ (.tail _ (.head _))) rfl Try.isAgg9)) ?_
    refine LV (R_load (v := (.string a3)) rfl (load_box1 hST.has (.head _) rfl Try.isAgg9)) ?_
    refine LV (R_str (a := a0.Who) (b := a3) (v := (.bool ((beqS a0.Who a3)))) rfl rfl rfl) ?_
    refine LV (R_assign (v := (.bool ((beqS a0.Who a3)))) rfl) ?_
    refine LW_nil ?_
    refine sq_n ?_
    replace hST : ST true NoF w _ _ [] := hST.sublist (List.Sublist.cons _ (List.Sublist.cons _ (List.Sublist.cons _ (List.Sublist.refl _))))
    refine CW_ret ?_
    refine bq_r (sq_r ?_)
    replace hm := Option.some.inj hm; subst hm
    refine retQ_1 (v := (.bool ((beqS a0.Who a3)))) rfl rfl ?_
    exact ⟨rfl, hST.ex⟩
  · replace hm := if_f hb10 hm
    refine CW_seq ?_
    refine CW_region ?_
    refine LV (R_int (k := .i64) (a := a0.Kind) (b := 2) (v := (.bool ((a0.Kind == 2)))) rfl rfl rfl) ?_
    refine LV (R_assign (v := (.bool ((a0.Kind == 2)))) rfl) ?_
    refine LW_nil ?_
    refine sq_n ?_
    refine CW_if (b := (a0.Kind == 2)) rfl (fun hb11 => ?_) (fun hb11 => ?_)
    · replace hm := if_t hb11 hm
      refine CW_seq ?_
      refine CW_region ?_
      refine LV (R_load (v := (.func f3 f4 f5)) rfl (load_box1 hST.has (.tail _ (.head _)) rfl Try.isAgg41)) ?_
      refine LV (R_field fa36_3 rfl) ?_
      refine LV (R_load (v := (.agg (encRole a0.B).toArray)) rfl (load_boxA hST.has (.tail _ (.tail _ (.head _))) (encRole a0.B) rfl Try.isAgg34 Try.sizeOf34)) ?_
      refine LV (R_load (v := (.string a3)) rfl (load_box1 hST.has (.head _) rfl Try.isAgg9)) ?_
      obtain ⟨r12, hr13, hm⟩ := bind_some hm
      refine LE (E_cb ((a0.B, a3)) hST h_a1 (Sub.refl _) rfl (args2 rfl rfl) hr13 (fun W14 hST => ?_))
      refine LV (R_assign (v := (.bool r12)) rfl) ?_
      refine LW_nil ?_
      refine sq_n ?_
      replace hST : ST true NoF w _ _ [] := hST.sublist (List.Sublist.cons _ (List.Sublist.cons _ (List.Sublist.cons _ (List.Sublist.refl _))))
      refine CW_ret ?_
      refine bq_r (sq_r ?_)
      replace hm := Option.some.inj hm; subst hm
      refine retQ_1 (v := (.bool r12)) rfl rfl ?_
      exact ⟨rfl, hST.ex⟩
    · replace hm := if_f hb11 hm
      refine CW_seq ?_
      refine CW_region ?_
      refine LV (R_int (k := .i64) (a := a0.Kind) (b := 4) (v := (.bool ((a0.Kind == 4)))) rfl rfl rfl) ?_
      refine LV (R_assign (v := (.bool ((a0.Kind == 4)))) rfl) ?_
      refine LW_nil ?_
      refine sq_n ?_
      refine CW_if (b := (a0.Kind == 4)) rfl (fun hb15 => ?_) (fun hb15 => ?_)
      · replace hm := if_t hb15 hm
        refine CW_seq ?_
        refine CW_region ?_
        refine LV (R_load (v := (.func f3 f4 f5)) rfl (load_box1 hST.has (.tail _ (.head _)) rfl Try.isAgg41)) ?_
        refine LV (R_field fa36_3 rfl) ?_
        refine LV (R_load (v := (.agg (encRole a0.B).toArray)) rfl (load_boxA hST.has (.tail _ (.tail _ (.head _))) (encRole a0.B) rfl Try.isAgg34 Try.sizeOf34)) ?_
        refine LV (R_load (v := (.string a3)) rfl (load_box1 hST.has (.head _) rfl Try.isAgg9)) ?_
        obtain ⟨r16, hr17, hm⟩ := bind_some hm
        refine LE (E_cb ((a0.B, a3)) hST h_a1 (Sub.refl _) rfl (args2 rfl rfl) hr17 (fun W18 hST => ?_))
        refine LV (R_move (v := (.bool r16)) rfl) ?_
        obtain ⟨s28, hm29, hm30⟩ := bind_some hm
        refine LW_join (J := fun E W => ∃ (x23 : Bool) (L24 : List (Nat × Obj)), ST true NoF w W (hp w) L24 ∧ E 8 = (.bool false) ∧ E 37 = (.bool x23) ∧ some x23 = some r) 6 ?_ (fun key31 => ?_)
        · rintro E W ⟨x23, L24, hST, e26, e27, hm25⟩
          refine LV (R_assign (v := (.bool x23)) e27) ?_
          refine LW_nil ?_
          refine sq_n ?_
          refine CW_ret ?_
          refine bq_r (sq_r ?_)
          replace hm25 := Option.some.inj hm25; subst hm25
          refine retQ_1 (v := (.bool x23)) rfl rfl ?_
          exact ⟨rfl, hST.ex⟩
        · rcases bool_cases r16 with hb19 | hb19
          · replace hm29 := if_t hb19 hm29
            refine LW_v (.inr ⟨5, true, 31, rfl, rfl, by decide, (congrArg Value.bool hb19)⟩) rfl (by decide) (R_load (v := (.func f3 f4 f5)) rfl (load_box1 hST.has (.tail _ (.head _)) rfl Try.isAgg41)) ?_
            refine LW_v (.inr ⟨5, true, 31, rfl, rfl, by decide, (congrArg Value.bool hb19)⟩) rfl (by decide) (R_field fa36_4 rfl) ?_
            refine LW_v (.inr ⟨5, true, 31, rfl, rfl, by decide, (congrArg Value.bool hb19)⟩) rfl (by decide) (R_load (v := (.agg (encRole a0.C).toArray)) rfl (load_boxA hST.has (.tail _ (.tail _ (.head _))) (encRole a0.C) rfl Try.isAgg34 Try.sizeOf34)) ?_
            refine LW_v (.inr ⟨5, true, 31, rfl, rfl, by decide, (congrArg Value.bool hb19)⟩) rfl (by decide) (R_load (v := (.string a3)) rfl (load_box1 hST.has (.head _) rfl Try.isAgg9)) ?_
            obtain ⟨r32, hr33, hm29⟩ := bind_some hm29
            refine LW_e (.inr ⟨5, true, 31, rfl, rfl, by decide, (congrArg Value.bool hb19)⟩) rfl (by decide) (E_cb ((a0.C, a3)) hST h_a1 (Sub.refl _) rfl (args2 rfl rfl) hr33 (fun W34 hST => ?_))
            refine LV (R_pickT (v := (.bool r32)) (congrArg Value.bool hb19) rfl) ?_
            replace hm29 := Option.some.inj hm29; subst hm29
            exact key31 _ _ ⟨r32, _, (hST.sublist (List.Sublist.cons _ (List.Sublist.cons _ (List.Sublist.cons _ (List.Sublist.refl _))))), rfl, rfl, hm30⟩
          · replace hm29 := if_f hb19 hm29
            refine LW_no rfl (by decide) rfl rfl (by decide) (congrArg Value.bool hb19) ?_
            refine LW_no rfl (by decide) rfl rfl (by decide) (congrArg Value.bool hb19) ?_
            refine LW_no rfl (by decide) rfl rfl (by decide) (congrArg Value.bool hb19) ?_
            refine LW_no rfl (by decide) rfl rfl (by decide) (congrArg Value.bool hb19) ?_
            refine LW_no rfl (by decide) rfl rfl (by decide) (congrArg Value.bool hb19) ?_
            refine LV (R_pickF (v := (.bool false)) (congrArg Value.bool hb19) rfl) ?_
            replace hm29 := Option.some.inj hm29; subst hm29
            exact key31 _ _ ⟨false, _, (hST.sublist (List.Sublist.cons _ (List.Sublist.cons _ (List.Sublist.cons _ (List.Sublist.refl _))))), rfl, rfl, hm30⟩
      · replace hm := if_f hb15 hm
        refine CW_skip ?_
        refine bq_n ?_
        refine sq_n ?_
        refine CW_seq ?_
        refine CW_region ?_
        refine LV (R_move (v := v_a2) rfl) ?_
        refine LV (R_makeFuncC (by exact args3 rfl rfl rfl) rfl) ?_
        obtain ⟨r35, hr36, hm⟩ := bind_some hm
        refine LE (E_gives (args := [v_a2, (.func (.func 57) #[] #[(.pointer (some ⟨b6, 0, none⟩)), (.pointer (some ⟨b1, 0, none⟩)), (.pointer (some ⟨b8, 0, none⟩))])]) hST rfl Try.call56 (by exact args2 rfl rfl) ((w_slices_ContainsFunc_string v_a2 a2 (.func (.func 57) #[] #[(.pointer (some ⟨b6, 0, none⟩)), (.pointer (some ⟨b1, 0, none⟩)), (.pointer (some ⟨b8, 0, none⟩))]) (fun (x : ByteArray) => m_model_brings_c1 x f1 a0 a3) _ _ (h_a2.mono (Pl.mono _) hST.sub_hp) ⟨57, #[], #[(.pointer (some ⟨b6, 0, none⟩)), (.pointer (some ⟨b1, 0, none⟩)), (.pointer (some ⟨b8, 0, none⟩))], rfl, Try.call57, fun W x r hs hm => w_model_brings_c1 x b6 (.func f3 f4 f5) f1 b1 a0 b8 a3 r W (h_a1.mono (hST.sub_hp.trans hs)) (At.of (hs _ _ (hST.at_ (.tail _ (.head _)))) _ rfl) (At.of (hs _ _ (hST.at_ (.tail _ (.tail _ (.head _))))) _ rfl) (At.of (hs _ _ (hST.at_ (.head _))) _ rfl) hm⟩ hr36)) (fun W37 hST => ?_))
        refine LV (R_assign (v := (.bool r35)) rfl) ?_
        refine LW_nil ?_
        refine sq_n ?_
        replace hST : ST true NoF w _ _ [] := hST.sublist (List.Sublist.cons _ (List.Sublist.cons _ (List.Sublist.cons _ (List.Sublist.refl _))))
        refine CW_ret ?_
        replace hm := Option.some.inj hm; subst hm
        refine retQ_1 (v := (.bool r35)) rfl rfl ?_
        exact ⟨rfl, hST.ex⟩
theorem w_model_Holds (a0 : Cred) (v_a1 : Value) (f1 : ((Role × ByteArray)) → Option Bool) (v_a2 : Value) (a2 : List ByteArray) (r : List Fact) (w : World) (h_a1 : CbOk Try.prog v_a1 (hp w) (fun (x : (Role × ByteArray)) => [(.agg (encRole x.1).toArray), (.string x.2)]) (fun (r : Bool) => (.bool r)) f1) (h_a2 : Sl (Pl encSk) 1 (hp w) v_a2 a2) (hm : m_model_Holds a0 f1 a2 = some r) :
    GivesRow true Try.prog 14 [(.agg (encCred a0).toArray), v_a1, v_a2] w 43 encFact 3 r := by
  have hST := ST.start (dd := true) w
  unfold m_model_Holds at hm
  refine calls_of_CW (n := 47) Try.func14 rfl rfl (Nat.le_of_ble_eq_true rfl) ?_
  refine CW_seq ?_
  refine CW_region ?_
  refine LE (E_box (v := (.agg (encCred a0).toArray)) hST rfl (fun W2 b1 hST => ?_))
  refine LV (R_assign (v := (.slice none 0 0)) rfl) ?_
  refine LW_nil ?_
  refine sq_n ?_
  refine CW_seq ?_
  refine CW_seq ?_
  refine CW_region ?_
  refine LV (R_load (v := (.agg (encCred a0).toArray)) rfl (load_boxA hST.has (.head _) (encCred a0) rfl Try.isAgg36 Try.sizeOf36)) ?_
  obtain ⟨r3, hr4, hm⟩ := bind_some hm
  refine LE (E_gives (args := [(.agg (encCred a0).toArray)]) hST rfl Try.call22 (by exact args1 rfl) ((w_cred_Right a0 _ _  hr4)) (fun W5 hST => ?_))
  refine LV (R_not (b := r3) rfl) ?_
  refine LV (R_move (v := (.bool ((!r3)))) rfl) ?_
  obtain ⟨s207, hm208, hm209⟩ := bind_some hm
  refine LW_join (J := fun E W => ∃ (x7 : Bool) (L8 : List (Nat × Obj)), ST true NoF w W (hp w) ((b1, Obj.cells ((encCred a0).toArray : Array Value) 36 (0, 0)) :: L8) ∧ E 1 = v_a1 ∧ E 2 = v_a2 ∧ E 3 = (.pointer (some ⟨b1, 0, none⟩)) ∧ E 17 = (.bool x7) ∧ (if x7 then some [] else (((m_name_Set a2)).bind fun r15 => (((if (a0.Kind == 1) then some ([a0.Who]) else some r15) : Option (List ByteArray)).bind fun l43 => m_model_Holds_L1 a0 f1 r15 l43 ([])))) = some r) 3 ?_ (fun key210 => ?_)
  · rintro E W ⟨x7, L8, hST, e10, e11, e12, e13, hm9⟩
    refine LW_nil ?_
    refine sq_n ?_
    refine CW_if (b := x7) e13 (fun hb14 => ?_) (fun hb14 => ?_)
    · replace hm9 := if_t hb14 hm9
      refine CW_seq ?_
      refine CW_region ?_
      refine LV (R_assign (v := (.slice none 0 0)) rfl) ?_
      refine LW_nil ?_
      refine sq_n ?_
      replace hST : ST true NoF w _ _ L8 := hST.sublist (List.Sublist.cons _ (List.Sublist.refl _))
      refine CW_ret ?_
      refine sq_r ?_
      replace hm9 := Option.some.inj hm9; subst hm9
      refine retQ_1 (v := (.slice none 0 0)) rfl rfl ?_
      exact ⟨_, [], rfl, hST.backRow (fun p hq => by cases hq) (by simp), Row.nil _ _ _⟩
    · replace hm9 := if_f hb14 hm9
      refine CW_skip ?_
      refine sq_n ?_
      refine CW_seq ?_
      refine CW_region ?_
      refine LV (R_move (v := v_a2) e11) ?_
      obtain ⟨r15, hr16, hm9⟩ := bind_some hm9
      refine LE (E_givesRow (args := [v_a2]) [_] _ hST rfl Try.call35 (by exact args1 rfl) ((w_name_Set v_a2 a2 _ _ (h_a2.mono (Pl.mono _) hST.sub_hp) hr16)) (fun W17 v20 μ18 R21 hST hle19 hR22 => ?_))
      refine LV (R_assign (v := v20) rfl) ?_
      refine LW_nil ?_
      refine sq_n ?_
      refine CW_seq ?_
      refine CW_region ?_
      refine LV (R_move (v := v20) rfl) ?_
      refine LV (R_assign (v := v20) rfl) ?_
      refine LW_nil ?_
      refine sq_n ?_
      refine CW_seq ?_
      replace hST : ST true NoF w _ _ ((b1, Obj.cells ((encCred a0).toArray : Array Value) 36 (0, 0)) :: (R21 ++ L8)) := hST
      have hf33 := hR22.frM hST (fun p hq => (.tail _ (List.mem_append_left _ hq)))
      obtain ⟨μ30, hST, hle31, hs32⟩ := ST.pubRow (X := [_]) hST hR22 (fun _ => rfl)
      simp only [List.cons_append, List.nil_append] at hST
      obtain ⟨s197, hm198, hm199⟩ := bind_some hm9
      refine CW_cut (fun E W => ∃ (v42 : Value) (l43 : List ByteArray) (μ41 : Mem) (L46 : List (Nat × Obj)), Sub μ30 μ41 ∧ ST true NoF w W μ41 ((b1, Obj.cells ((encCred a0).toArray : Array Value) 36 (0, 0)) :: L46) ∧ E 1 = v_a1 ∧ E 2 = v20 ∧ E 3 = (.pointer (some ⟨b1, 0, none⟩)) ∧ E 7 = v42 ∧ Sl (Pl encSk) 1 μ41 v42 l43 ∧ Fr w.heap.size v42 ∧ m_model_Holds_L1 a0 f1 r15 l43 ([]) = some r) ?_ ?_
      · refine CW_seq ?_
        refine CW_region ?_
        refine LV (R_field fa36_0 e12) ?_
        refine LV (R_load (v := (.int .i64 a0.Kind)) rfl (load_box1 hST.has (.head _) rfl Try.isAgg3)) ?_
        refine LV (R_int (k := .i64) (a := a0.Kind) (b := 1) (v := (.bool ((a0.Kind == 1)))) rfl rfl rfl) ?_
        refine LW_nil ?_
        refine sq_n ?_
        refine CW_if (b := (a0.Kind == 1)) rfl (fun hb200 => ?_) (fun hb200 => ?_)
        · replace hm198 := if_t hb200 hm198
          refine CW_region ?_
          refine LV (R_field fa36_2 e12) ?_
          refine LV (R_load (v := (.string a0.Who)) rfl (load_box1 hST.has (.head _) rfl Try.isAgg9)) ?_
          refine LE (E_buildSlice (qs := #[(0, (.string a0.Who))]) (cs := [(.string a0.Who)].toArray) hST (parts1 rfl) (run_lit [(.string a0.Who)] Try.underlying37 Try.sizeOf9 Try.zeroValue9 (by decide) rfl (by intro v hv; simp only [List.mem_cons, List.not_mem_nil, or_false] at hv; rcases hv with rfl <;> rfl) rfl rfl) (fun W202 b201 hST => ?_))
          refine LV (R_assign (v := (.slice (some ⟨b201, 0, none⟩) 1 1)) rfl) ?_
          refine LW_nil ?_
          refine sq_n ?_
          replace hm198 := Option.some.inj hm198; subst hm198
          replace hST : ST true NoF w _ _ ((b201, Obj.cells ([(.string a0.Who)].toArray : Array Value) 9 (0, 0)) :: ((b1, Obj.cells ((encCred a0).toArray : Array Value) 36 (0, 0)) :: L8)) := hST
          replace hST : ST true NoF w _ _ ((b201, Obj.cells ([(.string a0.Who)].toArray : Array Value) 9 (0, 0)) :: ((b1, Obj.cells ((encCred a0).toArray : Array Value) 36 (0, 0)) :: L8)) := hST
          have hf206 : Fr w.heap.size (.slice (some ⟨b201, 0, none⟩) 1 1) := Fr.box hST (.head _)
          obtain ⟨μ203, hST, hle204, hs205⟩ := ST.pubRow (X := []) (R := [(b201, Obj.cells ([(.string a0.Who)].toArray : Array Value) 9 (0, 0))]) (by simpa using hST) (Row.lit (l := [a0.Who]) (enc := encSk) (b := b201) (m := 1) rfl (by decide) rfl rfl) (fun _ => rfl)
          simp only [List.cons_append, List.nil_append] at hST
          exact ⟨(.slice (some ⟨b201, 0, none⟩) 1 1), ([a0.Who]), μ203, _, hle204, (hST.sublist (List.Sublist.refl _)), e10, rfl, e12, rfl, hs205, hf206, hm199⟩
        · replace hm198 := if_f hb200 hm198
          refine CW_skip ?_
          refine sq_n ?_
          replace hm198 := Option.some.inj hm198; subst hm198
          replace hST : ST true NoF w _ _ ((b1, Obj.cells ((encCred a0).toArray : Array Value) 36 (0, 0)) :: L8) := hST
          exact ⟨v20, r15, μ30, _, (Sub.refl _), (hST.sublist (List.Sublist.refl _)), e10, rfl, e12, rfl, hs32, hf33, hm199⟩
      · rintro E W ⟨v42, l43, μ41, L46, hle48, hST, e49, e50, e51, e52, hs44, hf45, hm47⟩
        refine CW_seq ?_
        refine CW_region ?_
        refine LV (R_assign (v := (.slice none 0 0)) rfl) ?_
        refine LW_nil ?_
        refine sq_n ?_
        refine CW_seq ?_
        refine CW_seq ?_
        refine CW_region ?_
        refine LV (R_move (v := v42) e52) ?_
        refine LV (R_len Try.underlying37 rfl hs44) ?_
        refine LV (R_move (v := (.int .i64 0)) rfl) ?_
        refine LW_nil ?_
        refine sq_n ?_
        refine CW_range (fun i E W => ∃ (v147 : Value) (l148 : List Fact) (R150 : List (Nat × Obj)) (L175 : List (Nat × Obj)), (E 29 = .int .i64 (i : Nat) ∧ E 28 = .int .i64 (l43.length : Nat)) ∧ ST true NoF w W μ41 ((b1, Obj.cells ((encCred a0).toArray : Array Value) 36 (0, 0)) :: (R150 ++ L175)) ∧ E 1 = v_a1 ∧ E 2 = v20 ∧ E 3 = (.pointer (some ⟨b1, 0, none⟩)) ∧ E 8 = v147 ∧ E 27 = v42 ∧ Row 43 encFact 3 v147 l148 R150 ∧ m_model_Holds_L1 a0 f1 r15 (l43.drop i) l148 = some r) l43.length hs44.len ⟨(.slice none 0 0), ([]), [], _, ⟨rfl, rfl⟩, (hST.sublist (List.Sublist.refl _)), e49, e50, e51, rfl, rfl, (Row.nil _ _ _), hm47⟩ (by decide) (by decide) (by decide) (fun _ _ _ h => by obtain ⟨_, _, _, _, eIN, _⟩ := h; exact eIN) ?_ ?_
        · rintro i125 E W hi131 ⟨v147, l148, R150, L175, ⟨eI, eN⟩, hST, e177, e178, e179, e180, e181, hs149, hm176⟩
          obtain ⟨x126, xs127, hx129, hx128, hx130⟩ := drop_cons hi131
          rw [hx129] at hm176
          rw [m_model_Holds_L1] at hm176
          refine CW_block ?_
          refine CW_seq ?_
          refine CW_region ?_
          refine LQ (R_indexP (enc := encSk) (i := (i125 : Int)) (x0 := x126) Try.underlying37 Try.sizeOf9 e181 eI hs44 (Int.natCast_nonneg _) hx128) (fun p182 hp183 => ?_)
          refine LV (R_load rfl (load_at1 hST.has (y := (.string x126)) hp183 Try.isAgg9)) ?_
          refine LV (R_assign (v := (.string x126)) rfl) ?_
          refine LW_nil ?_
          refine sq_n ?_
          refine CW_seq ?_
          refine CW_region ?_
          refine LV (R_load (v := (.agg (encCred a0).toArray)) e179 (load_boxA hST.has (.head _) (encCred a0) rfl Try.isAgg36 Try.sizeOf36)) ?_
          refine LV (R_move (v := v_a1) e177) ?_
          refine LV (R_move (v := v20) e178) ?_
          refine LV (R_move (v := (.string x126)) rfl) ?_
          obtain ⟨r185, hr186, hm176⟩ := bind_some hm176
          refine LE (E_gives (args := [(.agg (encCred a0).toArray), v_a1, v20, (.string x126)]) hST rfl Try.call36 (by exact args4 rfl rfl rfl rfl) ((w_model_brings a0 v_a1 f1 v20 r15 x126 _ _ (h_a1.mono (((hle19.trans hle31).trans hle48).trans hST.sub_hp)) (hs32.mono (Pl.mono _) (hle48.trans hST.sub_hp)) hr186)) (fun W187 hST => ?_))
          refine LW_nil ?_
          refine sq_n ?_
          refine CW_if (b := r185) rfl (fun hb188 => ?_) (fun hb188 => ?_)
          · replace hm176 := if_t hb188 hm176
            refine CW_region ?_
            refine LV (R_move (v := v147) e180) ?_
            refine LV (R_field fa36_1 e179) ?_
            refine LV (R_load (v := (.agg (encRole a0.Head).toArray)) rfl (load_boxA hST.has (.head _) (encRole a0.Head) rfl Try.isAgg34 Try.sizeOf34)) ?_
            refine LV (R_move (v := (.string x126)) rfl) ?_
            refine LV (R_build (qs := #[(0, (.agg (encRole a0.Head).toArray)), (1, (.string x126))]) (v := (.agg (encFact ((⟨a0.Head, x126⟩ : Fact))).toArray)) (parts2 rfl rfl) (run_build Try.zeroValue43 Try.underlying43 (pl43 _ Try.underlying43) (by kernel_rfl))) ?_
            refine LE (E_buildSlice (qs := #[(0, (.agg (encFact ((⟨a0.Head, x126⟩ : Fact))).toArray))]) (cs := (encFact ((⟨a0.Head, x126⟩ : Fact))).toArray) hST (parts1 rfl) (run_lit [(.agg (encFact ((⟨a0.Head, x126⟩ : Fact))).toArray)] Try.underlying28 Try.sizeOf43 Try.zeroValue43 (by decide) rfl (by intro v hv; simp only [List.mem_cons, List.not_mem_nil, or_false] at hv; rcases hv with rfl <;> rfl) rfl rfl) (fun W190 b189 hST => ?_))
            obtain ⟨l191, hb192, hm176⟩ := bind_some hm176
            refine LE (E_append (enc := encFact) (v := v147) (vs := (.slice (some ⟨b189, 0, none⟩) 1 1)) (R := R150) [_, _] hST lenFact (by decide) oneFact Try.underlying28 info43.1 info43.2.1 rfl info43.2.2.1 info43.2.2.2 rfl rfl hs149 (Sl.lit (enc := encFact) (l := [(⟨a0.Head, x126⟩ : Fact)]) lenFact rfl (Nat.le_of_ble_eq_true rfl) rfl (hST.at_ (.head _))) hb192 (fun W193 v196 R194 hST hR195 => ?_))
            refine LV (R_assign (v := v196) rfl) ?_
            refine LW_nil ?_
            refine bq_n ?_
            refine sq_n ?_
            replace hST : ST true NoF w _ _ ((b189, Obj.cells ((encFact ((⟨a0.Head, x126⟩ : Fact))).toArray : Array Value) 43 (0, 0)) :: ((b1, Obj.cells ((encCred a0).toArray : Array Value) 36 (0, 0)) :: (R194 ++ L175))) := hST
            replace hST : ST true NoF w _ _ ((b1, Obj.cells ((encCred a0).toArray : Array Value) 36 (0, 0)) :: (R194 ++ L175)) := hST.sublist (List.Sublist.cons _ (List.Sublist.refl _))
            exact ⟨eI, v196, l191, R194, _, ⟨rfl, eN⟩, (hST.sublist (List.Sublist.refl _)), e177, e178, e179, rfl, e181, hR195, (by rw [hx130]; exact hm176)⟩
          · replace hm176 := if_f hb188 hm176
            refine CW_skip ?_
            refine bq_n ?_
            refine sq_n ?_
            exact ⟨eI, v147, l148, R150, _, ⟨rfl, eN⟩, (hST.sublist (List.Sublist.refl _)), e177, e178, e179, e180, e181, hs149, (by rw [hx130]; exact hm176)⟩
        · rintro E W ⟨v147, l148, R150, L175, ⟨eI, eN⟩, hST, e177, e178, e179, e180, e181, hs149, hm176⟩
          rw [List.drop_length] at hm176
          rw [m_model_Holds_L1] at hm176
          refine sq_n ?_
          replace hST : ST true NoF w _ _ (R150 ++ L175) := hST.sublist (List.Sublist.cons _ (List.Sublist.refl _))
          refine CW_seq ?_
          refine CW_region ?_
          refine LV (R_move (v := v147) e180) ?_
          refine LV (R_assign (v := v147) rfl) ?_
          refine LW_nil ?_
          refine sq_n ?_
          refine CW_ret ?_
          replace hm176 := Option.some.inj hm176; subst hm176
          refine retQ_1 (v := v147) rfl rfl ?_
          exact ⟨_, R150, rfl, hST.backRow (fun p hq => by simp [hq]) hs149.nd, hs149⟩
  · rcases bool_cases ((!r3)) with hb6 | hb6
    · replace hm208 := if_t hb6 hm208
      refine LW_no rfl (by decide) rfl rfl (by decide) (congrArg Value.bool hb6) ?_
      refine LW_no rfl (by decide) rfl rfl (by decide) (congrArg Value.bool hb6) ?_
      refine LV (R_pickT (v := (.bool true)) (congrArg Value.bool hb6) rfl) ?_
      replace hm208 := Option.some.inj hm208; subst hm208
      exact key210 _ _ ⟨true, _, (hST.sublist (List.Sublist.refl _)), rfl, rfl, rfl, rfl, hm209⟩
    · replace hm208 := if_f hb6 hm208
      refine LW_v (.inr ⟨3, false, 14, rfl, rfl, by decide, (congrArg Value.bool hb6)⟩) rfl (by decide) (R_move (v := v_a1) rfl) ?_
      refine LW_v (.inr ⟨3, false, 14, rfl, rfl, by decide, (congrArg Value.bool hb6)⟩) rfl (by decide) (R_cbEqNil Try.underlying41 h_a1 rfl rfl) ?_
      refine LV (R_pickF (v := (.bool false)) (congrArg Value.bool hb6) rfl) ?_
      replace hm208 := Option.some.inj hm208; subst hm208
      exact key210 _ _ ⟨false, _, (hST.sublist (List.Sublist.refl _)), rfl, rfl, rfl, rfl, hm209⟩
theorem w_model_Model_In (b_a0 : Nat) (v_a0_in_ : Value) (a0_in_ : List (Role × (List (ByteArray × Bool)))) (v_a0_creds : Value) (a0_creds : List Cred) (v_a0_uses : Value) (a0_uses : List (Role × (List Cred))) (v_a0_words : Value) (a0_words : List (ByteArray × (List Cred))) (v_a0_todo : Value) (a0_todo : List Fact) (a0_n : Int) (a1 : Role) (a2 : ByteArray) (r : Bool) (w : World) (h_a0_in_ : DeepAt (fun (x : Role) => (.agg (encRole x).toArray)) (MapRow Value.string (fun (x : Bool) => (Value.bool x))) (hp w) v_a0_in_ a0_in_) (h_a0_creds : Sl (Pl encCred) 9 (hp w) v_a0_creds a0_creds) (h_a0_uses : DeepAt (fun (x : Role) => (.agg (encRole x).toArray)) (Row 36 encCred 9) (hp w) v_a0_uses a0_uses) (h_a0_words : DeepAt Value.string (Row 36 encCred 9) (hp w) v_a0_words a0_words) (h_a0_todo : Sl (Pl encFact) 3 (hp w) v_a0_todo a0_todo) (hA_a0 : At (hp w) (.pointer (some ⟨b_a0, 0, none⟩)) [v_a0_in_, v_a0_creds, v_a0_uses, v_a0_words, v_a0_todo, (.int .i64 a0_n)]) (hm : m_model_Model_In a0_in_ a0_creds a0_uses a0_words a0_todo a0_n a1 a2 = some r) :
    Gives true Try.prog 15 [(.pointer (some ⟨b_a0, 0, none⟩)), (.agg (encRole a1).toArray), (.string a2)] w (.bool r) := by
  have hST := ST.start (dd := true) w
  unfold m_model_Model_In at hm
  refine calls_of_CW (n := 19) Try.func15 rfl rfl (Nat.le_of_ble_eq_true rfl) ?_
  refine CW_seq ?_
  refine CW_region ?_
  refine LE (E_box (v := (.agg (encRole a1).toArray)) hST rfl (fun W2 b1 hST => ?_))
  refine LV (R_assign (v := (.bool false)) rfl) ?_
  refine LW_nil ?_
  refine sq_n ?_
  refine CW_seq ?_
  refine PX_start (fun l W => Has (hp w) ((b1, Obj.cells ((encRole a1).toArray : Array Value) 34 (0, 0)) :: []) W) Try_mixed ?_
  replace hST := hST.drew
  have hS0 : Has (hp w) ((b1, Obj.cells ((encRole a1).toArray : Array Value) 34 (0, 0)) :: []) _ := hST.has.sub (Sub.refl _) (fun p hq => ((List.mem_cons.1 hq).elim (fun hq => by rw [hq]; exact (.head _)) (fun hq => (absurd hq List.not_mem_nil))))
  refine PV 0 rfl hS0 (R_move (v := (.pointer (some ⟨b_a0, 0, none⟩))) rfl) ?_
  refine PV 1 rfl hS0 (R_ptrNeNil Try.underlying25 rfl rfl) ?_
  refine PV 2 rfl hS0 (R_move (v := (.bool true)) rfl) ?_
  refine PX_v 3 rfl (by kernel_rfl) (.inr ⟨2, true, 9, rfl, rfl, by decide, rfl⟩) rfl (by decide) (fun _ _ h => h) hS0 (fun _ _ _ _ => R_move (v := (.pointer (some ⟨b_a0, 0, none⟩))) rfl) ?_
  refine PX_v 4 rfl (by kernel_rfl) (.inr ⟨2, true, 9, rfl, rfl, by decide, rfl⟩) rfl (by decide) (fun _ _ h => h) hS0 (fun _ _ _ _ => R_nilCheck rfl) ?_
  refine PX_q 5 rfl (by kernel_rfl) (.inr ⟨2, true, 9, rfl, rfl, by decide, rfl⟩) rfl (by decide) (fun _ _ h => h) hS0 (R_fieldAt [v_a0_in_] fa53_0 rfl hA_a0 rfl) (fun p17 hp18 => ?_)
  refine PX_v 6 rfl (by kernel_rfl) (.inr ⟨2, true, 9, rfl, rfl, by decide, rfl⟩) rfl (by decide) (fun _ _ h => h) hS0 (fun l W hpd hs => have hS := hs; R_load rfl (load_at1 hS (y := v_a0_in_) hp18 Try.isAgg49)) ?_
  refine PX_v 7 rfl (by kernel_rfl) (.inr ⟨2, true, 9, rfl, rfl, by decide, rfl⟩) rfl (by decide) (fun _ _ h => h) hS0 (fun l W hpd hs => have hS := hs; R_load (v := (.agg (encRole a1).toArray)) rfl (load_boxA hS (.head _) (encRole a1) rfl Try.isAgg34 Try.sizeOf34)) ?_
  obtain ⟨lv20, R21, hd22, hq23⟩ := h_a0_in_
  refine PX_v 8 rfl (by kernel_rfl) (.inr ⟨2, true, 9, rfl, rfl, by decide, rfl⟩) rfl (by decide) (fun _ _ h => h) hS0 (fun l W hpd hs => have hS := hs; R_lookupDeep (k := a1) (z := (.map none)) kl34 Try.underlying49 Try.zeroValue59 rfl rfl hd22 (fun b o hq => hS.1 b o (hq23 b o hq))) ?_
  refine PX_v 9 rfl (by kernel_rfl) (.inr ⟨2, true, 9, rfl, rfl, by decide, rfl⟩) rfl (by decide) (fun _ _ h => h) hS0 (fun _ _ _ _ => R_move (v := (.string a2)) rfl) ?_
  refine PX_v 10 rfl (by kernel_rfl) (.inr ⟨2, true, 9, rfl, rfl, by decide, rfl⟩) rfl (by decide) (fun _ _ h => h) hS0 (fun l W hpd hs => have hS := hs; R_lookupD (k := a2) (z := false) (vf := (fun (x : Bool) => (Value.bool x))) kl9 Try.underlying59 Try.zeroValue4 rfl rfl ((DeepV.mapAt beqRole_iff.1 hd22 a1 hq23).mono (fun b o hq => hS.1 b o hq))) ?_
  refine PV 11 rfl hS0 (R_pickT (v := (.bool ((mgetD beqS (((mget beqRole a0_in_ a1).getD [])) a2 false)))) rfl rfl) ?_
  refine PV 12 rfl hS0 (R_assign (v := (.bool ((mgetD beqS (((mget beqRole a0_in_ a1).getD [])) a2 false)))) rfl) ?_
  refine PX_done (by kernel_rfl) ?_
  refine sq_n ?_
  replace hST : ST true NoF w _ _ [] := hST.sublist (List.Sublist.cons _ (List.Sublist.refl _))
  refine CW_ret ?_
  replace hm := Option.some.inj hm; subst hm
  refine retQ_1 (v := (.bool ((mgetD beqS (((mget beqRole a0_in_ a1).getD [])) a2 false)))) rfl rfl ?_
  exact ⟨rfl, hST.ex⟩
theorem w_sortF27 (v_a0 : Value) (a0 : List Fact) (R_a0 : List (Nat × Obj)) (v_a1 : Value) (f1 : ((Fact × Fact)) → Option Int) (r : List Fact) (w : World) {μ0 : Mem} (hH : Held (R_a0 ++ []) w) (hN : (((R_a0 ++ []) : List (Nat × Obj)).map (·.1)).Nodup) (hS0 : Sub μ0 (hpx w (R_a0 ++ []))) (h_a0 : Row 43 encFact 3 v_a0 a0 R_a0) (h_a1 : CbO Try.prog v_a1 μ0 (fun (x : (Fact × Fact)) => [(.agg (encFact x.1).toArray), (.agg (encFact x.2).toArray)]) (fun (r : Int) => (.int .i64 r)) f1) (hm : sortF f1 a0 = some r) :
    GivesM true Try.prog 27 [v_a0, v_a1] w (R_a0 ++ []) (fun v L1 W' => ∃ (S : List (Nat × Obj)), v = (.tuple #[]) ∧ L1 = (S ++ []) ∧ Row 43 encFact 3 v_a0 r S) := sortF_gives (P := Try.prog) (ρ := ren27) lay27 3 Try.isAgg43 Try.sizeOf43 encFact lenFact oneFact hH hS0 h_a0 h_a1 hm
theorem w_model_Model_Facts_c1 (a0 : Fact) (a1 : Fact) (r : Int) (w : World)  (hm : m_model_Model_Facts_c1 a0 a1 = some r) :
    Gives true Try.prog 28 [(.agg (encFact a0).toArray), (.agg (encFact a1).toArray)] w (.int .i64 r) := by
  have hST := ST.start (dd := true) w
  unfold m_model_Model_Facts_c1 at hm
  refine calls_of_CW (n := 17) Try.func28 rfl rfl (Nat.le_of_ble_eq_true rfl) ?_
  refine CW_seq ?_
  refine CW_region ?_
  refine LE (E_box (v := (.agg (encFact a0).toArray)) hST rfl (fun W2 b1 hST => ?_))
  refine LE (E_box (v := (.agg (encFact a1).toArray)) hST rfl (fun W4 b3 hST => ?_))
  refine LV (R_assign (v := (.int .i64 0)) rfl) ?_
  refine LW_nil ?_
  refine sq_n ?_
  refine CW_seq ?_
  refine PX_start (fun l W => Has (hp w) ((b3, Obj.cells ((encFact a1).toArray : Array Value) 43 (0, 0)) :: ((b1, Obj.cells ((encFact a0).toArray : Array Value) 43 (0, 0)) :: [])) W) Try_mixed ?_
  replace hST := hST.drew
  have hS0 : Has (hp w) ((b3, Obj.cells ((encFact a1).toArray : Array Value) 43 (0, 0)) :: ((b1, Obj.cells ((encFact a0).toArray : Array Value) 43 (0, 0)) :: [])) _ := hST.has.sub (Sub.refl _) (fun p hq => ((List.mem_cons.1 hq).elim (fun hq => by rw [hq]; exact (.head _)) (fun hq => ((List.mem_cons.1 hq).elim (fun hq => by rw [hq]; exact (.tail _ (.head _))) (fun hq => (absurd hq List.not_mem_nil))))))
  refine PV 0 rfl hS0 (R_field fa43_0 rfl) ?_
  refine PX_v 1 rfl (by kernel_rfl) (.inl rfl) rfl (by decide) (fun _ _ h => h) hS0 (fun l W hpd hs => have hS := hs; R_load (v := (.agg (encRole a0.Role).toArray)) rfl (load_boxA hS (.tail _ (.head _)) (encRole a0.Role) rfl Try.isAgg34 Try.sizeOf34)) ?_
  refine PV 2 rfl hS0 (R_field fa43_0 rfl) ?_
  refine PX_v 3 rfl (by kernel_rfl) (.inl rfl) rfl (by decide) (fun _ _ h => h) hS0 (fun l W hpd hs => have hS := hs; R_load (v := (.agg (encRole a1.Role).toArray)) rfl (load_boxA hS (.head _) (encRole a1.Role) rfl Try.isAgg34 Try.sizeOf34)) ?_
  refine PV 5 rfl hS0 (R_field fa43_1 rfl) ?_
  refine PX_v 6 rfl (by kernel_rfl) (.inl rfl) rfl (by decide) (fun _ _ h => h) hS0 (fun l W hpd hs => have hS := hs; R_load (v := (.string a0.Who)) rfl (load_box1 hS (.tail _ (.head _)) rfl Try.isAgg9)) ?_
  refine PV 7 rfl hS0 (R_field fa43_1 rfl) ?_
  refine PX_v 8 rfl (by kernel_rfl) (.inl rfl) rfl (by decide) (fun _ _ h => h) hS0 (fun l W hpd hs => have hS := hs; R_load (v := (.string a1.Who)) rfl (load_box1 hS (.head _) rfl Try.isAgg9)) ?_
  obtain ⟨r27, hr28, hm⟩ := bind_some hm
  refine PX_e 4 rfl (by kernel_rfl) (.inl rfl) rfl (by decide) (E_gives (args := [(.agg (encRole a0.Role).toArray), (.agg (encRole a1.Role).toArray)]) hST rfl Try.call30 (by exact args2 rfl rfl) ((w_role_Compare a0.Role a1.Role _ _  hr28)) (fun W29 hST => ?_))
  have hS0 : Has (hp w) ((b3, Obj.cells ((encFact a1).toArray : Array Value) 43 (0, 0)) :: ((b1, Obj.cells ((encFact a0).toArray : Array Value) 43 (0, 0)) :: [])) _ := hST.has.sub (Sub.refl _) (fun p hq => ((List.mem_cons.1 hq).elim (fun hq => by rw [hq]; exact (.head _)) (fun hq => ((List.mem_cons.1 hq).elim (fun hq => by rw [hq]; exact (.tail _ (.head _))) (fun hq => (absurd hq List.not_mem_nil))))))
  refine ⟨hS0, ?_⟩
  obtain ⟨r30, hr31, hm⟩ := bind_some hm
  refine PX_e 9 rfl (by kernel_rfl) (.inl rfl) rfl (by decide) (E_gives (args := [(.string a0.Who), (.string a1.Who)]) hST rfl Try.call31 (by exact args2 rfl rfl) ((w_strings_Compare a0.Who a1.Who _ _  hr31)) (fun W32 hST => ?_))
  have hS0 : Has (hp w) ((b3, Obj.cells ((encFact a1).toArray : Array Value) 43 (0, 0)) :: ((b1, Obj.cells ((encFact a0).toArray : Array Value) 43 (0, 0)) :: [])) _ := hST.has.sub (Sub.refl _) (fun p hq => ((List.mem_cons.1 hq).elim (fun hq => by rw [hq]; exact (.head _)) (fun hq => ((List.mem_cons.1 hq).elim (fun hq => by rw [hq]; exact (.tail _ (.head _))) (fun hq => (absurd hq List.not_mem_nil))))))
  refine ⟨hS0, ?_⟩
  refine PX_e 10 rfl (by kernel_rfl) (.inl rfl) rfl (by decide) (E_buildSlice (qs := #[(0, (.int .i64 r27)), (1, (.int .i64 r30))]) (cs := #[(.int .i64 r27), (.int .i64 r30)]) hST (parts2 rfl rfl) (run_lit [(.int .i64 r27), (.int .i64 r30)] Try.underlying83 Try.sizeOf3 Try.zeroValue3 (by decide) rfl (by intro v hv; simp only [List.mem_cons, List.not_mem_nil, or_false] at hv; rcases hv with rfl | rfl <;> rfl) rfl rfl) (fun W34 b33 hST => ?_))
  have hS0 : Has (hp w) ((b3, Obj.cells ((encFact a1).toArray : Array Value) 43 (0, 0)) :: ((b1, Obj.cells ((encFact a0).toArray : Array Value) 43 (0, 0)) :: [])) _ := hST.has.sub (Sub.refl _) (fun p hq => ((List.mem_cons.1 hq).elim (fun hq => by rw [hq]; exact (.tail _ (.head _))) (fun hq => ((List.mem_cons.1 hq).elim (fun hq => by rw [hq]; exact (.tail _ (.tail _ (.head _)))) (fun hq => (absurd hq List.not_mem_nil))))))
  refine ⟨hS0, ?_⟩
  obtain ⟨r35, hr36, hm⟩ := bind_some hm
  refine PX_e 11 rfl (by kernel_rfl) (.inl rfl) rfl (by decide) (E_gives (args := [(.slice (some ⟨b33, 0, none⟩) 2 2)]) hST rfl Try.call29 (by exact args1 rfl) ((w_cmp_Or_int (.slice (some ⟨b33, 0, none⟩) 2 2) ([r27, r30]) _ _ (Sl.lit (enc := (encIk .i64)) (l := [r27, r30]) (fun _ => rfl) rfl (Nat.le_of_ble_eq_true rfl) rfl (hST.at_ (.head _))) hr36)) (fun W37 hST => ?_))
  have hS0 : Has (hp w) ((b3, Obj.cells ((encFact a1).toArray : Array Value) 43 (0, 0)) :: ((b1, Obj.cells ((encFact a0).toArray : Array Value) 43 (0, 0)) :: [])) _ := hST.has.sub (Sub.refl _) (fun p hq => ((List.mem_cons.1 hq).elim (fun hq => by rw [hq]; exact (.tail _ (.head _))) (fun hq => ((List.mem_cons.1 hq).elim (fun hq => by rw [hq]; exact (.tail _ (.tail _ (.head _)))) (fun hq => (absurd hq List.not_mem_nil))))))
  refine ⟨hS0, ?_⟩
  refine PV 12 rfl hS0 (R_assign (v := (.int .i64 r35)) rfl) ?_
  refine PX_done (by kernel_rfl) ?_
  refine sq_n ?_
  replace hST : ST true NoF w _ _ [] := hST.sublist (List.Sublist.cons _ (List.Sublist.cons _ (List.Sublist.cons _ (List.Sublist.refl _))))
  refine CW_ret ?_
  replace hm := Option.some.inj hm; subst hm
  refine retQ_1 (v := (.int .i64 r35)) rfl rfl ?_
  exact ⟨rfl, hST.ex⟩
theorem w_model_Model_Facts (b_a0 : Nat) (v_a0_in_ : Value) (a0_in_ : List (Role × (List (ByteArray × Bool)))) (v_a0_creds : Value) (a0_creds : List Cred) (v_a0_uses : Value) (a0_uses : List (Role × (List Cred))) (v_a0_words : Value) (a0_words : List (ByteArray × (List Cred))) (v_a0_todo : Value) (a0_todo : List Fact) (a0_n : Int) (r : List Fact) (w : World) (h_a0_in_ : DeepAt (fun (x : Role) => (.agg (encRole x).toArray)) (MapRow Value.string (fun (x : Bool) => (Value.bool x))) (hp w) v_a0_in_ a0_in_) (h_a0_creds : Sl (Pl encCred) 9 (hp w) v_a0_creds a0_creds) (h_a0_uses : DeepAt (fun (x : Role) => (.agg (encRole x).toArray)) (Row 36 encCred 9) (hp w) v_a0_uses a0_uses) (h_a0_words : DeepAt Value.string (Row 36 encCred 9) (hp w) v_a0_words a0_words) (h_a0_todo : Sl (Pl encFact) 3 (hp w) v_a0_todo a0_todo) (hA_a0 : At (hp w) (.pointer (some ⟨b_a0, 0, none⟩)) [v_a0_in_, v_a0_creds, v_a0_uses, v_a0_words, v_a0_todo, (.int .i64 a0_n)]) (hm : m_model_Model_Facts a0_in_ a0_creds a0_uses a0_words a0_todo a0_n = some r) :
    GivesRow true Try.prog 11 [(.pointer (some ⟨b_a0, 0, none⟩))] w 43 encFact 3 r := by
  have hST := ST.start (dd := true) w
  unfold m_model_Model_Facts at hm
  refine calls_of_CW (n := 34) Try.func11 rfl rfl (Nat.le_of_ble_eq_true rfl) ?_
  refine CW_seq ?_
  refine CW_region ?_
  refine LV (R_assign (v := (.slice none 0 0)) rfl) ?_
  refine LW_nil ?_
  refine sq_n ?_
  refine CW_seq ?_
  refine CW_seq ?_
  refine CW_region ?_
  refine LV (R_move (v := (.pointer (some ⟨b_a0, 0, none⟩))) rfl) ?_
  refine LV (R_ptrEqNil Try.underlying25 rfl rfl) ?_
  refine LW_nil ?_
  refine sq_n ?_
  refine CW_if_false rfl ?_
  refine CW_skip ?_
  refine sq_n ?_
  refine CW_seq ?_
  refine CW_region ?_
  refine LV (R_assign (v := (.slice none 0 0)) rfl) ?_
  refine LW_nil ?_
  refine sq_n ?_
  refine CW_seq ?_
  refine CW_cut (fun E W => ∃ (v_f : Value) (l_f : List Fact) (R_f L_f : List (Nat × Obj)), ST true NoF w W (hp w) (R_f ++ L_f) ∧ E 3 = v_f ∧ Row 43 encFact 3 v_f l_f R_f ∧ (((sortF (fun (x : (Fact × Fact)) => m_model_Model_Facts_c1 x.1 x.2) l_f)).bind fun r4 => some r4) = some r) ?_ ?_
  · refine CW_seq ?_
    refine CW_region ?_
    refine LV (R_move (v := (.pointer (some ⟨b_a0, 0, none⟩))) rfl) ?_
    refine LV (R_nilCheck rfl) ?_
    refine LQ (R_fieldAt [v_a0_in_] fa53_0 rfl hA_a0 rfl) (fun p1 hp2 => ?_)
    refine LV (R_load rfl (load_at1 hST.has (y := v_a0_in_) hp2 Try.isAgg49)) ?_
    obtain ⟨ll, hll, hmat, hall⟩ := DeepAt.zip h_a0_in_
    refine LE (E_rangeM (M := (hp w)) Try.underlying49 hST rfl hmat (fun b o hb => hST.mem b o hb) (fun W v5 R6 hST hI => ?_))
    refine LW_nil (sq_n ?_)
    obtain ⟨fs, hfs, hm⟩ := bind_some hm
    obtain ⟨hf1, hf2, hf3⟩ := pairsB_some hfs
    replace hm := allOrders_spec hm
    have hP0 : (([] : List Fact) ++ ll.flatMap (fun (p : Role × (Value × List (ByteArray × Bool))) => p.2.2.map (fun (q : ByteArray × Bool) => (⟨p.1, q.1⟩ : Fact)))).Perm fs := by rw [← hf3, ← hll, List.nil_append, List.flatMap_map]
    refine CW_block (CW_loop (fun m E W => ∃ (v : Value) (l : List Fact) (R L : List (Nat × Obj)) (lf : List (Role × (Value × List (ByteArray × Bool)))) (Ri : List (Nat × Obj)), m = lf.length ∧ ST true NoF w W (hp w) (R ++ (Ri ++ L)) ∧ E 3 = v ∧ E 13 = v5 ∧ Iter (fun (x : Role) => (.agg (encRole x).toArray)) (fun x => x.1) (hp w) v5 lf Ri ∧ Row 43 encFact 3 v l R ∧ (∀ p ∈ lf, MapAt Value.string (fun (x : Bool) => (Value.bool x)) (hp w) p.2.1 p.2.2) ∧ (l ++ lf.flatMap (fun (p : Role × (Value × List (ByteArray × Bool))) => p.2.2.map (fun (q : ByteArray × Bool) => (⟨p.1, q.1⟩ : Fact)))).Perm fs) _ ⟨.slice none 0 0, [], [], [], ll, R6, rfl, hST.perm (by simp), rfl, rfl, hI, Row.nil _ _ _, hall, hP0⟩ ?_)
    rintro m E W ⟨v, l, R, L, lf, Ri, rfl, hST, e3, eit, hI, hR, hall, hP⟩
    refine CW_seq (CW_region (LW_e (.inl rfl) rfl (by decide) (E_nextM R hST (fun b o hb => hST.mem b o hb) hI eit (fun hend => ?_) (fun W R1 p lf1 hp1 hST hA => ?_))))
    · subst hend
      refine LV (R_extract (v := .bool false) rfl rfl) (LW_nil (sq_n (CW_seq ?_)))
      refine CW_if_false rfl (CW_exit (sq_e (sq_e (bq_e ?_))))
      exact sq_n ⟨v, l, R, Ri ++ L, hST, e3, hR, hm l (by simpa using hP)⟩
    · refine LV (R_extract (v := .bool true) rfl rfl) (LW_nil (sq_n (CW_seq ?_)))
      refine CW_if_true rfl (CW_skip (sq_n (CW_block ?_)))
      refine CW_seq (CW_region ?_)
      refine LV (R_entryM (fun q hq => (hST.box q.1 q.2 (List.mem_append_right _ (List.mem_append_left _ hq))).1) (fun b o hb => hST.mem b o hb) hA eit) ?_
      refine LV (R_extract (v := (.agg (encRole p.1).toArray)) rfl rfl) ?_
      refine LV (R_extract (v := p.2.1) rfl rfl) ?_
      refine LE (E_alloc hST Try.zeroValue34 (fun W b4 hST => ?_))
      refine LW_e0 (.inl rfl) rfl (E_store [] (.agg (encRole p.1).toArray) ((encRole p.1).toArray) hST rfl rfl Try.sizeOf34 (oneRole p.1) (Nat.le_of_ble_eq_true rfl) rfl (fun W hST => ?_))
      refine LV (R_assign (v := p.2.1) rfl) ?_
      refine LW_nil (sq_n (CW_seq (CW_region ?_)))
      refine LV (R_move (v := p.2.1) rfl) ?_
      refine LE (E_rangeM (M := (hp w)) Try.underlying59 hST rfl (hall p (hp1.mem_iff.2 (.head _))) (fun b o hb => hST.mem b o hb) (fun W v20 R20 hST hI2 => ?_))
      refine LW_nil (sq_n ?_)
      have hall1 : ∀ p ∈ lf1, MapAt Value.string (fun (x : Bool) => (Value.bool x)) (hp w) p.2.1 p.2.2 := fun p hp => hall p (hp1.mem_iff.2 (.tail _ hp))
      have hP1 : (l ++ (p.2.2.map (fun q => (⟨p.1, q.1⟩ : Fact)) ++ lf1.flatMap (fun (p : Role × (Value × List (ByteArray × Bool))) => p.2.2.map (fun (q : ByteArray × Bool) => (⟨p.1, q.1⟩ : Fact))))).Perm fs := (List.Perm.append_left l (List.Perm.flatMap_right (fun (p : Role × (Value × List (ByteArray × Bool))) => p.2.2.map (fun (q : ByteArray × Bool) => (⟨p.1, q.1⟩ : Fact))) hp1)).symm.trans hP
      refine CW_block (CW_loop (fun m E W => ∃ (v : Value) (l : List Fact) (R L : List (Nat × Obj)) (lg : List (ByteArray × Bool)) (Rj : List (Nat × Obj)), m = lg.length ∧ ST true NoF w W (hp w) ((b4, Obj.cells (encRole p.1).toArray 34 (0, 0)) :: (R ++ (Rj ++ (R1 ++ L)))) ∧ E 3 = v ∧ E 13 = v5 ∧ E 4 = .pointer (some ⟨b4, 0, none⟩) ∧ E 20 = v20 ∧ Iter Value.string (fun (x : Bool) => (Value.bool x)) (hp w) v20 lg Rj ∧ Row 43 encFact 3 v l R ∧ (l ++ (lg.map (fun q => (⟨p.1, q.1⟩ : Fact)) ++ lf1.flatMap (fun (p : Role × (Value × List (ByteArray × Bool))) => p.2.2.map (fun (q : ByteArray × Bool) => (⟨p.1, q.1⟩ : Fact))))).Perm fs) _ ⟨v, l, R, L, p.2.2, R20, rfl, ?_, e3, eit, rfl, rfl, hI2, hR, hP1⟩ ?_)
      · refine hST.perm ?_
        show (R20 ++ ((b4, Obj.cells (encRole p.1).toArray 34 (0, 0)) :: (R ++ (R1 ++ L)))).Perm _
        exact List.perm_middle.trans (List.Perm.cons _ (List.perm_append_comm_assoc _ _ _))
      rintro m E W ⟨v, l, R, L, lg, Rj, rfl, hST, e3, eit, e4, e20, hI2, hR, hP⟩
      refine CW_seq (CW_region (LW_e (.inl rfl) rfl (by decide) (E_nextM ([_] ++ R) (by simpa only [List.append_assoc, List.cons_append, List.nil_append, List.singleton_append] using hST) (fun b o hb => hST.mem b o hb) hI2 e20 (fun hend => ?_) (fun W Rj1 q lg1 hq1 hST hA2 => ?_))))
      · subst hend
        refine LV (R_extract (v := .bool false) rfl rfl) (LW_nil (sq_n (CW_seq ?_)))
        refine CW_if_false rfl (CW_exit (sq_e (sq_e (bq_e ?_))))
        refine bq_n (sq_n ?_)
        exact ⟨_, by simp [hp1.length_eq], v, l, R, Rj ++ L, lf1, R1, rfl, (ST.drop (A := []) hST).perm (List.Perm.append_left R (List.perm_append_comm_assoc _ _ _)), e3, eit, hA.iter, hR, hall1, by simpa using hP⟩
      · simp only [List.append_assoc, List.cons_append, List.nil_append, List.singleton_append] at hST
        refine LV (R_extract (v := .bool true) rfl rfl) (LW_nil (sq_n (CW_seq ?_)))
        refine CW_if_true rfl (CW_skip (sq_n (CW_block ?_)))
        refine CW_seq (CW_region ?_)
        refine LV (R_entryM (fun q hq => (hST.box q.1 q.2 (.tail _ (List.mem_append_right _ (List.mem_append_left _ hq)))).1) (fun b o hb => hST.mem b o hb) hA2 e20) ?_
        refine LV (R_extract (v := (.string q.1)) rfl rfl) ?_
        refine LV (R_assign (v := (.string q.1)) rfl) ?_
        refine LW_nil (sq_n (CW_region ?_))
        refine LV (R_move (v := v) e3) ?_
        refine LV (R_load (v := (.agg (encRole p.1).toArray)) e4 (load_boxA hST.has (.head _) (encRole p.1) rfl Try.isAgg34 Try.sizeOf34)) ?_
        refine LV (R_move (v := (.string q.1)) rfl) ?_
        refine LV (R_build (qs := #[(0, (.agg (encRole p.1).toArray)), (1, (.string q.1))]) (v := (.agg (encFact (⟨p.1, q.1⟩ : Fact)).toArray)) (parts2 rfl rfl) (run_build Try.zeroValue43 Try.underlying43 (pl43 _ Try.underlying43) (by kernel_rfl))) ?_
        refine LE (E_buildSlice (qs := #[(0, (.agg (encFact (⟨p.1, q.1⟩ : Fact)).toArray))]) (cs := (encFact (⟨p.1, q.1⟩ : Fact)).toArray) hST (parts1 rfl) (run_lit [(.agg (encFact (⟨p.1, q.1⟩ : Fact)).toArray)] Try.underlying28 Try.sizeOf43 Try.zeroValue43 (by decide) rfl (by intro v hv; simp only [List.mem_cons, List.not_mem_nil, or_false] at hv; rcases hv with rfl <;> rfl) rfl rfl) (fun W b6 hST => ?_))
        have hP2 : ((l ++ [(⟨p.1, q.1⟩ : Fact)]) ++ (lg1.map (fun q => (⟨p.1, q.1⟩ : Fact)) ++ lf1.flatMap (fun (p : Role × (Value × List (ByteArray × Bool))) => p.2.2.map (fun (q : ByteArray × Bool) => (⟨p.1, q.1⟩ : Fact))))).Perm fs := by rw [List.append_assoc]; exact (List.Perm.append_left l (List.Perm.append_right _ (hq1.map (fun q => (⟨p.1, q.1⟩ : Fact))).symm)).trans hP
        have happ : appB 48 l [(⟨p.1, q.1⟩ : Fact)] = some (l ++ [(⟨p.1, q.1⟩ : Fact)]) := appB_of hf1 hf2 (by rw [← hP2.length_eq]; simp only [List.length_append]; omega)
        refine LE (E_append (enc := encFact) (v := v) (vs := (.slice (some ⟨b6, 0, none⟩) 1 1)) (R := R) [_, _] hST lenFact (by decide) oneFact Try.underlying28 info43.1 info43.2.1 rfl info43.2.2.1 info43.2.2.2 rfl rfl hR (Sl.lit (enc := encFact) (l := [(⟨p.1, q.1⟩ : Fact)]) lenFact rfl (Nat.le_of_ble_eq_true rfl) rfl (hST.at_ (.head _))) happ (fun W v8 R8 hST hR8 => ?_))
        refine LV (R_assign (v := v8) rfl) ?_
        refine LW_nil (bq_n (sq_n ?_))
        exact ⟨_, by simp [hq1.length_eq], v8, _, R8, L, lg1, Rj1, rfl, ST.drop (A := []) hST, rfl, eit, e4, e20, hA2.iter, hR8, hP2⟩
  · rintro E W ⟨v_f, l_f, R_f, L_f, hST, e_f, h_f, hm⟩
    refine CW_seq ?_
    refine CW_region ?_
    refine LV (R_move (v := v_f) e_f) ?_
    obtain ⟨r4, hr5, hm⟩ := bind_some hm
    replace hST : ST true NoF w _ _ (R_f ++ L_f) := hST.perm (List.Perm.refl _)
    have hsz := hST.size
    refine LE (E_callM (args := [v_f, (.func (.func 28) #[] #[])]) (caps := #[]) ((R_f ++ [])) L_f hST (by simp only [List.append_assoc, List.cons_append, List.nil_append]; exact List.Perm.refl _) rfl Try.call27 (by exact args2 rfl rfl) (fun hH hN hsb hmm => (w_sortF27 v_f l_f R_f (.func (.func 28) #[] #[]) (fun (x : (Fact × Fact)) => m_model_Model_Facts_c1 x.1 x.2) _ _ hH hN (Sub.refl _) h_f ⟨28, #[], rfl, Try.call28, fun W x r hs hm => w_model_Model_Facts_c1 x.1 x.2 r W  hm⟩ hr5)) (fun W6 v9 μ7 L11 hST hle8 hlift hK10 => ?_))
    obtain ⟨S12, hv14, rfl, hy13⟩ := hK10
    replace hv14 := hv14.symm; subst hv14
    simp only [List.append_assoc, List.cons_append, List.nil_append] at hST
    refine LW_nil ?_
    refine sq_n ?_
    refine CW_seq ?_
    refine CW_region ?_
    refine LV (R_move (v := v_f) e_f) ?_
    refine LV (R_assign (v := v_f) rfl) ?_
    refine LW_nil ?_
    refine sq_n ?_
    refine CW_ret ?_
    replace hm := Option.some.inj hm; subst hm
    refine retQ_1 (v := v_f) rfl rfl ?_
    exact ⟨_, S12, rfl, hST.backRow (fun p hq => by simp [hq]) hy13.nd, hy13⟩
theorem w_model_Model_Roles (b_a0 : Nat) (v_a0_in_ : Value) (a0_in_ : List (Role × (List (ByteArray × Bool)))) (v_a0_creds : Value) (a0_creds : List Cred) (v_a0_uses : Value) (a0_uses : List (Role × (List Cred))) (v_a0_words : Value) (a0_words : List (ByteArray × (List Cred))) (v_a0_todo : Value) (a0_todo : List Fact) (a0_n : Int) (a1 : ByteArray) (r : List Role) (w : World) (h_a0_in_ : DeepAt (fun (x : Role) => (.agg (encRole x).toArray)) (MapRow Value.string (fun (x : Bool) => (Value.bool x))) (hp w) v_a0_in_ a0_in_) (h_a0_creds : Sl (Pl encCred) 9 (hp w) v_a0_creds a0_creds) (h_a0_uses : DeepAt (fun (x : Role) => (.agg (encRole x).toArray)) (Row 36 encCred 9) (hp w) v_a0_uses a0_uses) (h_a0_words : DeepAt Value.string (Row 36 encCred 9) (hp w) v_a0_words a0_words) (h_a0_todo : Sl (Pl encFact) 3 (hp w) v_a0_todo a0_todo) (hA_a0 : At (hp w) (.pointer (some ⟨b_a0, 0, none⟩)) [v_a0_in_, v_a0_creds, v_a0_uses, v_a0_words, v_a0_todo, (.int .i64 a0_n)]) (hm : m_model_Model_Roles a0_in_ a0_creds a0_uses a0_words a0_todo a0_n a1 = some r) :
    GivesRow true Try.prog 18 [(.pointer (some ⟨b_a0, 0, none⟩)), (.string a1)] w 34 encRole 2 r := by
  have hST := ST.start (dd := true) w
  unfold m_model_Model_Roles at hm
  refine calls_of_CW (n := 26) Try.func18 rfl rfl (Nat.le_of_ble_eq_true rfl) ?_
  refine CW_seq ?_
  refine CW_region ?_
  refine LV (R_assign (v := (.slice none 0 0)) rfl) ?_
  refine LW_nil ?_
  refine sq_n ?_
  refine CW_seq ?_
  refine CW_region ?_
  refine LV (R_assign (v := (.slice none 0 0)) rfl) ?_
  refine LW_nil ?_
  refine sq_n ?_
  refine CW_seq ?_
  refine CW_seq ?_
  refine CW_region ?_
  refine LV (R_move (v := (.pointer (some ⟨b_a0, 0, none⟩))) rfl) ?_
  obtain ⟨r1, hr2, hm⟩ := bind_some hm
  refine LE (E_givesRow (args := [(.pointer (some ⟨b_a0, 0, none⟩))]) [] _ hST rfl Try.call11 (by exact args1 rfl) ((w_model_Model_Facts b_a0 v_a0_in_ a0_in_ v_a0_creds a0_creds v_a0_uses a0_uses v_a0_words a0_words v_a0_todo a0_todo a0_n _ _ (h_a0_in_.mono hST.sub_hp) (h_a0_creds.mono (Pl.mono _) hST.sub_hp) (h_a0_uses.mono hST.sub_hp) (h_a0_words.mono hST.sub_hp) (h_a0_todo.mono (Pl.mono _) hST.sub_hp) (hA_a0.mono hST.sub_hp) hr2)) (fun W3 v6 μ4 R7 hST hle5 hR8 => ?_))
  refine LV (R_lenRow Try.underlying28 rfl hR8) ?_
  refine LV (R_move (v := (.int .i64 0)) rfl) ?_
  refine LW_nil ?_
  refine sq_n ?_
  replace hST : ST true NoF w _ _ (R7 ++ []) := hST
  refine CW_range (fun i E W => ∃ (v99 : Value) (l100 : List Role) (R102 : List (Nat × Obj)) (L125 : List (Nat × Obj)), (E 11 = .int .i64 (i : Nat) ∧ E 10 = .int .i64 (r1.length : Nat)) ∧ ST true NoF w W μ4 (R102 ++ (R7 ++ L125)) ∧ E 1 = (.string a1) ∧ E 5 = v99 ∧ E 9 = v6 ∧ Row 34 encRole 2 v99 l100 R102 ∧ m_model_Model_Roles_L1 a1 (r1.drop i) l100 = some r) r1.length hR8.len ⟨(.slice none 0 0), ([]), [], _, ⟨rfl, rfl⟩, (hST.sublist (List.Sublist.refl _)), rfl, rfl, rfl, (Row.nil _ _ _), hm⟩ (by decide) (by decide) (by decide) (fun _ _ _ h => by obtain ⟨_, _, _, _, eIN, _⟩ := h; exact eIN) ?_ ?_
  · rintro i77 E W hi83 ⟨v99, l100, R102, L125, ⟨eI, eN⟩, hST, e127, e128, e129, hs101, hm126⟩
    obtain ⟨x78, xs79, hx81, hx80, hx82⟩ := drop_cons hi83
    rw [hx81] at hm126
    rw [m_model_Model_Roles_L1] at hm126
    refine CW_block ?_
    refine CW_seq ?_
    refine CW_region ?_
    refine LQ (R_indexRow (i := (i77 : Int)) (x0 := x78) Try.underlying28 Try.sizeOf43 e129 eI hR8 (Int.natCast_nonneg _) hx80) (fun p130 hp131 => ?_)
    refine LV (R_load (v := (.agg (encFact x78).toArray)) rfl (load_ixA hST.has (fun p hq => by simp [hq]) hR8 lenFact hp131 hx80 Try.isAgg43 Try.sizeOf43)) ?_
    refine LE (E_alloc hST Try.zeroValue43 (fun W134 b133 hST => ?_))
    refine LW_e0 (.inl rfl) rfl (E_store [] (.agg (encFact x78).toArray) ((encFact x78).toArray) hST rfl rfl Try.sizeOf43 (oneFact x78) (Nat.le_of_ble_eq_true rfl) rfl (fun W135 hST => ?_))
    refine LW_nil ?_
    refine sq_n ?_
    refine CW_seq ?_
    refine CW_region ?_
    refine LV (R_field fa43_1 rfl) ?_
    refine LV (R_load (v := (.string x78.Who)) rfl (load_box1 hST.has (.head _) rfl Try.isAgg9)) ?_
    refine LV (R_move (v := (.string a1)) e127) ?_
    refine LV (R_str (a := x78.Who) (b := a1) (v := (.bool ((beqS x78.Who a1)))) rfl rfl rfl) ?_
    refine LW_nil ?_
    refine sq_n ?_
    refine CW_if (b := (beqS x78.Who a1)) rfl (fun hb136 => ?_) (fun hb136 => ?_)
    · replace hm126 := if_t hb136 hm126
      refine CW_region ?_
      refine LV (R_move (v := v99) e128) ?_
      refine LV (R_field fa43_0 rfl) ?_
      refine LV (R_load (v := (.agg (encRole x78.Role).toArray)) rfl (load_boxA hST.has (.head _) (encRole x78.Role) rfl Try.isAgg34 Try.sizeOf34)) ?_
      refine LE (E_buildSlice (qs := #[(0, (.agg (encRole x78.Role).toArray))]) (cs := (encRole x78.Role).toArray) hST (parts1 rfl) (run_lit [(.agg (encRole x78.Role).toArray)] Try.underlying47 Try.sizeOf34 Try.zeroValue34 (by decide) rfl (by intro v hv; simp only [List.mem_cons, List.not_mem_nil, or_false] at hv; rcases hv with rfl <;> rfl) rfl rfl) (fun W138 b137 hST => ?_))
      replace hST : ST true NoF w _ _ ((b137, Obj.cells ((encRole x78.Role).toArray : Array Value) 34 (0, 0)) :: ((b133, Obj.cells ((encFact x78).toArray : Array Value) 43 (0, 0)) :: (R102 ++ (R7 ++ L125)))) := hST
      obtain ⟨l139, hb140, hm126⟩ := bind_some hm126
      refine LE (E_append (enc := encRole) (v := v99) (vs := (.slice (some ⟨b137, 0, none⟩) 1 1)) (R := R102) [_, _] hST lenRole (by decide) oneRole Try.underlying47 info34.1 info34.2.1 rfl info34.2.2.1 info34.2.2.2 rfl rfl hs101 (Sl.lit (enc := encRole) (l := [x78.Role]) lenRole rfl (Nat.le_of_ble_eq_true rfl) rfl (hST.at_ (.head _))) hb140 (fun W141 v144 R142 hST hR143 => ?_))
      refine LV (R_assign (v := v144) rfl) ?_
      refine LW_nil ?_
      refine bq_n ?_
      refine sq_n ?_
      replace hST : ST true NoF w _ _ ((b137, Obj.cells ((encRole x78.Role).toArray : Array Value) 34 (0, 0)) :: ((b133, Obj.cells ((encFact x78).toArray : Array Value) 43 (0, 0)) :: (R142 ++ (R7 ++ L125)))) := hST
      replace hST : ST true NoF w _ _ (R142 ++ (R7 ++ L125)) := hST.sublist (List.Sublist.cons _ (List.Sublist.cons _ (List.Sublist.refl _)))
      exact ⟨eI, v144, l139, R142, _, ⟨rfl, eN⟩, (hST.sublist (List.Sublist.refl _)), e127, rfl, e129, hR143, (by rw [hx82]; exact hm126)⟩
    · replace hm126 := if_f hb136 hm126
      refine CW_skip ?_
      refine bq_n ?_
      refine sq_n ?_
      replace hST : ST true NoF w _ _ ((b133, Obj.cells ((encFact x78).toArray : Array Value) 43 (0, 0)) :: (R102 ++ (R7 ++ L125))) := hST
      replace hST : ST true NoF w _ _ (R102 ++ (R7 ++ L125)) := hST.sublist (List.Sublist.cons _ (List.Sublist.refl _))
      exact ⟨eI, v99, l100, R102, _, ⟨rfl, eN⟩, (hST.sublist (List.Sublist.refl _)), e127, e128, e129, hs101, (by rw [hx82]; exact hm126)⟩
  · rintro E W ⟨v99, l100, R102, L125, ⟨eI, eN⟩, hST, e127, e128, e129, hs101, hm126⟩
    rw [List.drop_length] at hm126
    rw [m_model_Model_Roles_L1] at hm126
    refine sq_n ?_
    replace hST : ST true NoF w _ _ (R102 ++ L125) := hST.sublist (List.Sublist.append (List.Sublist.refl _) ((List.Sublist.refl _).trans (List.sublist_append_right _ _)))
    refine CW_seq ?_
    refine CW_region ?_
    refine LV (R_move (v := v99) e128) ?_
    refine LV (R_assign (v := v99) rfl) ?_
    refine LW_nil ?_
    refine sq_n ?_
    refine CW_ret ?_
    replace hm126 := Option.some.inj hm126; subst hm126
    refine retQ_1 (v := v99) rfl rfl ?_
    exact ⟨_, R102, rfl, hST.backRow (fun p hq => by simp [hq]) hs101.nd, hs101⟩
theorem w_law08_first  (r : Bool) (w : World)  (hm : m_law08_first  = some r) :
    Gives false Try.prog 5 [] w (.bool r) := by
  have hST := ST.start (dd := false) w
  unfold m_law08_first at hm
  refine calls_of_CW (n := 79) Try.func5 rfl rfl (Nat.le_of_ble_eq_true rfl) ?_
  refine CW_seq ?_
  refine CW_region ?_
  refine LV (R_assign (v := (.bool false)) rfl) ?_
  refine LW_nil ?_
  refine sq_n ?_
  refine CW_seq ?_
  refine CW_region ?_
  refine LV (R_build (qs := #[(0, (.string ((⟨#[97]⟩ : ByteArray)))), (1, (.string ((⟨#[114]⟩ : ByteArray))))]) (v := (.agg (encRole ((⟨(⟨#[97]⟩ : ByteArray), (⟨#[114]⟩ : ByteArray)⟩ : Role))).toArray)) (parts2 rfl rfl) (run_build Try.zeroValue34 Try.underlying34 (pl34 _ Try.underlying34) (by kernel_rfl))) ?_
  refine LV (R_build (qs := #[(0, (.string ((⟨#[98]⟩ : ByteArray)))), (1, (.string ((⟨#[115]⟩ : ByteArray))))]) (v := (.agg (encRole ((⟨(⟨#[98]⟩ : ByteArray), (⟨#[115]⟩ : ByteArray)⟩ : Role))).toArray)) (parts2 rfl rfl) (run_build Try.zeroValue34 Try.underlying34 (pl34 _ Try.underlying34) (by kernel_rfl))) ?_
  refine LE (E_alloc hST Try.zeroValue34 (fun W2 b1 hST => ?_))
  refine LE (E_alloc hST Try.zeroValue34 (fun W4 b3 hST => ?_))
  refine LW_e0 (.inl rfl) rfl (E_store [_] (.agg (encRole ((⟨(⟨#[97]⟩ : ByteArray), (⟨#[114]⟩ : ByteArray)⟩ : Role))).toArray) ((encRole ((⟨(⟨#[97]⟩ : ByteArray), (⟨#[114]⟩ : ByteArray)⟩ : Role))).toArray) hST rfl rfl Try.sizeOf34 (oneRole ((⟨(⟨#[97]⟩ : ByteArray), (⟨#[114]⟩ : ByteArray)⟩ : Role))) (Nat.le_of_ble_eq_true rfl) rfl (fun W5 hST => ?_))
  refine LW_e0 (.inl rfl) rfl (E_store [] (.agg (encRole ((⟨(⟨#[98]⟩ : ByteArray), (⟨#[115]⟩ : ByteArray)⟩ : Role))).toArray) ((encRole ((⟨(⟨#[98]⟩ : ByteArray), (⟨#[115]⟩ : ByteArray)⟩ : Role))).toArray) hST rfl rfl Try.sizeOf34 (oneRole ((⟨(⟨#[98]⟩ : ByteArray), (⟨#[115]⟩ : ByteArray)⟩ : Role))) (Nat.le_of_ble_eq_true rfl) rfl (fun W6 hST => ?_))
  refine LW_nil ?_
  refine sq_n ?_
  refine CW_seq ?_
  refine PX_start (fun l W => Has (hp w) ((b3, Obj.cells ((encRole ((⟨(⟨#[98]⟩ : ByteArray), (⟨#[115]⟩ : ByteArray)⟩ : Role))).toArray : Array Value) 34 (0, 0)) :: ((b1, Obj.cells ((encRole ((⟨(⟨#[97]⟩ : ByteArray), (⟨#[114]⟩ : ByteArray)⟩ : Role))).toArray : Array Value) 34 (0, 0)) :: [])) W) Try_mixed ?_
  replace hST := hST.drew
  replace hST : ST false NoF w _ _ ((b3, Obj.cells ((encRole ((⟨(⟨#[98]⟩ : ByteArray), (⟨#[115]⟩ : ByteArray)⟩ : Role))).toArray : Array Value) 34 (0, 0)) :: ((b1, Obj.cells ((encRole ((⟨(⟨#[97]⟩ : ByteArray), (⟨#[114]⟩ : ByteArray)⟩ : Role))).toArray : Array Value) 34 (0, 0)) :: [])) := hST
  have hS0 : Has (hp w) ((b3, Obj.cells ((encRole ((⟨(⟨#[98]⟩ : ByteArray), (⟨#[115]⟩ : ByteArray)⟩ : Role))).toArray : Array Value) 34 (0, 0)) :: ((b1, Obj.cells ((encRole ((⟨(⟨#[97]⟩ : ByteArray), (⟨#[114]⟩ : ByteArray)⟩ : Role))).toArray : Array Value) 34 (0, 0)) :: [])) _ := hST.has.sub (Sub.refl _) (fun p hq => ((List.mem_cons.1 hq).elim (fun hq => by rw [hq]; exact (.head _)) (fun hq => ((List.mem_cons.1 hq).elim (fun hq => by rw [hq]; exact (.tail _ (.head _))) (fun hq => (absurd hq List.not_mem_nil))))))
  refine PX_v 0 rfl (by kernel_rfl) (.inl rfl) rfl (by decide) (fun _ _ h => h) hS0 (fun l W hpd hs => have hS := hs; R_load (v := (.agg (encRole ((⟨(⟨#[97]⟩ : ByteArray), (⟨#[114]⟩ : ByteArray)⟩ : Role))).toArray)) rfl (load_boxA hS (.tail _ (.head _)) (encRole ((⟨(⟨#[97]⟩ : ByteArray), (⟨#[114]⟩ : ByteArray)⟩ : Role))) rfl Try.isAgg34 Try.sizeOf34)) ?_
  refine PX_v 1 rfl (by kernel_rfl) (.inl rfl) rfl (by decide) (fun _ _ h => h) hS0 (fun l W hpd hs => have hS := hs; R_load (v := (.agg (encRole ((⟨(⟨#[98]⟩ : ByteArray), (⟨#[115]⟩ : ByteArray)⟩ : Role))).toArray)) rfl (load_boxA hS (.head _) (encRole ((⟨(⟨#[98]⟩ : ByteArray), (⟨#[115]⟩ : ByteArray)⟩ : Role))) rfl Try.isAgg34 Try.sizeOf34)) ?_
  refine PV 2 rfl hS0 (R_build (qs := #[(0, (.int .i64 2)), (1, (.agg (encRole ((⟨(⟨#[97]⟩ : ByteArray), (⟨#[114]⟩ : ByteArray)⟩ : Role))).toArray)), (3, (.agg (encRole ((⟨(⟨#[98]⟩ : ByteArray), (⟨#[115]⟩ : ByteArray)⟩ : Role))).toArray))]) (v := (.agg (encCred ((⟨2, (⟨(⟨#[97]⟩ : ByteArray), (⟨#[114]⟩ : ByteArray)⟩ : Role), zS, (⟨(⟨#[98]⟩ : ByteArray), (⟨#[115]⟩ : ByteArray)⟩ : Role), (⟨zS, zS⟩ : Role), zS⟩ : Cred))).toArray)) (parts3 rfl rfl rfl) (run_build Try.zeroValue36 Try.underlying36 (pl36 _ Try.underlying36) (by kernel_rfl))) ?_
  refine PX_v 3 rfl (by kernel_rfl) (.inl rfl) rfl (by decide) (fun _ _ h => h) hS0 (fun l W hpd hs => have hS := hs; R_load (v := (.agg (encRole ((⟨(⟨#[98]⟩ : ByteArray), (⟨#[115]⟩ : ByteArray)⟩ : Role))).toArray)) rfl (load_boxA hS (.head _) (encRole ((⟨(⟨#[98]⟩ : ByteArray), (⟨#[115]⟩ : ByteArray)⟩ : Role))) rfl Try.isAgg34 Try.sizeOf34)) ?_
  refine PV 4 rfl hS0 (R_build (qs := #[(0, (.int .i64 1)), (1, (.agg (encRole ((⟨(⟨#[98]⟩ : ByteArray), (⟨#[115]⟩ : ByteArray)⟩ : Role))).toArray)), (2, (.string ((⟨#[100]⟩ : ByteArray))))]) (v := (.agg (encCred ((⟨1, (⟨(⟨#[98]⟩ : ByteArray), (⟨#[115]⟩ : ByteArray)⟩ : Role), (⟨#[100]⟩ : ByteArray), (⟨zS, zS⟩ : Role), (⟨zS, zS⟩ : Role), zS⟩ : Cred))).toArray)) (parts3 rfl rfl rfl) (run_build Try.zeroValue36 Try.underlying36 (pl36 _ Try.underlying36) (by kernel_rfl))) ?_
  refine PX_alloc2 (L := ((b3, Obj.cells ((encRole ((⟨(⟨#[98]⟩ : ByteArray), (⟨#[115]⟩ : ByteArray)⟩ : Role))).toArray : Array Value) 34 (0, 0)) :: ((b1, Obj.cells ((encRole ((⟨(⟨#[97]⟩ : ByteArray), (⟨#[114]⟩ : ByteArray)⟩ : Role))).toArray : Array Value) 34 (0, 0)) :: []))) 5 6 rfl rfl (by kernel_rfl) (by kernel_rfl) (by kernel_rfl) (by decide) (by decide) rfl rfl hST Try.zeroValue36 Try.zeroValue36 (fun W hh => (hh.sub (Sub.refl _) (fun p hq => ((List.mem_cons.1 hq).elim (fun hq => by rw [hq]; exact (.head _)) (fun hq => ((List.mem_cons.1 hq).elim (fun hq => by rw [hq]; exact (.tail _ (.head _))) (fun hq => (absurd hq List.not_mem_nil)))))))) (fun W hh => (hh.sub (Sub.refl _) (fun p hq => ((List.mem_cons.1 hq).elim (fun hq => by rw [hq]; exact (.head _)) (fun hq => ((List.mem_cons.1 hq).elim (fun hq => by rw [hq]; exact (.tail _ (.head _))) (fun hq => (absurd hq List.not_mem_nil)))))))) (fun W hh => (hh.sub (Sub.refl _) (fun p hq => ((List.mem_cons.1 hq).elim (fun hq => by rw [hq]; exact (.head _)) (fun hq => ((List.mem_cons.1 hq).elim (fun hq => by rw [hq]; exact (.tail _ (.head _))) (fun hq => (absurd hq List.not_mem_nil)))))))) (fun W18 b19 b20 hST => ?_)
  have hS0 : Has (hp w) ((b3, Obj.cells ((encRole ((⟨(⟨#[98]⟩ : ByteArray), (⟨#[115]⟩ : ByteArray)⟩ : Role))).toArray : Array Value) 34 (0, 0)) :: ((b1, Obj.cells ((encRole ((⟨(⟨#[97]⟩ : ByteArray), (⟨#[114]⟩ : ByteArray)⟩ : Role))).toArray : Array Value) 34 (0, 0)) :: [])) _ := hST.has.sub (Sub.refl _) (fun p hq => ((List.mem_cons.1 hq).elim (fun hq => by rw [hq]; exact (.tail _ (.tail _ (.head _)))) (fun hq => ((List.mem_cons.1 hq).elim (fun hq => by rw [hq]; exact (.tail _ (.tail _ (.tail _ (.head _))))) (fun hq => (absurd hq List.not_mem_nil))))))
  refine PX_e0 7 rfl (by kernel_rfl) (.inl rfl) rfl (E_store [] (.agg (encCred ((⟨2, (⟨(⟨#[97]⟩ : ByteArray), (⟨#[114]⟩ : ByteArray)⟩ : Role), zS, (⟨(⟨#[98]⟩ : ByteArray), (⟨#[115]⟩ : ByteArray)⟩ : Role), (⟨zS, zS⟩ : Role), zS⟩ : Cred))).toArray) ((encCred ((⟨2, (⟨(⟨#[97]⟩ : ByteArray), (⟨#[114]⟩ : ByteArray)⟩ : Role), zS, (⟨(⟨#[98]⟩ : ByteArray), (⟨#[115]⟩ : ByteArray)⟩ : Role), (⟨zS, zS⟩ : Role), zS⟩ : Cred))).toArray) hST rfl rfl Try.sizeOf36 (oneCred ((⟨2, (⟨(⟨#[97]⟩ : ByteArray), (⟨#[114]⟩ : ByteArray)⟩ : Role), zS, (⟨(⟨#[98]⟩ : ByteArray), (⟨#[115]⟩ : ByteArray)⟩ : Role), (⟨zS, zS⟩ : Role), zS⟩ : Cred))) (Nat.le_of_ble_eq_true rfl) rfl (fun W21 hST => ?_))
  replace hST : ST false NoF w _ _ ((b19, Obj.cells ((encCred ((⟨2, (⟨(⟨#[97]⟩ : ByteArray), (⟨#[114]⟩ : ByteArray)⟩ : Role), zS, (⟨(⟨#[98]⟩ : ByteArray), (⟨#[115]⟩ : ByteArray)⟩ : Role), (⟨zS, zS⟩ : Role), zS⟩ : Cred))).toArray : Array Value) 36 (0, 0)) :: ((b20, Obj.cells ((encCred ((⟨0, (⟨zS, zS⟩ : Role), zS, (⟨zS, zS⟩ : Role), (⟨zS, zS⟩ : Role), zS⟩ : Cred))).toArray : Array Value) 36 (0, 0)) :: ((b3, Obj.cells ((encRole ((⟨(⟨#[98]⟩ : ByteArray), (⟨#[115]⟩ : ByteArray)⟩ : Role))).toArray : Array Value) 34 (0, 0)) :: ((b1, Obj.cells ((encRole ((⟨(⟨#[97]⟩ : ByteArray), (⟨#[114]⟩ : ByteArray)⟩ : Role))).toArray : Array Value) 34 (0, 0)) :: [])))) := hST
  have hS0 : Has (hp w) ((b3, Obj.cells ((encRole ((⟨(⟨#[98]⟩ : ByteArray), (⟨#[115]⟩ : ByteArray)⟩ : Role))).toArray : Array Value) 34 (0, 0)) :: ((b1, Obj.cells ((encRole ((⟨(⟨#[97]⟩ : ByteArray), (⟨#[114]⟩ : ByteArray)⟩ : Role))).toArray : Array Value) 34 (0, 0)) :: [])) _ := hST.has.sub (Sub.refl _) (fun p hq => ((List.mem_cons.1 hq).elim (fun hq => by rw [hq]; exact (.tail _ (.tail _ (.head _)))) (fun hq => ((List.mem_cons.1 hq).elim (fun hq => by rw [hq]; exact (.tail _ (.tail _ (.tail _ (.head _))))) (fun hq => (absurd hq List.not_mem_nil))))))
  refine ⟨hS0, ?_⟩
  refine PX_e0 8 rfl (by kernel_rfl) (.inl rfl) rfl (E_store [_] (.agg (encCred ((⟨1, (⟨(⟨#[98]⟩ : ByteArray), (⟨#[115]⟩ : ByteArray)⟩ : Role), (⟨#[100]⟩ : ByteArray), (⟨zS, zS⟩ : Role), (⟨zS, zS⟩ : Role), zS⟩ : Cred))).toArray) ((encCred ((⟨1, (⟨(⟨#[98]⟩ : ByteArray), (⟨#[115]⟩ : ByteArray)⟩ : Role), (⟨#[100]⟩ : ByteArray), (⟨zS, zS⟩ : Role), (⟨zS, zS⟩ : Role), zS⟩ : Cred))).toArray) hST rfl rfl Try.sizeOf36 (oneCred ((⟨1, (⟨(⟨#[98]⟩ : ByteArray), (⟨#[115]⟩ : ByteArray)⟩ : Role), (⟨#[100]⟩ : ByteArray), (⟨zS, zS⟩ : Role), (⟨zS, zS⟩ : Role), zS⟩ : Cred))) (Nat.le_of_ble_eq_true rfl) rfl (fun W22 hST => ?_))
  replace hST : ST false NoF w _ _ ((b19, Obj.cells ((encCred ((⟨2, (⟨(⟨#[97]⟩ : ByteArray), (⟨#[114]⟩ : ByteArray)⟩ : Role), zS, (⟨(⟨#[98]⟩ : ByteArray), (⟨#[115]⟩ : ByteArray)⟩ : Role), (⟨zS, zS⟩ : Role), zS⟩ : Cred))).toArray : Array Value) 36 (0, 0)) :: ((b20, Obj.cells ((encCred ((⟨1, (⟨(⟨#[98]⟩ : ByteArray), (⟨#[115]⟩ : ByteArray)⟩ : Role), (⟨#[100]⟩ : ByteArray), (⟨zS, zS⟩ : Role), (⟨zS, zS⟩ : Role), zS⟩ : Cred))).toArray : Array Value) 36 (0, 0)) :: ((b3, Obj.cells ((encRole ((⟨(⟨#[98]⟩ : ByteArray), (⟨#[115]⟩ : ByteArray)⟩ : Role))).toArray : Array Value) 34 (0, 0)) :: ((b1, Obj.cells ((encRole ((⟨(⟨#[97]⟩ : ByteArray), (⟨#[114]⟩ : ByteArray)⟩ : Role))).toArray : Array Value) 34 (0, 0)) :: [])))) := hST
  have hS0 : Has (hp w) ((b3, Obj.cells ((encRole ((⟨(⟨#[98]⟩ : ByteArray), (⟨#[115]⟩ : ByteArray)⟩ : Role))).toArray : Array Value) 34 (0, 0)) :: ((b1, Obj.cells ((encRole ((⟨(⟨#[97]⟩ : ByteArray), (⟨#[114]⟩ : ByteArray)⟩ : Role))).toArray : Array Value) 34 (0, 0)) :: [])) _ := hST.has.sub (Sub.refl _) (fun p hq => ((List.mem_cons.1 hq).elim (fun hq => by rw [hq]; exact (.tail _ (.tail _ (.head _)))) (fun hq => ((List.mem_cons.1 hq).elim (fun hq => by rw [hq]; exact (.tail _ (.tail _ (.tail _ (.head _))))) (fun hq => (absurd hq List.not_mem_nil))))))
  refine ⟨hS0, ?_⟩
  refine PX_done (by kernel_rfl) ?_
  refine sq_n ?_
  replace hST : ST false NoF w _ _ ((b19, Obj.cells ((encCred ((⟨2, (⟨(⟨#[97]⟩ : ByteArray), (⟨#[114]⟩ : ByteArray)⟩ : Role), zS, (⟨(⟨#[98]⟩ : ByteArray), (⟨#[115]⟩ : ByteArray)⟩ : Role), (⟨zS, zS⟩ : Role), zS⟩ : Cred))).toArray : Array Value) 36 (0, 0)) :: ((b20, Obj.cells ((encCred ((⟨1, (⟨(⟨#[98]⟩ : ByteArray), (⟨#[115]⟩ : ByteArray)⟩ : Role), (⟨#[100]⟩ : ByteArray), (⟨zS, zS⟩ : Role), (⟨zS, zS⟩ : Role), zS⟩ : Cred))).toArray : Array Value) 36 (0, 0)) :: ((b1, Obj.cells ((encRole ((⟨(⟨#[97]⟩ : ByteArray), (⟨#[114]⟩ : ByteArray)⟩ : Role))).toArray : Array Value) 34 (0, 0)) :: []))) := hST.sublist (List.Sublist.cons_cons _ (List.Sublist.cons_cons _ (List.Sublist.cons _ (List.Sublist.refl _))))
  refine CW_seq ?_
  refine CW_region ?_
  refine LV (R_load (v := (.agg (encCred ((⟨2, (⟨(⟨#[97]⟩ : ByteArray), (⟨#[114]⟩ : ByteArray)⟩ : Role), zS, (⟨(⟨#[98]⟩ : ByteArray), (⟨#[115]⟩ : ByteArray)⟩ : Role), (⟨zS, zS⟩ : Role), zS⟩ : Cred))).toArray)) rfl (load_boxA hST.has (.head _) (encCred ((⟨2, (⟨(⟨#[97]⟩ : ByteArray), (⟨#[114]⟩ : ByteArray)⟩ : Role), zS, (⟨(⟨#[98]⟩ : ByteArray), (⟨#[115]⟩ : ByteArray)⟩ : Role), (⟨zS, zS⟩ : Role), zS⟩ : Cred))) rfl Try.isAgg36 Try.sizeOf36)) ?_
  refine LE (E_buildSlice (qs := #[(0, (.agg (encCred ((⟨2, (⟨(⟨#[97]⟩ : ByteArray), (⟨#[114]⟩ : ByteArray)⟩ : Role), zS, (⟨(⟨#[98]⟩ : ByteArray), (⟨#[115]⟩ : ByteArray)⟩ : Role), (⟨zS, zS⟩ : Role), zS⟩ : Cred))).toArray))]) (cs := (encCred ((⟨2, (⟨(⟨#[97]⟩ : ByteArray), (⟨#[114]⟩ : ByteArray)⟩ : Role), zS, (⟨(⟨#[98]⟩ : ByteArray), (⟨#[115]⟩ : ByteArray)⟩ : Role), (⟨zS, zS⟩ : Role), zS⟩ : Cred))).toArray) hST (parts1 rfl) (run_lit [(.agg (encCred ((⟨2, (⟨(⟨#[97]⟩ : ByteArray), (⟨#[114]⟩ : ByteArray)⟩ : Role), zS, (⟨(⟨#[98]⟩ : ByteArray), (⟨#[115]⟩ : ByteArray)⟩ : Role), (⟨zS, zS⟩ : Role), zS⟩ : Cred))).toArray)] Try.underlying24 Try.sizeOf36 Try.zeroValue36 (by decide) rfl (by intro v hv; simp only [List.mem_cons, List.not_mem_nil, or_false] at hv; rcases hv with rfl <;> rfl) rfl rfl) (fun W24 b23 hST => ?_))
  obtain ⟨r25, hr26, hm⟩ := bind_some hm
  have hsz := hST.size
  refine LE (E_callM (args := [(.slice (some ⟨b23, 0, none⟩) 1 1)]) (caps := #[]) [] (((b23, Obj.cells ((encCred ((⟨2, (⟨(⟨#[97]⟩ : ByteArray), (⟨#[114]⟩ : ByteArray)⟩ : Role), zS, (⟨(⟨#[98]⟩ : ByteArray), (⟨#[115]⟩ : ByteArray)⟩ : Role), (⟨zS, zS⟩ : Role), zS⟩ : Cred))).toArray : Array Value) 36 (0, 0)) :: ((b19, Obj.cells ((encCred ((⟨2, (⟨(⟨#[97]⟩ : ByteArray), (⟨#[114]⟩ : ByteArray)⟩ : Role), zS, (⟨(⟨#[98]⟩ : ByteArray), (⟨#[115]⟩ : ByteArray)⟩ : Role), (⟨zS, zS⟩ : Role), zS⟩ : Cred))).toArray : Array Value) 36 (0, 0)) :: ((b20, Obj.cells ((encCred ((⟨1, (⟨(⟨#[98]⟩ : ByteArray), (⟨#[115]⟩ : ByteArray)⟩ : Role), (⟨#[100]⟩ : ByteArray), (⟨zS, zS⟩ : Role), (⟨zS, zS⟩ : Role), zS⟩ : Cred))).toArray : Array Value) 36 (0, 0)) :: ((b1, Obj.cells ((encRole ((⟨(⟨#[97]⟩ : ByteArray), (⟨#[114]⟩ : ByteArray)⟩ : Role))).toArray : Array Value) 34 (0, 0)) :: []))))) hST (List.Perm.refl _) rfl Try.call6 (by exact args1 rfl) (fun _ _ _ _ => (w_model_Of (.slice (some ⟨b23, 0, none⟩) 1 1) ([(⟨2, (⟨(⟨#[97]⟩ : ByteArray), (⟨#[114]⟩ : ByteArray)⟩ : Role), zS, (⟨(⟨#[98]⟩ : ByteArray), (⟨#[115]⟩ : ByteArray)⟩ : Role), (⟨zS, zS⟩ : Role), zS⟩ : Cred)]) _ _ (Sl.lit (enc := encCred) (l := [(⟨2, (⟨(⟨#[97]⟩ : ByteArray), (⟨#[114]⟩ : ByteArray)⟩ : Role), zS, (⟨(⟨#[98]⟩ : ByteArray), (⟨#[115]⟩ : ByteArray)⟩ : Role), (⟨zS, zS⟩ : Role), zS⟩ : Cred)]) lenCred rfl (Nat.le_of_ble_eq_true rfl) rfl (hST.at_ (.head _))) hr26)) (fun W27 v30 μ28 L32 hST hle29 hlift hK31 => ?_))
  obtain ⟨b33, y34, S35, y37, S38, y40, S41, y43, S44, y46, S47, hv49, rfl, hy36, hy39, hy42, hy45, hy48⟩ := hK31
  replace hv49 := hv49.symm; subst hv49
  simp only [List.append_assoc, List.cons_append, List.nil_append] at hST
  replace hST : ST false NoF w _ _ ((b33, Obj.cells (#[y34, y37, y40, y43, y46, (.int .i64 (r25.2.2.2.2.2))] : Array Value) 53 (0, 0)) :: ((b23, Obj.cells ((encCred ((⟨2, (⟨(⟨#[97]⟩ : ByteArray), (⟨#[114]⟩ : ByteArray)⟩ : Role), zS, (⟨(⟨#[98]⟩ : ByteArray), (⟨#[115]⟩ : ByteArray)⟩ : Role), (⟨zS, zS⟩ : Role), zS⟩ : Cred))).toArray : Array Value) 36 (0, 0)) :: ((b19, Obj.cells ((encCred ((⟨2, (⟨(⟨#[97]⟩ : ByteArray), (⟨#[114]⟩ : ByteArray)⟩ : Role), zS, (⟨(⟨#[98]⟩ : ByteArray), (⟨#[115]⟩ : ByteArray)⟩ : Role), (⟨zS, zS⟩ : Role), zS⟩ : Cred))).toArray : Array Value) 36 (0, 0)) :: ((b20, Obj.cells ((encCred ((⟨1, (⟨(⟨#[98]⟩ : ByteArray), (⟨#[115]⟩ : ByteArray)⟩ : Role), (⟨#[100]⟩ : ByteArray), (⟨zS, zS⟩ : Role), (⟨zS, zS⟩ : Role), zS⟩ : Cred))).toArray : Array Value) 36 (0, 0)) :: ((b1, Obj.cells ((encRole ((⟨(⟨#[97]⟩ : ByteArray), (⟨#[114]⟩ : ByteArray)⟩ : Role))).toArray : Array Value) 34 (0, 0)) :: (S35 ++ (S38 ++ (S41 ++ (S44 ++ (S47 ++ [])))))))))) := hST.perm (permD [[(b33, Obj.cells (#[y34, y37, y40, y43, y46, (.int .i64 (r25.2.2.2.2.2))] : Array Value) 53 (0, 0))], S35, S38, S41, S44, S47, [(b23, Obj.cells ((encCred ((⟨2, (⟨(⟨#[97]⟩ : ByteArray), (⟨#[114]⟩ : ByteArray)⟩ : Role), zS, (⟨(⟨#[98]⟩ : ByteArray), (⟨#[115]⟩ : ByteArray)⟩ : Role), (⟨zS, zS⟩ : Role), zS⟩ : Cred))).toArray : Array Value) 36 (0, 0))], [(b19, Obj.cells ((encCred ((⟨2, (⟨(⟨#[97]⟩ : ByteArray), (⟨#[114]⟩ : ByteArray)⟩ : Role), zS, (⟨(⟨#[98]⟩ : ByteArray), (⟨#[115]⟩ : ByteArray)⟩ : Role), (⟨zS, zS⟩ : Role), zS⟩ : Cred))).toArray : Array Value) 36 (0, 0))], [(b20, Obj.cells ((encCred ((⟨1, (⟨(⟨#[98]⟩ : ByteArray), (⟨#[115]⟩ : ByteArray)⟩ : Role), (⟨#[100]⟩ : ByteArray), (⟨zS, zS⟩ : Role), (⟨zS, zS⟩ : Role), zS⟩ : Cred))).toArray : Array Value) 36 (0, 0))], [(b1, Obj.cells ((encRole ((⟨(⟨#[97]⟩ : ByteArray), (⟨#[114]⟩ : ByteArray)⟩ : Role))).toArray : Array Value) 34 (0, 0))]] [0, 1, 2, 3, 4, 5, 6, 7, 8, 9] [0, 6, 7, 8, 9, 1, 2, 3, 4, 5] ([]) (by decide) rfl rfl)
  refine LV (R_assign (v := (.pointer (some ⟨b33, 0, none⟩))) rfl) ?_
  refine LW_nil ?_
  refine sq_n ?_
  replace hST : ST false NoF w _ _ ((b33, Obj.cells (#[y34, y37, y40, y43, y46, (.int .i64 (r25.2.2.2.2.2))] : Array Value) 53 (0, 0)) :: ((b19, Obj.cells ((encCred ((⟨2, (⟨(⟨#[97]⟩ : ByteArray), (⟨#[114]⟩ : ByteArray)⟩ : Role), zS, (⟨(⟨#[98]⟩ : ByteArray), (⟨#[115]⟩ : ByteArray)⟩ : Role), (⟨zS, zS⟩ : Role), zS⟩ : Cred))).toArray : Array Value) 36 (0, 0)) :: ((b20, Obj.cells ((encCred ((⟨1, (⟨(⟨#[98]⟩ : ByteArray), (⟨#[115]⟩ : ByteArray)⟩ : Role), (⟨#[100]⟩ : ByteArray), (⟨zS, zS⟩ : Role), (⟨zS, zS⟩ : Role), zS⟩ : Cred))).toArray : Array Value) 36 (0, 0)) :: ((b1, Obj.cells ((encRole ((⟨(⟨#[97]⟩ : ByteArray), (⟨#[114]⟩ : ByteArray)⟩ : Role))).toArray : Array Value) 34 (0, 0)) :: (S35 ++ (S38 ++ (S41 ++ (S44 ++ (S47 ++ []))))))))) := hST.sublist (List.Sublist.cons_cons _ (List.Sublist.cons _ (List.Sublist.refl _)))
  refine CW_seq ?_
  refine CW_region ?_
  refine LV (R_move (v := (.pointer (some ⟨b33, 0, none⟩))) rfl) ?_
  refine LV (R_load (v := (.agg (encCred ((⟨1, (⟨(⟨#[98]⟩ : ByteArray), (⟨#[115]⟩ : ByteArray)⟩ : Role), (⟨#[100]⟩ : ByteArray), (⟨zS, zS⟩ : Role), (⟨zS, zS⟩ : Role), zS⟩ : Cred))).toArray)) rfl (load_boxA hST.has (.tail _ (.tail _ (.head _))) (encCred ((⟨1, (⟨(⟨#[98]⟩ : ByteArray), (⟨#[115]⟩ : ByteArray)⟩ : Role), (⟨#[100]⟩ : ByteArray), (⟨zS, zS⟩ : Role), (⟨zS, zS⟩ : Role), zS⟩ : Cred))) rfl Try.isAgg36 Try.sizeOf36)) ?_
  refine LE (E_buildSlice (qs := #[(0, (.agg (encCred ((⟨1, (⟨(⟨#[98]⟩ : ByteArray), (⟨#[115]⟩ : ByteArray)⟩ : Role), (⟨#[100]⟩ : ByteArray), (⟨zS, zS⟩ : Role), (⟨zS, zS⟩ : Role), zS⟩ : Cred))).toArray))]) (cs := (encCred ((⟨1, (⟨(⟨#[98]⟩ : ByteArray), (⟨#[115]⟩ : ByteArray)⟩ : Role), (⟨#[100]⟩ : ByteArray), (⟨zS, zS⟩ : Role), (⟨zS, zS⟩ : Role), zS⟩ : Cred))).toArray) hST (parts1 rfl) (run_lit [(.agg (encCred ((⟨1, (⟨(⟨#[98]⟩ : ByteArray), (⟨#[115]⟩ : ByteArray)⟩ : Role), (⟨#[100]⟩ : ByteArray), (⟨zS, zS⟩ : Role), (⟨zS, zS⟩ : Role), zS⟩ : Cred))).toArray)] Try.underlying24 Try.sizeOf36 Try.zeroValue36 (by decide) rfl (by intro v hv; simp only [List.mem_cons, List.not_mem_nil, or_false] at hv; rcases hv with rfl <;> rfl) rfl rfl) (fun W51 b50 hST => ?_))
  obtain ⟨r52, hr53, hm⟩ := bind_some hm
  replace hST : ST false NoF w _ _ ((b33, Obj.cells (#[y34, y37, y40, y43, y46, (.int .i64 (r25.2.2.2.2.2))] : Array Value) 53 (0, 0)) :: (S35 ++ (S38 ++ (S41 ++ (S44 ++ (S47 ++ ((b50, Obj.cells ((encCred ((⟨1, (⟨(⟨#[98]⟩ : ByteArray), (⟨#[115]⟩ : ByteArray)⟩ : Role), (⟨#[100]⟩ : ByteArray), (⟨zS, zS⟩ : Role), (⟨zS, zS⟩ : Role), zS⟩ : Cred))).toArray : Array Value) 36 (0, 0)) :: ((b19, Obj.cells ((encCred ((⟨2, (⟨(⟨#[97]⟩ : ByteArray), (⟨#[114]⟩ : ByteArray)⟩ : Role), zS, (⟨(⟨#[98]⟩ : ByteArray), (⟨#[115]⟩ : ByteArray)⟩ : Role), (⟨zS, zS⟩ : Role), zS⟩ : Cred))).toArray : Array Value) 36 (0, 0)) :: ((b20, Obj.cells ((encCred ((⟨1, (⟨(⟨#[98]⟩ : ByteArray), (⟨#[115]⟩ : ByteArray)⟩ : Role), (⟨#[100]⟩ : ByteArray), (⟨zS, zS⟩ : Role), (⟨zS, zS⟩ : Role), zS⟩ : Cred))).toArray : Array Value) 36 (0, 0)) :: ((b1, Obj.cells ((encRole ((⟨(⟨#[97]⟩ : ByteArray), (⟨#[114]⟩ : ByteArray)⟩ : Role))).toArray : Array Value) 34 (0, 0)) :: [])))))))))) := hST.perm (permD [[(b50, Obj.cells ((encCred ((⟨1, (⟨(⟨#[98]⟩ : ByteArray), (⟨#[115]⟩ : ByteArray)⟩ : Role), (⟨#[100]⟩ : ByteArray), (⟨zS, zS⟩ : Role), (⟨zS, zS⟩ : Role), zS⟩ : Cred))).toArray : Array Value) 36 (0, 0))], [(b33, Obj.cells (#[y34, y37, y40, y43, y46, (.int .i64 (r25.2.2.2.2.2))] : Array Value) 53 (0, 0))], [(b19, Obj.cells ((encCred ((⟨2, (⟨(⟨#[97]⟩ : ByteArray), (⟨#[114]⟩ : ByteArray)⟩ : Role), zS, (⟨(⟨#[98]⟩ : ByteArray), (⟨#[115]⟩ : ByteArray)⟩ : Role), (⟨zS, zS⟩ : Role), zS⟩ : Cred))).toArray : Array Value) 36 (0, 0))], [(b20, Obj.cells ((encCred ((⟨1, (⟨(⟨#[98]⟩ : ByteArray), (⟨#[115]⟩ : ByteArray)⟩ : Role), (⟨#[100]⟩ : ByteArray), (⟨zS, zS⟩ : Role), (⟨zS, zS⟩ : Role), zS⟩ : Cred))).toArray : Array Value) 36 (0, 0))], [(b1, Obj.cells ((encRole ((⟨(⟨#[97]⟩ : ByteArray), (⟨#[114]⟩ : ByteArray)⟩ : Role))).toArray : Array Value) 34 (0, 0))], S35, S38, S41, S44, S47] [0, 1, 2, 3, 4, 5, 6, 7, 8, 9] [1, 5, 6, 7, 8, 9, 0, 2, 3, 4] ([]) (by decide) rfl rfl)
  have hsz := hST.size
  refine LE (E_callM (args := [(.pointer (some ⟨b33, 0, none⟩)), (.slice (some ⟨b50, 0, none⟩) 1 1)]) (caps := #[]) (((b33, Obj.cells (#[y34, y37, y40, y43, y46, (.int .i64 (r25.2.2.2.2.2))] : Array Value) 53 (0, 0)) :: (S35 ++ (S38 ++ (S41 ++ (S44 ++ (S47 ++ []))))))) (((b50, Obj.cells ((encCred ((⟨1, (⟨(⟨#[98]⟩ : ByteArray), (⟨#[115]⟩ : ByteArray)⟩ : Role), (⟨#[100]⟩ : ByteArray), (⟨zS, zS⟩ : Role), (⟨zS, zS⟩ : Role), zS⟩ : Cred))).toArray : Array Value) 36 (0, 0)) :: ((b19, Obj.cells ((encCred ((⟨2, (⟨(⟨#[97]⟩ : ByteArray), (⟨#[114]⟩ : ByteArray)⟩ : Role), zS, (⟨(⟨#[98]⟩ : ByteArray), (⟨#[115]⟩ : ByteArray)⟩ : Role), (⟨zS, zS⟩ : Role), zS⟩ : Cred))).toArray : Array Value) 36 (0, 0)) :: ((b20, Obj.cells ((encCred ((⟨1, (⟨(⟨#[98]⟩ : ByteArray), (⟨#[115]⟩ : ByteArray)⟩ : Role), (⟨#[100]⟩ : ByteArray), (⟨zS, zS⟩ : Role), (⟨zS, zS⟩ : Role), zS⟩ : Cred))).toArray : Array Value) 36 (0, 0)) :: ((b1, Obj.cells ((encRole ((⟨(⟨#[97]⟩ : ByteArray), (⟨#[114]⟩ : ByteArray)⟩ : Role))).toArray : Array Value) 34 (0, 0)) :: []))))) hST (by simp only [List.append_assoc, List.cons_append, List.nil_append]; exact List.Perm.refl _) rfl Try.call9 (by exact args2 rfl rfl) (fun hH hN hsb hmm => (w_model_Model_Add_w b33 y34 r25.1 S35 y37 r25.2.1 S38 y40 r25.2.2.1 S41 y43 r25.2.2.2.1 S44 y46 r25.2.2.2.2.1 S47 r25.2.2.2.2.2 (.slice (some ⟨b50, 0, none⟩) 1 1) ([(⟨1, (⟨(⟨#[98]⟩ : ByteArray), (⟨#[115]⟩ : ByteArray)⟩ : Role), (⟨#[100]⟩ : ByteArray), (⟨zS, zS⟩ : Role), (⟨zS, zS⟩ : Role), zS⟩ : Cred)]) _ _ hH hN (Sub.refl _) hy36 hy39 hy42 hy45 hy48 (Sl.lit (enc := encCred) (l := [(⟨1, (⟨(⟨#[98]⟩ : ByteArray), (⟨#[115]⟩ : ByteArray)⟩ : Role), (⟨#[100]⟩ : ByteArray), (⟨zS, zS⟩ : Role), (⟨zS, zS⟩ : Role), zS⟩ : Cred)]) lenCred rfl (Nat.le_of_ble_eq_true rfl) rfl (hmm _ _ (.head _))) hr53)) (fun W54 v57 μ55 L59 hST hle56 hlift hK58 => ?_))
  obtain ⟨S60, y62, S63, S65, S67, y69, S70, hv72, rfl, hy61, hy64, hy66, hy68, hy71⟩ := hK58
  replace hv72 := hv72.symm; subst hv72
  simp only [List.append_assoc, List.cons_append, List.nil_append] at hST
  replace hST : ST false NoF w _ _ ((b33, Obj.cells (#[y34, y62, y40, y43, y69, (.int .i64 (r52.2.2.2.2.2.2))] : Array Value) 53 (0, 0)) :: ((b50, Obj.cells ((encCred ((⟨1, (⟨(⟨#[98]⟩ : ByteArray), (⟨#[115]⟩ : ByteArray)⟩ : Role), (⟨#[100]⟩ : ByteArray), (⟨zS, zS⟩ : Role), (⟨zS, zS⟩ : Role), zS⟩ : Cred))).toArray : Array Value) 36 (0, 0)) :: ((b19, Obj.cells ((encCred ((⟨2, (⟨(⟨#[97]⟩ : ByteArray), (⟨#[114]⟩ : ByteArray)⟩ : Role), zS, (⟨(⟨#[98]⟩ : ByteArray), (⟨#[115]⟩ : ByteArray)⟩ : Role), (⟨zS, zS⟩ : Role), zS⟩ : Cred))).toArray : Array Value) 36 (0, 0)) :: ((b20, Obj.cells ((encCred ((⟨1, (⟨(⟨#[98]⟩ : ByteArray), (⟨#[115]⟩ : ByteArray)⟩ : Role), (⟨#[100]⟩ : ByteArray), (⟨zS, zS⟩ : Role), (⟨zS, zS⟩ : Role), zS⟩ : Cred))).toArray : Array Value) 36 (0, 0)) :: ((b1, Obj.cells ((encRole ((⟨(⟨#[97]⟩ : ByteArray), (⟨#[114]⟩ : ByteArray)⟩ : Role))).toArray : Array Value) 34 (0, 0)) :: (S60 ++ (S63 ++ (S65 ++ (S67 ++ (S70 ++ [])))))))))) := hST.perm (permD [[(b33, Obj.cells (#[y34, y62, y40, y43, y69, (.int .i64 (r52.2.2.2.2.2.2))] : Array Value) 53 (0, 0))], S60, S63, S65, S67, S70, [(b50, Obj.cells ((encCred ((⟨1, (⟨(⟨#[98]⟩ : ByteArray), (⟨#[115]⟩ : ByteArray)⟩ : Role), (⟨#[100]⟩ : ByteArray), (⟨zS, zS⟩ : Role), (⟨zS, zS⟩ : Role), zS⟩ : Cred))).toArray : Array Value) 36 (0, 0))], [(b19, Obj.cells ((encCred ((⟨2, (⟨(⟨#[97]⟩ : ByteArray), (⟨#[114]⟩ : ByteArray)⟩ : Role), zS, (⟨(⟨#[98]⟩ : ByteArray), (⟨#[115]⟩ : ByteArray)⟩ : Role), (⟨zS, zS⟩ : Role), zS⟩ : Cred))).toArray : Array Value) 36 (0, 0))], [(b20, Obj.cells ((encCred ((⟨1, (⟨(⟨#[98]⟩ : ByteArray), (⟨#[115]⟩ : ByteArray)⟩ : Role), (⟨#[100]⟩ : ByteArray), (⟨zS, zS⟩ : Role), (⟨zS, zS⟩ : Role), zS⟩ : Cred))).toArray : Array Value) 36 (0, 0))], [(b1, Obj.cells ((encRole ((⟨(⟨#[97]⟩ : ByteArray), (⟨#[114]⟩ : ByteArray)⟩ : Role))).toArray : Array Value) 34 (0, 0))]] [0, 1, 2, 3, 4, 5, 6, 7, 8, 9] [0, 6, 7, 8, 9, 1, 2, 3, 4, 5] ([]) (by decide) rfl rfl)
  refine LV (R_assign (v := (.int .i64 r52.1)) rfl) ?_
  refine LW_nil ?_
  refine sq_n ?_
  replace hST : ST false NoF w _ _ ((b33, Obj.cells (#[y34, y62, y40, y43, y69, (.int .i64 (r52.2.2.2.2.2.2))] : Array Value) 53 (0, 0)) :: ((b19, Obj.cells ((encCred ((⟨2, (⟨(⟨#[97]⟩ : ByteArray), (⟨#[114]⟩ : ByteArray)⟩ : Role), zS, (⟨(⟨#[98]⟩ : ByteArray), (⟨#[115]⟩ : ByteArray)⟩ : Role), (⟨zS, zS⟩ : Role), zS⟩ : Cred))).toArray : Array Value) 36 (0, 0)) :: ((b1, Obj.cells ((encRole ((⟨(⟨#[97]⟩ : ByteArray), (⟨#[114]⟩ : ByteArray)⟩ : Role))).toArray : Array Value) 34 (0, 0)) :: (S60 ++ (S63 ++ (S65 ++ (S67 ++ (S70 ++ [])))))))) := hST.sublist (List.Sublist.cons_cons _ (List.Sublist.cons _ (List.Sublist.cons_cons _ (List.Sublist.cons _ (List.Sublist.refl _)))))
  refine CW_seq ?_
  refine CW_region ?_
  refine LV (R_load (v := (.agg (encCred ((⟨2, (⟨(⟨#[97]⟩ : ByteArray), (⟨#[114]⟩ : ByteArray)⟩ : Role), zS, (⟨(⟨#[98]⟩ : ByteArray), (⟨#[115]⟩ : ByteArray)⟩ : Role), (⟨zS, zS⟩ : Role), zS⟩ : Cred))).toArray)) rfl (load_boxA hST.has (.tail _ (.head _)) (encCred ((⟨2, (⟨(⟨#[97]⟩ : ByteArray), (⟨#[114]⟩ : ByteArray)⟩ : Role), zS, (⟨(⟨#[98]⟩ : ByteArray), (⟨#[115]⟩ : ByteArray)⟩ : Role), (⟨zS, zS⟩ : Role), zS⟩ : Cred))) rfl Try.isAgg36 Try.sizeOf36)) ?_
  refine LV (R_move (v := (.pointer (some ⟨b33, 0, none⟩))) rfl) ?_
  refine LV (R_makeFuncF (by exact args1 rfl) rfl) ?_
  refine LE (E_buildSlice (qs := #[(0, (.string ((⟨#[97]⟩ : ByteArray)))), (1, (.string ((⟨#[100]⟩ : ByteArray))))]) (cs := #[(.string ((⟨#[97]⟩ : ByteArray))), (.string ((⟨#[100]⟩ : ByteArray)))]) hST (parts2 rfl rfl) (run_lit [(.string ((⟨#[97]⟩ : ByteArray))), (.string ((⟨#[100]⟩ : ByteArray)))] Try.underlying37 Try.sizeOf9 Try.zeroValue9 (by decide) rfl (by intro v hv; simp only [List.mem_cons, List.not_mem_nil, or_false] at hv; rcases hv with rfl | rfl <;> rfl) rfl rfl) (fun W74 b73 hST => ?_))
  obtain ⟨r75, hr76, hm⟩ := bind_some hm
  refine LE (E_givesRow (args := [(.agg (encCred ((⟨2, (⟨(⟨#[97]⟩ : ByteArray), (⟨#[114]⟩ : ByteArray)⟩ : Role), zS, (⟨(⟨#[98]⟩ : ByteArray), (⟨#[115]⟩ : ByteArray)⟩ : Role), (⟨zS, zS⟩ : Role), zS⟩ : Cred))).toArray), (.func (.func 15) #[(.pointer (some ⟨b33, 0, none⟩))] #[]), (.slice (some ⟨b73, 0, none⟩) 2 2)]) [_, _, _, _] _ hST rfl Try.call14 (by exact args3 rfl rfl rfl) (GivesRow.weak (w_model_Holds ((⟨2, (⟨(⟨#[97]⟩ : ByteArray), (⟨#[114]⟩ : ByteArray)⟩ : Role), zS, (⟨(⟨#[98]⟩ : ByteArray), (⟨#[115]⟩ : ByteArray)⟩ : Role), (⟨zS, zS⟩ : Role), zS⟩ : Cred)) (.func (.func 15) #[(.pointer (some ⟨b33, 0, none⟩))] #[]) (fun (x : (Role × ByteArray)) => m_model_Model_In r52.2.1 r52.2.2.1 r52.2.2.2.1 r52.2.2.2.2.1 r52.2.2.2.2.2.1 r52.2.2.2.2.2.2 x.1 x.2) (.slice (some ⟨b73, 0, none⟩) 2 2) ([(⟨#[97]⟩ : ByteArray), (⟨#[100]⟩ : ByteArray)]) _ _ ⟨15, #[(.pointer (some ⟨b33, 0, none⟩))], #[], rfl, Try.call15, fun W x r hs hm => w_model_Model_In b33 y34 r52.2.1 y62 r52.2.2.1 y40 r52.2.2.2.1 y43 r52.2.2.2.2.1 y69 r52.2.2.2.2.2.1 r52.2.2.2.2.2.2 x.1 x.2 r W (hy61.at (fun b o hq => hs _ _ ((fun b o hq => hST.at_ (.tail _ (.tail _ (.tail _ (.tail _ (List.mem_append_left _ hq)))))) b o hq))) (hy64.sl lenCred (fun b o hq => hs _ _ ((fun b o hq => hST.at_ (.tail _ (.tail _ (.tail _ (.tail _ (List.mem_append_right _ (List.mem_append_left _ hq))))))) b o hq))) (hy66.at (fun b o hq => hs _ _ ((fun b o hq => hST.at_ (.tail _ (.tail _ (.tail _ (.tail _ (List.mem_append_right _ (List.mem_append_right _ (List.mem_append_left _ hq)))))))) b o hq))) (hy68.at (fun b o hq => hs _ _ ((fun b o hq => hST.at_ (.tail _ (.tail _ (.tail _ (.tail _ (List.mem_append_right _ (List.mem_append_right _ (List.mem_append_right _ (List.mem_append_left _ hq))))))))) b o hq))) ((hy71.slL lenFact).mono (Pl.mono _) (memL_held (fun b o hq => hs _ _ ((fun b o hq => hST.at_ (.tail _ (.tail _ (.tail _ (.tail _ (List.mem_append_right _ (List.mem_append_right _ (List.mem_append_right _ (List.mem_append_right _ (List.mem_append_left _ hq)))))))))) b o hq)))) (At.of (hs _ _ (hST.at_ (.tail _ (.head _)))) _ rfl) hm⟩ (Sl.lit (enc := encSk) (l := [(⟨#[97]⟩ : ByteArray), (⟨#[100]⟩ : ByteArray)]) (fun _ => rfl) rfl (Nat.le_of_ble_eq_true rfl) rfl (hST.at_ (.head _))) hr76)) (fun W77 v80 μ78 R81 hST hle79 hR82 => ?_))
  refine LV (R_assign (v := v80) rfl) ?_
  refine LW_nil ?_
  refine sq_n ?_
  replace hST : ST false NoF w _ _ ((b73, Obj.cells (#[(.string ((⟨#[97]⟩ : ByteArray))), (.string ((⟨#[100]⟩ : ByteArray)))] : Array Value) 9 (0, 0)) :: ((b33, Obj.cells (#[y34, y62, y40, y43, y69, (.int .i64 (r52.2.2.2.2.2.2))] : Array Value) 53 (0, 0)) :: ((b19, Obj.cells ((encCred ((⟨2, (⟨(⟨#[97]⟩ : ByteArray), (⟨#[114]⟩ : ByteArray)⟩ : Role), zS, (⟨(⟨#[98]⟩ : ByteArray), (⟨#[115]⟩ : ByteArray)⟩ : Role), (⟨zS, zS⟩ : Role), zS⟩ : Cred))).toArray : Array Value) 36 (0, 0)) :: ((b1, Obj.cells ((encRole ((⟨(⟨#[97]⟩ : ByteArray), (⟨#[114]⟩ : ByteArray)⟩ : Role))).toArray : Array Value) 34 (0, 0)) :: (R81 ++ (S60 ++ (S63 ++ (S65 ++ (S67 ++ (S70 ++ [])))))))))) := hST
  replace hST : ST false NoF w _ _ ((b33, Obj.cells (#[y34, y62, y40, y43, y69, (.int .i64 (r52.2.2.2.2.2.2))] : Array Value) 53 (0, 0)) :: ((b19, Obj.cells ((encCred ((⟨2, (⟨(⟨#[97]⟩ : ByteArray), (⟨#[114]⟩ : ByteArray)⟩ : Role), zS, (⟨(⟨#[98]⟩ : ByteArray), (⟨#[115]⟩ : ByteArray)⟩ : Role), (⟨zS, zS⟩ : Role), zS⟩ : Cred))).toArray : Array Value) 36 (0, 0)) :: ((b1, Obj.cells ((encRole ((⟨(⟨#[97]⟩ : ByteArray), (⟨#[114]⟩ : ByteArray)⟩ : Role))).toArray : Array Value) 34 (0, 0)) :: (R81 ++ (S60 ++ (S63 ++ (S65 ++ (S67 ++ (S70 ++ []))))))))) := hST.sublist (List.Sublist.cons _ (List.Sublist.refl _))
  refine CW_seq ?_
  refine PX_start (fun l W => Has μ78 ((b19, Obj.cells ((encCred ((⟨2, (⟨(⟨#[97]⟩ : ByteArray), (⟨#[114]⟩ : ByteArray)⟩ : Role), zS, (⟨(⟨#[98]⟩ : ByteArray), (⟨#[115]⟩ : ByteArray)⟩ : Role), (⟨zS, zS⟩ : Role), zS⟩ : Cred))).toArray : Array Value) 36 (0, 0)) :: ((b1, Obj.cells ((encRole ((⟨(⟨#[97]⟩ : ByteArray), (⟨#[114]⟩ : ByteArray)⟩ : Role))).toArray : Array Value) 34 (0, 0)) :: (R81 ++ []))) W) Try_mixed ?_
  replace hST := hST.drew
  have hS0 : Has μ78 ((b19, Obj.cells ((encCred ((⟨2, (⟨(⟨#[97]⟩ : ByteArray), (⟨#[114]⟩ : ByteArray)⟩ : Role), zS, (⟨(⟨#[98]⟩ : ByteArray), (⟨#[115]⟩ : ByteArray)⟩ : Role), (⟨zS, zS⟩ : Role), zS⟩ : Cred))).toArray : Array Value) 36 (0, 0)) :: ((b1, Obj.cells ((encRole ((⟨(⟨#[97]⟩ : ByteArray), (⟨#[114]⟩ : ByteArray)⟩ : Role))).toArray : Array Value) 34 (0, 0)) :: (R81 ++ []))) _ := hST.has.sub (Sub.refl _) (fun p hq => ((List.mem_cons.1 hq).elim (fun hq => by rw [hq]; exact (.tail _ (.head _))) (fun hq => ((List.mem_cons.1 hq).elim (fun hq => by rw [hq]; exact (.tail _ (.tail _ (.head _)))) (fun hq => ((List.mem_append.1 hq).elim (fun hq => (.tail _ (.tail _ (.tail _ (List.mem_append_left _ hq))))) (fun hq => (absurd hq List.not_mem_nil))))))))
  refine PV 0 rfl hS0 (R_move (v := (.int .i64 r52.1)) rfl) ?_
  refine PV 1 rfl hS0 (R_int (k := .i64) (a := r52.1) (b := 2) (v := (.bool ((r52.1 == 2)))) rfl rfl rfl) ?_
  refine PV 2 rfl hS0 (R_move (v := (.bool ((r52.1 == 2)))) rfl) ?_
  obtain ⟨s760, hm761, hm762⟩ := bind_some hm
  refine PX_join (J := fun E W => ∃ (x543 : Bool) (L544 : List (Nat × Obj)), ST false NoF w W μ78 ((b33, Obj.cells (#[y34, y62, y40, y43, y69, (.int .i64 r52.2.2.2.2.2.2)] : Array Value) 53 (0, 0)) :: ((b19, Obj.cells ((encCred ((⟨2, (⟨(⟨#[97]⟩ : ByteArray), (⟨#[114]⟩ : ByteArray)⟩ : Role), zS, (⟨(⟨#[98]⟩ : ByteArray), (⟨#[115]⟩ : ByteArray)⟩ : Role), (⟨zS, zS⟩ : Role), zS⟩ : Cred))).toArray : Array Value) 36 (0, 0)) :: ((b1, Obj.cells ((encRole ((⟨(⟨#[97]⟩ : ByteArray), (⟨#[114]⟩ : ByteArray)⟩ : Role))).toArray : Array Value) 34 (0, 0)) :: (R81 ++ (S60 ++ (S63 ++ (S65 ++ (S67 ++ (S70 ++ L544))))))))) ∧ E 0 = (.bool false) ∧ E 1 = (.pointer (some ⟨b1, 0, none⟩)) ∧ E 3 = (.pointer (some ⟨b19, 0, none⟩)) ∧ E 5 = (.pointer (some ⟨b33, 0, none⟩)) ∧ E 7 = v80 ∧ E 33 = (.bool x543) ∧ (((if x543 then (((m_model_Model_In r52.2.1 r52.2.2.1 r52.2.2.2.1 r52.2.2.2.2.1 r52.2.2.2.2.2.1 r52.2.2.2.2.2.2 ((⟨(⟨#[97]⟩ : ByteArray), (⟨#[114]⟩ : ByteArray)⟩ : Role)) ((⟨#[97]⟩ : ByteArray)))).bind fun r757 => some ((!r757))) else some false) : Option Bool).bind fun x556 => (((if x556 then (((m_model_Model_Members r52.2.1 r52.2.2.1 r52.2.2.2.1 r52.2.2.2.2.1 r52.2.2.2.2.2.1 r52.2.2.2.2.2.2 ((⟨(⟨#[97]⟩ : ByteArray), (⟨#[114]⟩ : ByteArray)⟩ : Role)))).bind fun r745 => some ((((r745.length : Int)) == 1))) else some false) : Option Bool).bind fun x575 => (((if x575 then (((m_model_Model_Roles r52.2.1 r52.2.2.1 r52.2.2.2.1 r52.2.2.2.2.1 r52.2.2.2.2.2.1 r52.2.2.2.2.2.2 ((⟨#[100]⟩ : ByteArray)))).bind fun r733 => some ((((r733.length : Int)) == 2))) else some false) : Option Bool).bind fun x595 => (((if x595 then (((m_model_Model_Facts r52.2.1 r52.2.2.1 r52.2.2.2.1 r52.2.2.2.2.1 r52.2.2.2.2.2.1 r52.2.2.2.2.2.2)).bind fun r721 => some ((((r721.length : Int)) == 2))) else some false) : Option Bool).bind fun x615 => (((if x615 then (((m_model_Model_Add_w r52.2.1 r52.2.2.1 r52.2.2.2.1 r52.2.2.2.2.1 r52.2.2.2.2.2.1 r52.2.2.2.2.2.2 ([(⟨2, (⟨(⟨#[97]⟩ : ByteArray), (⟨#[114]⟩ : ByteArray)⟩ : Role), zS, (⟨(⟨#[98]⟩ : ByteArray), (⟨#[115]⟩ : ByteArray)⟩ : Role), (⟨zS, zS⟩ : Role), zS⟩ : Cred)]))).bind fun r696 => some ((r696.1 == 0))) else some false) : Option Bool).bind fun x650 => (((if x650 then some ((((r75.length : Int)) == 1)) else some false) : Option Bool).bind fun x659 => (((if x659 then (((idx r75 0)).bind fun x684 => some ((beqFact x684 ((⟨(⟨(⟨#[97]⟩ : ByteArray), (⟨#[114]⟩ : ByteArray)⟩ : Role), (⟨#[100]⟩ : ByteArray)⟩ : Fact))))) else some false) : Option Bool).bind fun x672 => some x672))))))) = some r) #[true, true, true, true, true, true, true, false, false, false, false, false, false, false, false, false, false, false, false, false, false, false, false, false, false, false, false, false, false, false, false, false, false, false, false, false, false, false, false, false, false, false, false, false, false, false, false, false, false, false, false, false, false] 46 ?_ (fun key763 => ?_)
  · rintro E W ⟨x543, L544, hST, e546, e547, e548, e549, e550, e551, hm545⟩
    have hS0 : Has μ78 ((b19, Obj.cells ((encCred ((⟨2, (⟨(⟨#[97]⟩ : ByteArray), (⟨#[114]⟩ : ByteArray)⟩ : Role), zS, (⟨(⟨#[98]⟩ : ByteArray), (⟨#[115]⟩ : ByteArray)⟩ : Role), (⟨zS, zS⟩ : Role), zS⟩ : Cred))).toArray : Array Value) 36 (0, 0)) :: ((b1, Obj.cells ((encRole ((⟨(⟨#[97]⟩ : ByteArray), (⟨#[114]⟩ : ByteArray)⟩ : Role))).toArray : Array Value) 34 (0, 0)) :: (R81 ++ []))) _ := hST.has.sub (Sub.refl _) (fun p hq => ((List.mem_cons.1 hq).elim (fun hq => by rw [hq]; exact (.tail _ (.head _))) (fun hq => ((List.mem_cons.1 hq).elim (fun hq => by rw [hq]; exact (.tail _ (.tail _ (.head _)))) (fun hq => ((List.mem_append.1 hq).elim (fun hq => (.tail _ (.tail _ (.tail _ (List.mem_append_left _ hq))))) (fun hq => (absurd hq List.not_mem_nil))))))))
    refine PV 7 rfl hS0 (R_move (v := (.bool x543)) e551) ?_
    obtain ⟨s753, hm754, hm755⟩ := bind_some hm545
    refine PX_join (J := fun E W => ∃ (x556 : Bool) (L557 : List (Nat × Obj)), ST false NoF w W μ78 ((b33, Obj.cells (#[y34, y62, y40, y43, y69, (.int .i64 r52.2.2.2.2.2.2)] : Array Value) 53 (0, 0)) :: ((b19, Obj.cells ((encCred ((⟨2, (⟨(⟨#[97]⟩ : ByteArray), (⟨#[114]⟩ : ByteArray)⟩ : Role), zS, (⟨(⟨#[98]⟩ : ByteArray), (⟨#[115]⟩ : ByteArray)⟩ : Role), (⟨zS, zS⟩ : Role), zS⟩ : Cred))).toArray : Array Value) 36 (0, 0)) :: ((b1, Obj.cells ((encRole ((⟨(⟨#[97]⟩ : ByteArray), (⟨#[114]⟩ : ByteArray)⟩ : Role))).toArray : Array Value) 34 (0, 0)) :: (R81 ++ (S60 ++ (S63 ++ (S65 ++ (S67 ++ (S70 ++ L557))))))))) ∧ E 0 = (.bool false) ∧ E 1 = (.pointer (some ⟨b1, 0, none⟩)) ∧ E 3 = (.pointer (some ⟨b19, 0, none⟩)) ∧ E 5 = (.pointer (some ⟨b33, 0, none⟩)) ∧ E 7 = v80 ∧ E 39 = (.bool x556) ∧ (((if x556 then (((m_model_Model_Members r52.2.1 r52.2.2.1 r52.2.2.2.1 r52.2.2.2.2.1 r52.2.2.2.2.2.1 r52.2.2.2.2.2.2 ((⟨(⟨#[97]⟩ : ByteArray), (⟨#[114]⟩ : ByteArray)⟩ : Role)))).bind fun r745 => some ((((r745.length : Int)) == 1))) else some false) : Option Bool).bind fun x575 => (((if x575 then (((m_model_Model_Roles r52.2.1 r52.2.2.1 r52.2.2.2.1 r52.2.2.2.2.1 r52.2.2.2.2.2.1 r52.2.2.2.2.2.2 ((⟨#[100]⟩ : ByteArray)))).bind fun r733 => some ((((r733.length : Int)) == 2))) else some false) : Option Bool).bind fun x595 => (((if x595 then (((m_model_Model_Facts r52.2.1 r52.2.2.1 r52.2.2.2.1 r52.2.2.2.2.1 r52.2.2.2.2.2.1 r52.2.2.2.2.2.2)).bind fun r721 => some ((((r721.length : Int)) == 2))) else some false) : Option Bool).bind fun x615 => (((if x615 then (((m_model_Model_Add_w r52.2.1 r52.2.2.1 r52.2.2.2.1 r52.2.2.2.2.1 r52.2.2.2.2.2.1 r52.2.2.2.2.2.2 ([(⟨2, (⟨(⟨#[97]⟩ : ByteArray), (⟨#[114]⟩ : ByteArray)⟩ : Role), zS, (⟨(⟨#[98]⟩ : ByteArray), (⟨#[115]⟩ : ByteArray)⟩ : Role), (⟨zS, zS⟩ : Role), zS⟩ : Cred)]))).bind fun r696 => some ((r696.1 == 0))) else some false) : Option Bool).bind fun x650 => (((if x650 then some ((((r75.length : Int)) == 1)) else some false) : Option Bool).bind fun x659 => (((if x659 then (((idx r75 0)).bind fun x684 => some ((beqFact x684 ((⟨(⟨(⟨#[97]⟩ : ByteArray), (⟨#[114]⟩ : ByteArray)⟩ : Role), (⟨#[100]⟩ : ByteArray)⟩ : Fact))))) else some false) : Option Bool).bind fun x672 => some x672)))))) = some r) #[true, true, true, true, true, true, true, true, true, true, true, true, true, false, false, false, false, false, false, false, false, false, false, false, false, false, false, false, false, false, false, false, false, false, false, false, false, false, false, false, false, false, false, false, false, false, false, false, false, false, false, false, false] 40 ?_ (fun key756 => ?_)
    · rintro E W ⟨x556, L557, hST, e559, e560, e561, e562, e563, e564, hm558⟩
      have hS0 : Has μ78 ((b19, Obj.cells ((encCred ((⟨2, (⟨(⟨#[97]⟩ : ByteArray), (⟨#[114]⟩ : ByteArray)⟩ : Role), zS, (⟨(⟨#[98]⟩ : ByteArray), (⟨#[115]⟩ : ByteArray)⟩ : Role), (⟨zS, zS⟩ : Role), zS⟩ : Cred))).toArray : Array Value) 36 (0, 0)) :: ((b1, Obj.cells ((encRole ((⟨(⟨#[97]⟩ : ByteArray), (⟨#[114]⟩ : ByteArray)⟩ : Role))).toArray : Array Value) 34 (0, 0)) :: (R81 ++ []))) _ := hST.has.sub (Sub.refl _) (fun p hq => ((List.mem_cons.1 hq).elim (fun hq => by rw [hq]; exact (.tail _ (.head _))) (fun hq => ((List.mem_cons.1 hq).elim (fun hq => by rw [hq]; exact (.tail _ (.tail _ (.head _)))) (fun hq => ((List.mem_append.1 hq).elim (fun hq => (.tail _ (.tail _ (.tail _ (List.mem_append_left _ hq))))) (fun hq => (absurd hq List.not_mem_nil))))))))
      refine PV 13 rfl hS0 (R_move (v := (.bool x556)) e564) ?_
      obtain ⟨s741, hm742, hm743⟩ := bind_some hm558
      refine PX_join (J := fun E W => ∃ (x575 : Bool) (μ574 : Mem) (L576 : List (Nat × Obj)), Sub μ78 μ574 ∧ ST false NoF w W μ574 ((b33, Obj.cells (#[y34, y62, y40, y43, y69, (.int .i64 r52.2.2.2.2.2.2)] : Array Value) 53 (0, 0)) :: ((b19, Obj.cells ((encCred ((⟨2, (⟨(⟨#[97]⟩ : ByteArray), (⟨#[114]⟩ : ByteArray)⟩ : Role), zS, (⟨(⟨#[98]⟩ : ByteArray), (⟨#[115]⟩ : ByteArray)⟩ : Role), (⟨zS, zS⟩ : Role), zS⟩ : Cred))).toArray : Array Value) 36 (0, 0)) :: ((b1, Obj.cells ((encRole ((⟨(⟨#[97]⟩ : ByteArray), (⟨#[114]⟩ : ByteArray)⟩ : Role))).toArray : Array Value) 34 (0, 0)) :: (R81 ++ (S60 ++ (S63 ++ (S65 ++ (S67 ++ (S70 ++ L576))))))))) ∧ E 0 = (.bool false) ∧ E 1 = (.pointer (some ⟨b1, 0, none⟩)) ∧ E 3 = (.pointer (some ⟨b19, 0, none⟩)) ∧ E 5 = (.pointer (some ⟨b33, 0, none⟩)) ∧ E 7 = v80 ∧ E 46 = (.bool x575) ∧ (((if x575 then (((m_model_Model_Roles r52.2.1 r52.2.2.1 r52.2.2.2.1 r52.2.2.2.2.1 r52.2.2.2.2.2.1 r52.2.2.2.2.2.2 ((⟨#[100]⟩ : ByteArray)))).bind fun r733 => some ((((r733.length : Int)) == 2))) else some false) : Option Bool).bind fun x595 => (((if x595 then (((m_model_Model_Facts r52.2.1 r52.2.2.1 r52.2.2.2.1 r52.2.2.2.2.1 r52.2.2.2.2.2.1 r52.2.2.2.2.2.2)).bind fun r721 => some ((((r721.length : Int)) == 2))) else some false) : Option Bool).bind fun x615 => (((if x615 then (((m_model_Model_Add_w r52.2.1 r52.2.2.1 r52.2.2.2.1 r52.2.2.2.2.1 r52.2.2.2.2.2.1 r52.2.2.2.2.2.2 ([(⟨2, (⟨(⟨#[97]⟩ : ByteArray), (⟨#[114]⟩ : ByteArray)⟩ : Role), zS, (⟨(⟨#[98]⟩ : ByteArray), (⟨#[115]⟩ : ByteArray)⟩ : Role), (⟨zS, zS⟩ : Role), zS⟩ : Cred)]))).bind fun r696 => some ((r696.1 == 0))) else some false) : Option Bool).bind fun x650 => (((if x650 then some ((((r75.length : Int)) == 1)) else some false) : Option Bool).bind fun x659 => (((if x659 then (((idx r75 0)).bind fun x684 => some ((beqFact x684 ((⟨(⟨(⟨#[97]⟩ : ByteArray), (⟨#[114]⟩ : ByteArray)⟩ : Role), (⟨#[100]⟩ : ByteArray)⟩ : Fact))))) else some false) : Option Bool).bind fun x672 => some x672))))) = some r) #[true, true, true, true, true, true, true, true, true, true, true, true, true, true, true, true, true, true, true, true, false, false, false, false, false, false, false, false, false, false, false, false, false, false, false, false, false, false, false, false, false, false, false, false, false, false, false, false, false, false, false, false, false] 33 ?_ (fun key744 => ?_)
      · rintro E W ⟨x575, μ574, L576, hle578, hST, e579, e580, e581, e582, e583, e584, hm577⟩
        have hS0 : Has μ78 ((b19, Obj.cells ((encCred ((⟨2, (⟨(⟨#[97]⟩ : ByteArray), (⟨#[114]⟩ : ByteArray)⟩ : Role), zS, (⟨(⟨#[98]⟩ : ByteArray), (⟨#[115]⟩ : ByteArray)⟩ : Role), (⟨zS, zS⟩ : Role), zS⟩ : Cred))).toArray : Array Value) 36 (0, 0)) :: ((b1, Obj.cells ((encRole ((⟨(⟨#[97]⟩ : ByteArray), (⟨#[114]⟩ : ByteArray)⟩ : Role))).toArray : Array Value) 34 (0, 0)) :: (R81 ++ []))) _ := hST.has.sub hle578 (fun p hq => ((List.mem_cons.1 hq).elim (fun hq => by rw [hq]; exact (.tail _ (.head _))) (fun hq => ((List.mem_cons.1 hq).elim (fun hq => by rw [hq]; exact (.tail _ (.tail _ (.head _)))) (fun hq => ((List.mem_append.1 hq).elim (fun hq => (.tail _ (.tail _ (.tail _ (List.mem_append_left _ hq))))) (fun hq => (absurd hq List.not_mem_nil))))))))
        refine PV 20 rfl hS0 (R_move (v := (.bool x575)) e584) ?_
        obtain ⟨s729, hm730, hm731⟩ := bind_some hm577
        refine PX_join (J := fun E W => ∃ (x595 : Bool) (μ594 : Mem) (L596 : List (Nat × Obj)), Sub μ574 μ594 ∧ ST false NoF w W μ594 ((b33, Obj.cells (#[y34, y62, y40, y43, y69, (.int .i64 r52.2.2.2.2.2.2)] : Array Value) 53 (0, 0)) :: ((b19, Obj.cells ((encCred ((⟨2, (⟨(⟨#[97]⟩ : ByteArray), (⟨#[114]⟩ : ByteArray)⟩ : Role), zS, (⟨(⟨#[98]⟩ : ByteArray), (⟨#[115]⟩ : ByteArray)⟩ : Role), (⟨zS, zS⟩ : Role), zS⟩ : Cred))).toArray : Array Value) 36 (0, 0)) :: ((b1, Obj.cells ((encRole ((⟨(⟨#[97]⟩ : ByteArray), (⟨#[114]⟩ : ByteArray)⟩ : Role))).toArray : Array Value) 34 (0, 0)) :: (R81 ++ (S60 ++ (S63 ++ (S65 ++ (S67 ++ (S70 ++ L596))))))))) ∧ E 0 = (.bool false) ∧ E 1 = (.pointer (some ⟨b1, 0, none⟩)) ∧ E 3 = (.pointer (some ⟨b19, 0, none⟩)) ∧ E 5 = (.pointer (some ⟨b33, 0, none⟩)) ∧ E 7 = v80 ∧ E 52 = (.bool x595) ∧ (((if x595 then (((m_model_Model_Facts r52.2.1 r52.2.2.1 r52.2.2.2.1 r52.2.2.2.2.1 r52.2.2.2.2.2.1 r52.2.2.2.2.2.2)).bind fun r721 => some ((((r721.length : Int)) == 2))) else some false) : Option Bool).bind fun x615 => (((if x615 then (((m_model_Model_Add_w r52.2.1 r52.2.2.1 r52.2.2.2.1 r52.2.2.2.2.1 r52.2.2.2.2.2.1 r52.2.2.2.2.2.2 ([(⟨2, (⟨(⟨#[97]⟩ : ByteArray), (⟨#[114]⟩ : ByteArray)⟩ : Role), zS, (⟨(⟨#[98]⟩ : ByteArray), (⟨#[115]⟩ : ByteArray)⟩ : Role), (⟨zS, zS⟩ : Role), zS⟩ : Cred)]))).bind fun r696 => some ((r696.1 == 0))) else some false) : Option Bool).bind fun x650 => (((if x650 then some ((((r75.length : Int)) == 1)) else some false) : Option Bool).bind fun x659 => (((if x659 then (((idx r75 0)).bind fun x684 => some ((beqFact x684 ((⟨(⟨(⟨#[97]⟩ : ByteArray), (⟨#[114]⟩ : ByteArray)⟩ : Role), (⟨#[100]⟩ : ByteArray)⟩ : Fact))))) else some false) : Option Bool).bind fun x672 => some x672)))) = some r) #[true, true, true, true, true, true, true, true, true, true, true, true, true, true, true, true, true, true, true, true, true, true, true, true, true, true, false, false, false, false, false, false, false, false, false, false, false, false, false, false, false, false, false, false, false, false, false, false, false, false, false, false, false] 27 ?_ (fun key732 => ?_)
        · rintro E W ⟨x595, μ594, L596, hle598, hST, e599, e600, e601, e602, e603, e604, hm597⟩
          have hS0 : Has μ78 ((b19, Obj.cells ((encCred ((⟨2, (⟨(⟨#[97]⟩ : ByteArray), (⟨#[114]⟩ : ByteArray)⟩ : Role), zS, (⟨(⟨#[98]⟩ : ByteArray), (⟨#[115]⟩ : ByteArray)⟩ : Role), (⟨zS, zS⟩ : Role), zS⟩ : Cred))).toArray : Array Value) 36 (0, 0)) :: ((b1, Obj.cells ((encRole ((⟨(⟨#[97]⟩ : ByteArray), (⟨#[114]⟩ : ByteArray)⟩ : Role))).toArray : Array Value) 34 (0, 0)) :: (R81 ++ []))) _ := hST.has.sub (hle578.trans hle598) (fun p hq => ((List.mem_cons.1 hq).elim (fun hq => by rw [hq]; exact (.tail _ (.head _))) (fun hq => ((List.mem_cons.1 hq).elim (fun hq => by rw [hq]; exact (.tail _ (.tail _ (.head _)))) (fun hq => ((List.mem_append.1 hq).elim (fun hq => (.tail _ (.tail _ (.tail _ (List.mem_append_left _ hq))))) (fun hq => (absurd hq List.not_mem_nil))))))))
          refine PV 26 rfl hS0 (R_move (v := (.bool x595)) e604) ?_
          obtain ⟨s717, hm718, hm719⟩ := bind_some hm597
          refine PX_join (J := fun E W => ∃ (x615 : Bool) (μ614 : Mem) (L616 : List (Nat × Obj)), Sub μ594 μ614 ∧ ST false NoF w W μ614 ((b33, Obj.cells (#[y34, y62, y40, y43, y69, (.int .i64 r52.2.2.2.2.2.2)] : Array Value) 53 (0, 0)) :: ((b19, Obj.cells ((encCred ((⟨2, (⟨(⟨#[97]⟩ : ByteArray), (⟨#[114]⟩ : ByteArray)⟩ : Role), zS, (⟨(⟨#[98]⟩ : ByteArray), (⟨#[115]⟩ : ByteArray)⟩ : Role), (⟨zS, zS⟩ : Role), zS⟩ : Cred))).toArray : Array Value) 36 (0, 0)) :: ((b1, Obj.cells ((encRole ((⟨(⟨#[97]⟩ : ByteArray), (⟨#[114]⟩ : ByteArray)⟩ : Role))).toArray : Array Value) 34 (0, 0)) :: (R81 ++ (S60 ++ (S63 ++ (S65 ++ (S67 ++ (S70 ++ L616))))))))) ∧ E 0 = (.bool false) ∧ E 1 = (.pointer (some ⟨b1, 0, none⟩)) ∧ E 3 = (.pointer (some ⟨b19, 0, none⟩)) ∧ E 5 = (.pointer (some ⟨b33, 0, none⟩)) ∧ E 7 = v80 ∧ E 58 = (.bool x615) ∧ (((if x615 then (((m_model_Model_Add_w r52.2.1 r52.2.2.1 r52.2.2.2.1 r52.2.2.2.2.1 r52.2.2.2.2.2.1 r52.2.2.2.2.2.2 ([(⟨2, (⟨(⟨#[97]⟩ : ByteArray), (⟨#[114]⟩ : ByteArray)⟩ : Role), zS, (⟨(⟨#[98]⟩ : ByteArray), (⟨#[115]⟩ : ByteArray)⟩ : Role), (⟨zS, zS⟩ : Role), zS⟩ : Cred)]))).bind fun r696 => some ((r696.1 == 0))) else some false) : Option Bool).bind fun x650 => (((if x650 then some ((((r75.length : Int)) == 1)) else some false) : Option Bool).bind fun x659 => (((if x659 then (((idx r75 0)).bind fun x684 => some ((beqFact x684 ((⟨(⟨(⟨#[97]⟩ : ByteArray), (⟨#[114]⟩ : ByteArray)⟩ : Role), (⟨#[100]⟩ : ByteArray)⟩ : Fact))))) else some false) : Option Bool).bind fun x672 => some x672))) = some r) #[true, true, true, true, true, true, true, true, true, true, true, true, true, true, true, true, true, true, true, true, true, true, true, true, true, true, true, true, true, true, true, true, false, false, false, false, false, false, false, false, false, false, false, false, false, false, false, false, false, false, false, false, false] 21 ?_ (fun key720 => ?_)
          · rintro E W ⟨x615, μ614, L616, hle618, hST, e619, e620, e621, e622, e623, e624, hm617⟩
            have hS0 : Has μ78 ((b19, Obj.cells ((encCred ((⟨2, (⟨(⟨#[97]⟩ : ByteArray), (⟨#[114]⟩ : ByteArray)⟩ : Role), zS, (⟨(⟨#[98]⟩ : ByteArray), (⟨#[115]⟩ : ByteArray)⟩ : Role), (⟨zS, zS⟩ : Role), zS⟩ : Cred))).toArray : Array Value) 36 (0, 0)) :: ((b1, Obj.cells ((encRole ((⟨(⟨#[97]⟩ : ByteArray), (⟨#[114]⟩ : ByteArray)⟩ : Role))).toArray : Array Value) 34 (0, 0)) :: (R81 ++ []))) _ := hST.has.sub ((hle578.trans hle598).trans hle618) (fun p hq => ((List.mem_cons.1 hq).elim (fun hq => by rw [hq]; exact (.tail _ (.head _))) (fun hq => ((List.mem_cons.1 hq).elim (fun hq => by rw [hq]; exact (.tail _ (.tail _ (.head _)))) (fun hq => ((List.mem_append.1 hq).elim (fun hq => (.tail _ (.tail _ (.tail _ (List.mem_append_left _ hq))))) (fun hq => (absurd hq List.not_mem_nil))))))))
            refine PV 32 rfl hS0 (R_move (v := (.bool x615)) e624) ?_
            obtain ⟨s690, hm691, hm692⟩ := bind_some hm617
            refine PX_join (J := fun E W => ∃ (x650 : Bool) (μ649 : Mem) (L651 : List (Nat × Obj)), Sub μ614 μ649 ∧ ST false NoF w W μ649 ((b19, Obj.cells ((encCred ((⟨2, (⟨(⟨#[97]⟩ : ByteArray), (⟨#[114]⟩ : ByteArray)⟩ : Role), zS, (⟨(⟨#[98]⟩ : ByteArray), (⟨#[115]⟩ : ByteArray)⟩ : Role), (⟨zS, zS⟩ : Role), zS⟩ : Cred))).toArray : Array Value) 36 (0, 0)) :: ((b1, Obj.cells ((encRole ((⟨(⟨#[97]⟩ : ByteArray), (⟨#[114]⟩ : ByteArray)⟩ : Role))).toArray : Array Value) 34 (0, 0)) :: (R81 ++ L651))) ∧ E 0 = (.bool false) ∧ E 1 = (.pointer (some ⟨b1, 0, none⟩)) ∧ E 7 = v80 ∧ E 65 = (.bool x650) ∧ (((if x650 then some ((((r75.length : Int)) == 1)) else some false) : Option Bool).bind fun x659 => (((if x659 then (((idx r75 0)).bind fun x684 => some ((beqFact x684 ((⟨(⟨(⟨#[97]⟩ : ByteArray), (⟨#[114]⟩ : ByteArray)⟩ : Role), (⟨#[100]⟩ : ByteArray)⟩ : Fact))))) else some false) : Option Bool).bind fun x672 => some x672)) = some r) #[true, true, true, true, true, true, true, true, true, true, true, true, true, true, true, true, true, true, true, true, true, true, true, true, true, true, true, true, true, true, true, true, true, true, true, true, true, true, true, false, false, false, false, false, false, false, false, false, false, false, false, false, false] 14 ?_ (fun key693 => ?_)
            · rintro E W ⟨x650, μ649, L651, hle653, hST, e654, e655, e656, e657, hm652⟩
              have hS0 : Has μ78 ((b19, Obj.cells ((encCred ((⟨2, (⟨(⟨#[97]⟩ : ByteArray), (⟨#[114]⟩ : ByteArray)⟩ : Role), zS, (⟨(⟨#[98]⟩ : ByteArray), (⟨#[115]⟩ : ByteArray)⟩ : Role), (⟨zS, zS⟩ : Role), zS⟩ : Cred))).toArray : Array Value) 36 (0, 0)) :: ((b1, Obj.cells ((encRole ((⟨(⟨#[97]⟩ : ByteArray), (⟨#[114]⟩ : ByteArray)⟩ : Role))).toArray : Array Value) 34 (0, 0)) :: (R81 ++ []))) _ := hST.has.sub (((hle578.trans hle598).trans hle618).trans hle653) (fun p hq => ((List.mem_cons.1 hq).elim (fun hq => by rw [hq]; exact (.head _)) (fun hq => ((List.mem_cons.1 hq).elim (fun hq => by rw [hq]; exact (.tail _ (.head _))) (fun hq => ((List.mem_append.1 hq).elim (fun hq => (.tail _ (.tail _ (List.mem_append_left _ hq)))) (fun hq => (absurd hq List.not_mem_nil))))))))
              refine PV 39 rfl hS0 (R_move (v := (.bool x650)) e657) ?_
              obtain ⟨s686, hm687, hm688⟩ := bind_some hm652
              refine PX_join (J := fun E W => ∃ (x659 : Bool) (L660 : List (Nat × Obj)), ST false NoF w W μ649 ((b19, Obj.cells ((encCred ((⟨2, (⟨(⟨#[97]⟩ : ByteArray), (⟨#[114]⟩ : ByteArray)⟩ : Role), zS, (⟨(⟨#[98]⟩ : ByteArray), (⟨#[115]⟩ : ByteArray)⟩ : Role), (⟨zS, zS⟩ : Role), zS⟩ : Cred))).toArray : Array Value) 36 (0, 0)) :: ((b1, Obj.cells ((encRole ((⟨(⟨#[97]⟩ : ByteArray), (⟨#[114]⟩ : ByteArray)⟩ : Role))).toArray : Array Value) 34 (0, 0)) :: (R81 ++ L660))) ∧ E 0 = (.bool false) ∧ E 1 = (.pointer (some ⟨b1, 0, none⟩)) ∧ E 7 = v80 ∧ E 70 = (.bool x659) ∧ (((if x659 then (((idx r75 0)).bind fun x684 => some ((beqFact x684 ((⟨(⟨(⟨#[97]⟩ : ByteArray), (⟨#[114]⟩ : ByteArray)⟩ : Role), (⟨#[100]⟩ : ByteArray)⟩ : Fact))))) else some false) : Option Bool).bind fun x672 => some x672) = some r) #[true, true, true, true, true, true, true, true, true, true, true, true, true, true, true, true, true, true, true, true, true, true, true, true, true, true, true, true, true, true, true, true, true, true, true, true, true, true, true, true, true, true, true, true, false, false, false, false, false, false, false, false, false] 9 ?_ (fun key689 => ?_)
              · rintro E W ⟨x659, L660, hST, e662, e663, e664, e665, hm661⟩
                have hS0 : Has μ78 ((b19, Obj.cells ((encCred ((⟨2, (⟨(⟨#[97]⟩ : ByteArray), (⟨#[114]⟩ : ByteArray)⟩ : Role), zS, (⟨(⟨#[98]⟩ : ByteArray), (⟨#[115]⟩ : ByteArray)⟩ : Role), (⟨zS, zS⟩ : Role), zS⟩ : Cred))).toArray : Array Value) 36 (0, 0)) :: ((b1, Obj.cells ((encRole ((⟨(⟨#[97]⟩ : ByteArray), (⟨#[114]⟩ : ByteArray)⟩ : Role))).toArray : Array Value) 34 (0, 0)) :: (R81 ++ []))) _ := hST.has.sub (((hle578.trans hle598).trans hle618).trans hle653) (fun p hq => ((List.mem_cons.1 hq).elim (fun hq => by rw [hq]; exact (.head _)) (fun hq => ((List.mem_cons.1 hq).elim (fun hq => by rw [hq]; exact (.tail _ (.head _))) (fun hq => ((List.mem_append.1 hq).elim (fun hq => (.tail _ (.tail _ (List.mem_append_left _ hq)))) (fun hq => (absurd hq List.not_mem_nil))))))))
                refine PV 44 rfl hS0 (R_move (v := (.bool x659)) e665) ?_
                obtain ⟨s677, hm678, hm679⟩ := bind_some hm661
                refine PX_join (J := fun E W => ∃ (x672 : Bool) (L673 : List (Nat × Obj)), ST false NoF w W μ649 ((b19, Obj.cells ((encCred ((⟨2, (⟨(⟨#[97]⟩ : ByteArray), (⟨#[114]⟩ : ByteArray)⟩ : Role), zS, (⟨(⟨#[98]⟩ : ByteArray), (⟨#[115]⟩ : ByteArray)⟩ : Role), (⟨zS, zS⟩ : Role), zS⟩ : Cred))).toArray : Array Value) 36 (0, 0)) :: ((b1, Obj.cells ((encRole ((⟨(⟨#[97]⟩ : ByteArray), (⟨#[114]⟩ : ByteArray)⟩ : Role))).toArray : Array Value) 34 (0, 0)) :: (R81 ++ L673))) ∧ E 0 = (.bool false) ∧ E 78 = (.bool x672) ∧ some x672 = some r) #[true, true, true, true, true, true, true, true, true, true, true, true, true, true, true, true, true, true, true, true, true, true, true, true, true, true, true, true, true, true, true, true, true, true, true, true, true, true, true, true, true, true, true, true, true, true, true, true, true, true, true, true, false] 1 ?_ (fun key680 => ?_)
                · rintro E W ⟨x672, L673, hST, e675, e676, hm674⟩
                  have hS0 : Has μ78 ((b19, Obj.cells ((encCred ((⟨2, (⟨(⟨#[97]⟩ : ByteArray), (⟨#[114]⟩ : ByteArray)⟩ : Role), zS, (⟨(⟨#[98]⟩ : ByteArray), (⟨#[115]⟩ : ByteArray)⟩ : Role), (⟨zS, zS⟩ : Role), zS⟩ : Cred))).toArray : Array Value) 36 (0, 0)) :: ((b1, Obj.cells ((encRole ((⟨(⟨#[97]⟩ : ByteArray), (⟨#[114]⟩ : ByteArray)⟩ : Role))).toArray : Array Value) 34 (0, 0)) :: (R81 ++ []))) _ := hST.has.sub (((hle578.trans hle598).trans hle618).trans hle653) (fun p hq => ((List.mem_cons.1 hq).elim (fun hq => by rw [hq]; exact (.head _)) (fun hq => ((List.mem_cons.1 hq).elim (fun hq => by rw [hq]; exact (.tail _ (.head _))) (fun hq => ((List.mem_append.1 hq).elim (fun hq => (.tail _ (.tail _ (List.mem_append_left _ hq)))) (fun hq => (absurd hq List.not_mem_nil))))))))
                  refine PV 52 rfl hS0 (R_assign (v := (.bool x672)) e676) ?_
                  refine PX_done (by kernel_rfl) ?_
                  refine sq_n ?_
                  replace hST : ST false NoF w _ _ L673 := hST.sublist (List.Sublist.cons _ (List.Sublist.cons _ ((List.Sublist.refl _).trans (List.sublist_append_right _ _))))
                  refine CW_ret ?_
                  replace hm674 := Option.some.inj hm674; subst hm674
                  refine retQ_1 (v := (.bool x672)) rfl rfl ?_
                  exact ⟨rfl, hST.ex⟩
                · rcases bool_cases x659 with hb666 | hb666
                  · replace hm678 := if_t hb666 hm678
                    refine PX_v 45 rfl (by kernel_rfl) (.inr ⟨44, true, 71, rfl, rfl, by decide, (congrArg Value.bool hb666)⟩) rfl (by decide) (fun _ _ h => h) hS0 (fun _ _ _ _ => R_move (v := v80) e664) ?_
                    obtain ⟨x684, hx685, hm678⟩ := bind_some hm678
                    refine PX_q 46 rfl (by kernel_rfl) (.inr ⟨44, true, 71, rfl, rfl, by decide, (congrArg Value.bool hb666)⟩) rfl (by decide) (fun _ _ h => h) hS0 (R_indexRow (i := 0) (x0 := x684) Try.underlying28 Try.sizeOf43 rfl rfl hR82 (idx_nonneg hx685) (idx_get hx685)) (fun p681 hp682 => ?_)
                    refine PX_v 47 rfl (by kernel_rfl) (.inr ⟨44, true, 71, rfl, rfl, by decide, (congrArg Value.bool hb666)⟩) rfl (by decide) (fun _ _ h => h) hS0 (fun l W hpd hs => have hS := hs; R_load (v := (.agg (encFact x684).toArray)) rfl (load_ixA hS (fun p hq => by simp [hq]) hR82 lenFact hp682 (idx_get hx685) Try.isAgg43 Try.sizeOf43)) ?_
                    refine PX_v 48 rfl (by kernel_rfl) (.inr ⟨44, true, 71, rfl, rfl, by decide, (congrArg Value.bool hb666)⟩) rfl (by decide) (fun _ _ h => h) hS0 (fun l W hpd hs => have hS := hs; R_load (v := (.agg (encRole ((⟨(⟨#[97]⟩ : ByteArray), (⟨#[114]⟩ : ByteArray)⟩ : Role))).toArray)) e663 (load_boxA hS (.tail _ (.head _)) (encRole ((⟨(⟨#[97]⟩ : ByteArray), (⟨#[114]⟩ : ByteArray)⟩ : Role))) rfl Try.isAgg34 Try.sizeOf34)) ?_
                    refine PX_v 49 rfl (by kernel_rfl) (.inr ⟨44, true, 71, rfl, rfl, by decide, (congrArg Value.bool hb666)⟩) rfl (by decide) (fun _ _ h => h) hS0 (fun _ _ _ _ => R_build (qs := #[(0, (.agg (encRole ((⟨(⟨#[97]⟩ : ByteArray), (⟨#[114]⟩ : ByteArray)⟩ : Role))).toArray)), (1, (.string ((⟨#[100]⟩ : ByteArray))))]) (v := (.agg (encFact ((⟨(⟨(⟨#[97]⟩ : ByteArray), (⟨#[114]⟩ : ByteArray)⟩ : Role), (⟨#[100]⟩ : ByteArray)⟩ : Fact))).toArray)) (parts2 rfl rfl) (run_build Try.zeroValue43 Try.underlying43 (pl43 _ Try.underlying43) (by kernel_rfl))) ?_
                    refine PX_v 50 rfl (by kernel_rfl) (.inr ⟨44, true, 71, rfl, rfl, by decide, (congrArg Value.bool hb666)⟩) rfl (by decide) (fun _ _ h => h) hS0 (fun _ _ _ _ => R_eql (a := (encFact x684).toArray) (b := (encFact ((⟨(⟨(⟨#[97]⟩ : ByteArray), (⟨#[114]⟩ : ByteArray)⟩ : Role), (⟨#[100]⟩ : ByteArray)⟩ : Fact))).toArray) rfl rfl (guard_agg Try.eqGuardType43) (bin_eql (eqInFact _ x684 ((⟨(⟨(⟨#[97]⟩ : ByteArray), (⟨#[114]⟩ : ByteArray)⟩ : Role), (⟨#[100]⟩ : ByteArray)⟩ : Fact))))) ?_
                    refine PV 51 rfl hS0 (R_pickT (v := (.bool ((beqFact x684 ((⟨(⟨(⟨#[97]⟩ : ByteArray), (⟨#[114]⟩ : ByteArray)⟩ : Role), (⟨#[100]⟩ : ByteArray)⟩ : Fact)))))) (congrArg Value.bool hb666) rfl) ?_
                    replace hm678 := Option.some.inj hm678; subst hm678
                    refine PX_at (by kernel_rfl) (key680 _ _ ⟨((beqFact x684 ((⟨(⟨(⟨#[97]⟩ : ByteArray), (⟨#[114]⟩ : ByteArray)⟩ : Role), (⟨#[100]⟩ : ByteArray)⟩ : Fact)))), _, (hST.sublist (List.Sublist.refl _)), e662, rfl, hm679⟩)
                  · replace hm678 := if_f hb666 hm678
                    refine PX_no 45 rfl (by kernel_rfl) rfl rfl (by decide) (congrArg Value.bool hb666) rfl (by decide) (fun _ _ h => h) hS0 ?_
                    refine PX_no 46 rfl (by kernel_rfl) rfl rfl (by decide) (congrArg Value.bool hb666) rfl (by decide) (fun _ _ h => h) hS0 ?_
                    refine PX_no 47 rfl (by kernel_rfl) rfl rfl (by decide) (congrArg Value.bool hb666) rfl (by decide) (fun _ _ h => h) hS0 ?_
                    refine PX_no 48 rfl (by kernel_rfl) rfl rfl (by decide) (congrArg Value.bool hb666) rfl (by decide) (fun _ _ h => h) hS0 ?_
                    refine PX_no 49 rfl (by kernel_rfl) rfl rfl (by decide) (congrArg Value.bool hb666) rfl (by decide) (fun _ _ h => h) hS0 ?_
                    refine PX_no 50 rfl (by kernel_rfl) rfl rfl (by decide) (congrArg Value.bool hb666) rfl (by decide) (fun _ _ h => h) hS0 ?_
                    refine PV 51 rfl hS0 (R_pickF (v := (.bool false)) (congrArg Value.bool hb666) rfl) ?_
                    replace hm678 := Option.some.inj hm678; subst hm678
                    refine PX_at (by kernel_rfl) (key680 _ _ ⟨false, _, (hST.sublist (List.Sublist.refl _)), e662, rfl, hm679⟩)
              · rcases bool_cases x650 with hb658 | hb658
                · replace hm687 := if_t hb658 hm687
                  refine PX_v 40 rfl (by kernel_rfl) (.inr ⟨39, true, 66, rfl, rfl, by decide, (congrArg Value.bool hb658)⟩) rfl (by decide) (fun _ _ h => h) hS0 (fun _ _ _ _ => R_move (v := v80) e656) ?_
                  refine PX_v 41 rfl (by kernel_rfl) (.inr ⟨39, true, 66, rfl, rfl, by decide, (congrArg Value.bool hb658)⟩) rfl (by decide) (fun _ _ h => h) hS0 (fun _ _ _ _ => R_lenRow Try.underlying28 rfl hR82) ?_
                  refine PX_v 42 rfl (by kernel_rfl) (.inr ⟨39, true, 66, rfl, rfl, by decide, (congrArg Value.bool hb658)⟩) rfl (by decide) (fun _ _ h => h) hS0 (fun _ _ _ _ => R_int (k := .i64) (a := ((r75.length : Int))) (b := 1) (v := (.bool ((((r75.length : Int)) == 1)))) rfl rfl rfl) ?_
                  refine PV 43 rfl hS0 (R_pickT (v := (.bool ((((r75.length : Int)) == 1)))) (congrArg Value.bool hb658) rfl) ?_
                  replace hm687 := Option.some.inj hm687; subst hm687
                  refine PX_at (by kernel_rfl) (key689 _ _ ⟨((((r75.length : Int)) == 1)), _, (hST.sublist (List.Sublist.refl _)), e654, e655, e656, rfl, hm688⟩)
                · replace hm687 := if_f hb658 hm687
                  refine PX_no 40 rfl (by kernel_rfl) rfl rfl (by decide) (congrArg Value.bool hb658) rfl (by decide) (fun _ _ h => h) hS0 ?_
                  refine PX_no 41 rfl (by kernel_rfl) rfl rfl (by decide) (congrArg Value.bool hb658) rfl (by decide) (fun _ _ h => h) hS0 ?_
                  refine PX_no 42 rfl (by kernel_rfl) rfl rfl (by decide) (congrArg Value.bool hb658) rfl (by decide) (fun _ _ h => h) hS0 ?_
                  refine PV 43 rfl hS0 (R_pickF (v := (.bool false)) (congrArg Value.bool hb658) rfl) ?_
                  replace hm687 := Option.some.inj hm687; subst hm687
                  refine PX_at (by kernel_rfl) (key689 _ _ ⟨false, _, (hST.sublist (List.Sublist.refl _)), e654, e655, e656, rfl, hm688⟩)
            · rcases bool_cases x615 with hb625 | hb625
              · replace hm691 := if_t hb625 hm691
                refine PX_v 33 rfl (by kernel_rfl) (.inr ⟨32, true, 59, rfl, rfl, by decide, (congrArg Value.bool hb625)⟩) rfl (by decide) (fun _ _ h => h) hS0 (fun _ _ _ _ => R_move (v := (.pointer (some ⟨b33, 0, none⟩))) e622) ?_
                refine PX_v 34 rfl (by kernel_rfl) (.inr ⟨32, true, 59, rfl, rfl, by decide, (congrArg Value.bool hb625)⟩) rfl (by decide) (fun _ _ h => h) hS0 (fun l W hpd hs => have hS := hs; R_load (v := (.agg (encCred ((⟨2, (⟨(⟨#[97]⟩ : ByteArray), (⟨#[114]⟩ : ByteArray)⟩ : Role), zS, (⟨(⟨#[98]⟩ : ByteArray), (⟨#[115]⟩ : ByteArray)⟩ : Role), (⟨zS, zS⟩ : Role), zS⟩ : Cred))).toArray)) e621 (load_boxA hS (.head _) (encCred ((⟨2, (⟨(⟨#[97]⟩ : ByteArray), (⟨#[114]⟩ : ByteArray)⟩ : Role), zS, (⟨(⟨#[98]⟩ : ByteArray), (⟨#[115]⟩ : ByteArray)⟩ : Role), (⟨zS, zS⟩ : Role), zS⟩ : Cred))) rfl Try.isAgg36 Try.sizeOf36)) ?_
                refine PX_e 35 rfl (by kernel_rfl) (.inr ⟨32, true, 59, rfl, rfl, by decide, (congrArg Value.bool hb625)⟩) rfl (by decide) (E_buildSlice (qs := #[(0, (.agg (encCred ((⟨2, (⟨(⟨#[97]⟩ : ByteArray), (⟨#[114]⟩ : ByteArray)⟩ : Role), zS, (⟨(⟨#[98]⟩ : ByteArray), (⟨#[115]⟩ : ByteArray)⟩ : Role), (⟨zS, zS⟩ : Role), zS⟩ : Cred))).toArray))]) (cs := (encCred ((⟨2, (⟨(⟨#[97]⟩ : ByteArray), (⟨#[114]⟩ : ByteArray)⟩ : Role), zS, (⟨(⟨#[98]⟩ : ByteArray), (⟨#[115]⟩ : ByteArray)⟩ : Role), (⟨zS, zS⟩ : Role), zS⟩ : Cred))).toArray) hST (parts1 rfl) (run_lit [(.agg (encCred ((⟨2, (⟨(⟨#[97]⟩ : ByteArray), (⟨#[114]⟩ : ByteArray)⟩ : Role), zS, (⟨(⟨#[98]⟩ : ByteArray), (⟨#[115]⟩ : ByteArray)⟩ : Role), (⟨zS, zS⟩ : Role), zS⟩ : Cred))).toArray)] Try.underlying24 Try.sizeOf36 Try.zeroValue36 (by decide) rfl (by intro v hv; simp only [List.mem_cons, List.not_mem_nil, or_false] at hv; rcases hv with rfl <;> rfl) rfl rfl) (fun W695 b694 hST => ?_))
                have hS0 : Has μ78 ((b19, Obj.cells ((encCred ((⟨2, (⟨(⟨#[97]⟩ : ByteArray), (⟨#[114]⟩ : ByteArray)⟩ : Role), zS, (⟨(⟨#[98]⟩ : ByteArray), (⟨#[115]⟩ : ByteArray)⟩ : Role), (⟨zS, zS⟩ : Role), zS⟩ : Cred))).toArray : Array Value) 36 (0, 0)) :: ((b1, Obj.cells ((encRole ((⟨(⟨#[97]⟩ : ByteArray), (⟨#[114]⟩ : ByteArray)⟩ : Role))).toArray : Array Value) 34 (0, 0)) :: (R81 ++ []))) _ := hST.has.sub ((hle578.trans hle598).trans hle618) (fun p hq => ((List.mem_cons.1 hq).elim (fun hq => by rw [hq]; exact (.tail _ (.tail _ (.head _)))) (fun hq => ((List.mem_cons.1 hq).elim (fun hq => by rw [hq]; exact (.tail _ (.tail _ (.tail _ (.head _))))) (fun hq => ((List.mem_append.1 hq).elim (fun hq => (.tail _ (.tail _ (.tail _ (.tail _ (List.mem_append_left _ hq)))))) (fun hq => (absurd hq List.not_mem_nil))))))))
                refine ⟨hS0, ?_⟩
                obtain ⟨r696, hr697, hm691⟩ := bind_some hm691
                replace hST : ST false NoF w _ _ ((b33, Obj.cells (#[y34, y62, y40, y43, y69, (.int .i64 r52.2.2.2.2.2.2)] : Array Value) 53 (0, 0)) :: (S60 ++ (S63 ++ (S65 ++ (S67 ++ (S70 ++ ((b694, Obj.cells ((encCred ((⟨2, (⟨(⟨#[97]⟩ : ByteArray), (⟨#[114]⟩ : ByteArray)⟩ : Role), zS, (⟨(⟨#[98]⟩ : ByteArray), (⟨#[115]⟩ : ByteArray)⟩ : Role), (⟨zS, zS⟩ : Role), zS⟩ : Cred))).toArray : Array Value) 36 (0, 0)) :: ((b19, Obj.cells ((encCred ((⟨2, (⟨(⟨#[97]⟩ : ByteArray), (⟨#[114]⟩ : ByteArray)⟩ : Role), zS, (⟨(⟨#[98]⟩ : ByteArray), (⟨#[115]⟩ : ByteArray)⟩ : Role), (⟨zS, zS⟩ : Role), zS⟩ : Cred))).toArray : Array Value) 36 (0, 0)) :: ((b1, Obj.cells ((encRole ((⟨(⟨#[97]⟩ : ByteArray), (⟨#[114]⟩ : ByteArray)⟩ : Role))).toArray : Array Value) 34 (0, 0)) :: (R81 ++ L616)))))))))) := hST.perm (permD [[(b694, Obj.cells ((encCred ((⟨2, (⟨(⟨#[97]⟩ : ByteArray), (⟨#[114]⟩ : ByteArray)⟩ : Role), zS, (⟨(⟨#[98]⟩ : ByteArray), (⟨#[115]⟩ : ByteArray)⟩ : Role), (⟨zS, zS⟩ : Role), zS⟩ : Cred))).toArray : Array Value) 36 (0, 0))], [(b33, Obj.cells (#[y34, y62, y40, y43, y69, (.int .i64 r52.2.2.2.2.2.2)] : Array Value) 53 (0, 0))], [(b19, Obj.cells ((encCred ((⟨2, (⟨(⟨#[97]⟩ : ByteArray), (⟨#[114]⟩ : ByteArray)⟩ : Role), zS, (⟨(⟨#[98]⟩ : ByteArray), (⟨#[115]⟩ : ByteArray)⟩ : Role), (⟨zS, zS⟩ : Role), zS⟩ : Cred))).toArray : Array Value) 36 (0, 0))], [(b1, Obj.cells ((encRole ((⟨(⟨#[97]⟩ : ByteArray), (⟨#[114]⟩ : ByteArray)⟩ : Role))).toArray : Array Value) 34 (0, 0))], R81, S60, S63, S65, S67, S70] [0, 1, 2, 3, 4, 5, 6, 7, 8, 9] [1, 5, 6, 7, 8, 9, 0, 2, 3, 4] L616 (by decide) rfl rfl)
                have hsz := hST.size
                refine PX_e 36 rfl (by kernel_rfl) (.inr ⟨32, true, 59, rfl, rfl, by decide, (congrArg Value.bool hb625)⟩) rfl (by decide) (E_callM (args := [(.pointer (some ⟨b33, 0, none⟩)), (.slice (some ⟨b694, 0, none⟩) 1 1)]) (caps := #[]) (((b33, Obj.cells (#[y34, y62, y40, y43, y69, (.int .i64 r52.2.2.2.2.2.2)] : Array Value) 53 (0, 0)) :: (S60 ++ (S63 ++ (S65 ++ (S67 ++ (S70 ++ []))))))) (((b694, Obj.cells ((encCred ((⟨2, (⟨(⟨#[97]⟩ : ByteArray), (⟨#[114]⟩ : ByteArray)⟩ : Role), zS, (⟨(⟨#[98]⟩ : ByteArray), (⟨#[115]⟩ : ByteArray)⟩ : Role), (⟨zS, zS⟩ : Role), zS⟩ : Cred))).toArray : Array Value) 36 (0, 0)) :: ((b19, Obj.cells ((encCred ((⟨2, (⟨(⟨#[97]⟩ : ByteArray), (⟨#[114]⟩ : ByteArray)⟩ : Role), zS, (⟨(⟨#[98]⟩ : ByteArray), (⟨#[115]⟩ : ByteArray)⟩ : Role), (⟨zS, zS⟩ : Role), zS⟩ : Cred))).toArray : Array Value) 36 (0, 0)) :: ((b1, Obj.cells ((encRole ((⟨(⟨#[97]⟩ : ByteArray), (⟨#[114]⟩ : ByteArray)⟩ : Role))).toArray : Array Value) 34 (0, 0)) :: (R81 ++ L616))))) hST (by simp only [List.append_assoc, List.cons_append, List.nil_append]; exact List.Perm.refl _) rfl Try.call9 (by exact args2 rfl rfl) (fun hH hN hsb hmm => (w_model_Model_Add_w b33 y34 r52.2.1 S60 y62 r52.2.2.1 S63 y40 r52.2.2.2.1 S65 y43 r52.2.2.2.2.1 S67 y69 r52.2.2.2.2.2.1 S70 r52.2.2.2.2.2.2 (.slice (some ⟨b694, 0, none⟩) 1 1) ([(⟨2, (⟨(⟨#[97]⟩ : ByteArray), (⟨#[114]⟩ : ByteArray)⟩ : Role), zS, (⟨(⟨#[98]⟩ : ByteArray), (⟨#[115]⟩ : ByteArray)⟩ : Role), (⟨zS, zS⟩ : Role), zS⟩ : Cred)]) _ _ hH hN (Sub.refl _) hy61 hy64 hy66 hy68 hy71 (Sl.lit (enc := encCred) (l := [(⟨2, (⟨(⟨#[97]⟩ : ByteArray), (⟨#[114]⟩ : ByteArray)⟩ : Role), zS, (⟨(⟨#[98]⟩ : ByteArray), (⟨#[115]⟩ : ByteArray)⟩ : Role), (⟨zS, zS⟩ : Role), zS⟩ : Cred)]) lenCred rfl (Nat.le_of_ble_eq_true rfl) rfl (hmm _ _ (.head _))) hr697)) (fun W698 v701 μ699 L703 hST hle700 hlift hK702 => ?_))
                obtain ⟨S704, y706, S707, S709, S711, y713, S714, hv716, rfl, hy705, hy708, hy710, hy712, hy715⟩ := hK702
                replace hv716 := hv716.symm; subst hv716
                simp only [List.append_assoc, List.cons_append, List.nil_append] at hST
                replace hST : ST false NoF w _ _ ((b33, Obj.cells (#[y34, y706, y40, y43, y713, (.int .i64 (r696.2.2.2.2.2.2))] : Array Value) 53 (0, 0)) :: ((b694, Obj.cells ((encCred ((⟨2, (⟨(⟨#[97]⟩ : ByteArray), (⟨#[114]⟩ : ByteArray)⟩ : Role), zS, (⟨(⟨#[98]⟩ : ByteArray), (⟨#[115]⟩ : ByteArray)⟩ : Role), (⟨zS, zS⟩ : Role), zS⟩ : Cred))).toArray : Array Value) 36 (0, 0)) :: ((b19, Obj.cells ((encCred ((⟨2, (⟨(⟨#[97]⟩ : ByteArray), (⟨#[114]⟩ : ByteArray)⟩ : Role), zS, (⟨(⟨#[98]⟩ : ByteArray), (⟨#[115]⟩ : ByteArray)⟩ : Role), (⟨zS, zS⟩ : Role), zS⟩ : Cred))).toArray : Array Value) 36 (0, 0)) :: ((b1, Obj.cells ((encRole ((⟨(⟨#[97]⟩ : ByteArray), (⟨#[114]⟩ : ByteArray)⟩ : Role))).toArray : Array Value) 34 (0, 0)) :: (S704 ++ (S707 ++ (S709 ++ (S711 ++ (S714 ++ (R81 ++ L616)))))))))) := hST.perm (permD [[(b33, Obj.cells (#[y34, y706, y40, y43, y713, (.int .i64 (r696.2.2.2.2.2.2))] : Array Value) 53 (0, 0))], S704, S707, S709, S711, S714, [(b694, Obj.cells ((encCred ((⟨2, (⟨(⟨#[97]⟩ : ByteArray), (⟨#[114]⟩ : ByteArray)⟩ : Role), zS, (⟨(⟨#[98]⟩ : ByteArray), (⟨#[115]⟩ : ByteArray)⟩ : Role), (⟨zS, zS⟩ : Role), zS⟩ : Cred))).toArray : Array Value) 36 (0, 0))], [(b19, Obj.cells ((encCred ((⟨2, (⟨(⟨#[97]⟩ : ByteArray), (⟨#[114]⟩ : ByteArray)⟩ : Role), zS, (⟨(⟨#[98]⟩ : ByteArray), (⟨#[115]⟩ : ByteArray)⟩ : Role), (⟨zS, zS⟩ : Role), zS⟩ : Cred))).toArray : Array Value) 36 (0, 0))], [(b1, Obj.cells ((encRole ((⟨(⟨#[97]⟩ : ByteArray), (⟨#[114]⟩ : ByteArray)⟩ : Role))).toArray : Array Value) 34 (0, 0))]] [0, 1, 2, 3, 4, 5, 6, 7, 8] [0, 6, 7, 8, 1, 2, 3, 4, 5] ((R81 ++ L616)) (by decide) rfl rfl)
                have hS0 : Has μ78 ((b19, Obj.cells ((encCred ((⟨2, (⟨(⟨#[97]⟩ : ByteArray), (⟨#[114]⟩ : ByteArray)⟩ : Role), zS, (⟨(⟨#[98]⟩ : ByteArray), (⟨#[115]⟩ : ByteArray)⟩ : Role), (⟨zS, zS⟩ : Role), zS⟩ : Cred))).toArray : Array Value) 36 (0, 0)) :: ((b1, Obj.cells ((encRole ((⟨(⟨#[97]⟩ : ByteArray), (⟨#[114]⟩ : ByteArray)⟩ : Role))).toArray : Array Value) 34 (0, 0)) :: (R81 ++ []))) _ := hST.has.sub (((hle578.trans hle598).trans hle618).trans hle700) (fun p hq => ((List.mem_cons.1 hq).elim (fun hq => by rw [hq]; exact (.tail _ (.tail _ (.head _)))) (fun hq => ((List.mem_cons.1 hq).elim (fun hq => by rw [hq]; exact (.tail _ (.tail _ (.tail _ (.head _))))) (fun hq => ((List.mem_append.1 hq).elim (fun hq => (.tail _ (.tail _ (.tail _ (.tail _ (List.mem_append_right _ (List.mem_append_right _ (List.mem_append_right _ (List.mem_append_right _ (List.mem_append_right _ (List.mem_append_left _ hq))))))))))) (fun hq => (absurd hq List.not_mem_nil))))))))
                refine ⟨hS0, ?_⟩
                refine PX_v 37 rfl (by kernel_rfl) (.inr ⟨32, true, 59, rfl, rfl, by decide, (congrArg Value.bool hb625)⟩) rfl (by decide) (fun _ _ h => h) hS0 (fun _ _ _ _ => R_int (k := .i64) (a := r696.1) (b := 0) (v := (.bool ((r696.1 == 0)))) rfl rfl rfl) ?_
                refine PV 38 rfl hS0 (R_pickT (v := (.bool ((r696.1 == 0)))) (congrArg Value.bool hb625) rfl) ?_
                replace hm691 := Option.some.inj hm691; subst hm691
                refine PX_at (by kernel_rfl) (key693 _ _ ⟨((r696.1 == 0)), μ699, _, hle700, (hST.sublist (List.Sublist.cons _ (List.Sublist.cons _ (List.Sublist.cons_cons _ (List.Sublist.cons_cons _ ((((((List.Sublist.refl _).trans (List.sublist_append_right _ _)).trans (List.sublist_append_right _ _)).trans (List.sublist_append_right _ _)).trans (List.sublist_append_right _ _)).trans (List.sublist_append_right _ _))))))), e619, e620, e623, rfl, hm692⟩)
              · replace hm691 := if_f hb625 hm691
                refine PX_no 33 rfl (by kernel_rfl) rfl rfl (by decide) (congrArg Value.bool hb625) rfl (by decide) (fun _ _ h => h) hS0 ?_
                refine PX_no 34 rfl (by kernel_rfl) rfl rfl (by decide) (congrArg Value.bool hb625) rfl (by decide) (fun _ _ h => h) hS0 ?_
                refine PX_no 35 rfl (by kernel_rfl) rfl rfl (by decide) (congrArg Value.bool hb625) rfl (by decide) (fun _ _ h => h) hS0 ?_
                refine PX_no 36 rfl (by kernel_rfl) rfl rfl (by decide) (congrArg Value.bool hb625) rfl (by decide) (fun _ _ h => h) hS0 ?_
                refine PX_no 37 rfl (by kernel_rfl) rfl rfl (by decide) (congrArg Value.bool hb625) rfl (by decide) (fun _ _ h => h) hS0 ?_
                refine PV 38 rfl hS0 (R_pickF (v := (.bool false)) (congrArg Value.bool hb625) rfl) ?_
                replace hm691 := Option.some.inj hm691; subst hm691
                refine PX_at (by kernel_rfl) (key693 _ _ ⟨false, μ614, _, (Sub.refl _), (hST.sublist (List.Sublist.cons _ (List.Sublist.cons_cons _ (List.Sublist.cons_cons _ (List.Sublist.append (List.Sublist.refl _) ((((((List.Sublist.refl _).trans (List.sublist_append_right _ _)).trans (List.sublist_append_right _ _)).trans (List.sublist_append_right _ _)).trans (List.sublist_append_right _ _)).trans (List.sublist_append_right _ _))))))), e619, e620, e623, rfl, hm692⟩)
          · rcases bool_cases x595 with hb605 | hb605
            · replace hm718 := if_t hb605 hm718
              refine PX_v 27 rfl (by kernel_rfl) (.inr ⟨26, true, 53, rfl, rfl, by decide, (congrArg Value.bool hb605)⟩) rfl (by decide) (fun _ _ h => h) hS0 (fun _ _ _ _ => R_move (v := (.pointer (some ⟨b33, 0, none⟩))) e602) ?_
              obtain ⟨r721, hr722, hm718⟩ := bind_some hm718
              refine PX_e 28 rfl (by kernel_rfl) (.inr ⟨26, true, 53, rfl, rfl, by decide, (congrArg Value.bool hb605)⟩) rfl (by decide) (E_givesRow (args := [(.pointer (some ⟨b33, 0, none⟩))]) [_, _, _] _ hST rfl Try.call11 (by exact args1 rfl) (GivesRow.weak (w_model_Model_Facts b33 y34 r52.2.1 y62 r52.2.2.1 y40 r52.2.2.2.1 y43 r52.2.2.2.2.1 y69 r52.2.2.2.2.2.1 r52.2.2.2.2.2.2 _ _ (hy61.at (fun b o hq => hST.at_ (.tail _ (.tail _ (.tail _ (List.mem_append_right _ (List.mem_append_left _ hq))))))) (hy64.sl lenCred (fun b o hq => hST.at_ (.tail _ (.tail _ (.tail _ (List.mem_append_right _ (List.mem_append_right _ (List.mem_append_left _ hq)))))))) (hy66.at (fun b o hq => hST.at_ (.tail _ (.tail _ (.tail _ (List.mem_append_right _ (List.mem_append_right _ (List.mem_append_right _ (List.mem_append_left _ hq))))))))) (hy68.at (fun b o hq => hST.at_ (.tail _ (.tail _ (.tail _ (List.mem_append_right _ (List.mem_append_right _ (List.mem_append_right _ (List.mem_append_right _ (List.mem_append_left _ hq)))))))))) ((hy71.slL lenFact).mono (Pl.mono _) (memL_held (fun b o hq => hST.at_ (.tail _ (.tail _ (.tail _ (List.mem_append_right _ (List.mem_append_right _ (List.mem_append_right _ (List.mem_append_right _ (List.mem_append_right _ (List.mem_append_left _ hq)))))))))))) (At.of (hST.at_ (.head _)) _ rfl) hr722)) (fun W723 v726 μ724 R727 hST hle725 hR728 => ?_))
              replace hST : ST false NoF w _ _ ((b33, Obj.cells (#[y34, y62, y40, y43, y69, (.int .i64 r52.2.2.2.2.2.2)] : Array Value) 53 (0, 0)) :: ((b19, Obj.cells ((encCred ((⟨2, (⟨(⟨#[97]⟩ : ByteArray), (⟨#[114]⟩ : ByteArray)⟩ : Role), zS, (⟨(⟨#[98]⟩ : ByteArray), (⟨#[115]⟩ : ByteArray)⟩ : Role), (⟨zS, zS⟩ : Role), zS⟩ : Cred))).toArray : Array Value) 36 (0, 0)) :: ((b1, Obj.cells ((encRole ((⟨(⟨#[97]⟩ : ByteArray), (⟨#[114]⟩ : ByteArray)⟩ : Role))).toArray : Array Value) 34 (0, 0)) :: (R727 ++ (R81 ++ (S60 ++ (S63 ++ (S65 ++ (S67 ++ (S70 ++ L596)))))))))) := hST
              have hS0 : Has μ78 ((b19, Obj.cells ((encCred ((⟨2, (⟨(⟨#[97]⟩ : ByteArray), (⟨#[114]⟩ : ByteArray)⟩ : Role), zS, (⟨(⟨#[98]⟩ : ByteArray), (⟨#[115]⟩ : ByteArray)⟩ : Role), (⟨zS, zS⟩ : Role), zS⟩ : Cred))).toArray : Array Value) 36 (0, 0)) :: ((b1, Obj.cells ((encRole ((⟨(⟨#[97]⟩ : ByteArray), (⟨#[114]⟩ : ByteArray)⟩ : Role))).toArray : Array Value) 34 (0, 0)) :: (R81 ++ []))) _ := hST.has.sub ((hle578.trans hle598).trans hle725) (fun p hq => ((List.mem_cons.1 hq).elim (fun hq => by rw [hq]; exact (.tail _ (.head _))) (fun hq => ((List.mem_cons.1 hq).elim (fun hq => by rw [hq]; exact (.tail _ (.tail _ (.head _)))) (fun hq => ((List.mem_append.1 hq).elim (fun hq => (.tail _ (.tail _ (.tail _ (List.mem_append_right _ (List.mem_append_left _ hq)))))) (fun hq => (absurd hq List.not_mem_nil))))))))
              refine ⟨hS0, ?_⟩
              refine PX_v 29 rfl (by kernel_rfl) (.inr ⟨26, true, 53, rfl, rfl, by decide, (congrArg Value.bool hb605)⟩) rfl (by decide) (fun _ _ h => h) hS0 (fun _ _ _ _ => R_lenRow Try.underlying28 rfl hR728) ?_
              refine PX_v 30 rfl (by kernel_rfl) (.inr ⟨26, true, 53, rfl, rfl, by decide, (congrArg Value.bool hb605)⟩) rfl (by decide) (fun _ _ h => h) hS0 (fun _ _ _ _ => R_int (k := .i64) (a := ((r721.length : Int))) (b := 2) (v := (.bool ((((r721.length : Int)) == 2)))) rfl rfl rfl) ?_
              refine PV 31 rfl hS0 (R_pickT (v := (.bool ((((r721.length : Int)) == 2)))) (congrArg Value.bool hb605) rfl) ?_
              replace hm718 := Option.some.inj hm718; subst hm718
              refine PX_at (by kernel_rfl) (key720 _ _ ⟨((((r721.length : Int)) == 2)), μ724, _, hle725, (hST.sublist (List.Sublist.cons_cons _ (List.Sublist.cons_cons _ (List.Sublist.cons_cons _ ((List.Sublist.refl _).trans (List.sublist_append_right _ _)))))), e599, e600, e601, e602, e603, rfl, hm719⟩)
            · replace hm718 := if_f hb605 hm718
              refine PX_no 27 rfl (by kernel_rfl) rfl rfl (by decide) (congrArg Value.bool hb605) rfl (by decide) (fun _ _ h => h) hS0 ?_
              refine PX_no 28 rfl (by kernel_rfl) rfl rfl (by decide) (congrArg Value.bool hb605) rfl (by decide) (fun _ _ h => h) hS0 ?_
              refine PX_no 29 rfl (by kernel_rfl) rfl rfl (by decide) (congrArg Value.bool hb605) rfl (by decide) (fun _ _ h => h) hS0 ?_
              refine PX_no 30 rfl (by kernel_rfl) rfl rfl (by decide) (congrArg Value.bool hb605) rfl (by decide) (fun _ _ h => h) hS0 ?_
              refine PV 31 rfl hS0 (R_pickF (v := (.bool false)) (congrArg Value.bool hb605) rfl) ?_
              replace hm718 := Option.some.inj hm718; subst hm718
              refine PX_at (by kernel_rfl) (key720 _ _ ⟨false, μ594, _, (Sub.refl _), (hST.sublist (List.Sublist.refl _)), e599, e600, e601, e602, e603, rfl, hm719⟩)
        · rcases bool_cases x575 with hb585 | hb585
          · replace hm730 := if_t hb585 hm730
            refine PX_v 21 rfl (by kernel_rfl) (.inr ⟨20, true, 47, rfl, rfl, by decide, (congrArg Value.bool hb585)⟩) rfl (by decide) (fun _ _ h => h) hS0 (fun _ _ _ _ => R_move (v := (.pointer (some ⟨b33, 0, none⟩))) e582) ?_
            obtain ⟨r733, hr734, hm730⟩ := bind_some hm730
            refine PX_e 22 rfl (by kernel_rfl) (.inr ⟨20, true, 47, rfl, rfl, by decide, (congrArg Value.bool hb585)⟩) rfl (by decide) (E_givesRow (args := [(.pointer (some ⟨b33, 0, none⟩)), (.string ((⟨#[100]⟩ : ByteArray)))]) [_, _, _] _ hST rfl Try.call18 (by exact args2 rfl rfl) (GivesRow.weak (w_model_Model_Roles b33 y34 r52.2.1 y62 r52.2.2.1 y40 r52.2.2.2.1 y43 r52.2.2.2.2.1 y69 r52.2.2.2.2.2.1 r52.2.2.2.2.2.2 ((⟨#[100]⟩ : ByteArray)) _ _ (hy61.at (fun b o hq => hST.at_ (.tail _ (.tail _ (.tail _ (List.mem_append_right _ (List.mem_append_left _ hq))))))) (hy64.sl lenCred (fun b o hq => hST.at_ (.tail _ (.tail _ (.tail _ (List.mem_append_right _ (List.mem_append_right _ (List.mem_append_left _ hq)))))))) (hy66.at (fun b o hq => hST.at_ (.tail _ (.tail _ (.tail _ (List.mem_append_right _ (List.mem_append_right _ (List.mem_append_right _ (List.mem_append_left _ hq))))))))) (hy68.at (fun b o hq => hST.at_ (.tail _ (.tail _ (.tail _ (List.mem_append_right _ (List.mem_append_right _ (List.mem_append_right _ (List.mem_append_right _ (List.mem_append_left _ hq)))))))))) ((hy71.slL lenFact).mono (Pl.mono _) (memL_held (fun b o hq => hST.at_ (.tail _ (.tail _ (.tail _ (List.mem_append_right _ (List.mem_append_right _ (List.mem_append_right _ (List.mem_append_right _ (List.mem_append_right _ (List.mem_append_left _ hq)))))))))))) (At.of (hST.at_ (.head _)) _ rfl) hr734)) (fun W735 v738 μ736 R739 hST hle737 hR740 => ?_))
            replace hST : ST false NoF w _ _ ((b33, Obj.cells (#[y34, y62, y40, y43, y69, (.int .i64 r52.2.2.2.2.2.2)] : Array Value) 53 (0, 0)) :: ((b19, Obj.cells ((encCred ((⟨2, (⟨(⟨#[97]⟩ : ByteArray), (⟨#[114]⟩ : ByteArray)⟩ : Role), zS, (⟨(⟨#[98]⟩ : ByteArray), (⟨#[115]⟩ : ByteArray)⟩ : Role), (⟨zS, zS⟩ : Role), zS⟩ : Cred))).toArray : Array Value) 36 (0, 0)) :: ((b1, Obj.cells ((encRole ((⟨(⟨#[97]⟩ : ByteArray), (⟨#[114]⟩ : ByteArray)⟩ : Role))).toArray : Array Value) 34 (0, 0)) :: (R739 ++ (R81 ++ (S60 ++ (S63 ++ (S65 ++ (S67 ++ (S70 ++ L576)))))))))) := hST
            have hS0 : Has μ78 ((b19, Obj.cells ((encCred ((⟨2, (⟨(⟨#[97]⟩ : ByteArray), (⟨#[114]⟩ : ByteArray)⟩ : Role), zS, (⟨(⟨#[98]⟩ : ByteArray), (⟨#[115]⟩ : ByteArray)⟩ : Role), (⟨zS, zS⟩ : Role), zS⟩ : Cred))).toArray : Array Value) 36 (0, 0)) :: ((b1, Obj.cells ((encRole ((⟨(⟨#[97]⟩ : ByteArray), (⟨#[114]⟩ : ByteArray)⟩ : Role))).toArray : Array Value) 34 (0, 0)) :: (R81 ++ []))) _ := hST.has.sub (hle578.trans hle737) (fun p hq => ((List.mem_cons.1 hq).elim (fun hq => by rw [hq]; exact (.tail _ (.head _))) (fun hq => ((List.mem_cons.1 hq).elim (fun hq => by rw [hq]; exact (.tail _ (.tail _ (.head _)))) (fun hq => ((List.mem_append.1 hq).elim (fun hq => (.tail _ (.tail _ (.tail _ (List.mem_append_right _ (List.mem_append_left _ hq)))))) (fun hq => (absurd hq List.not_mem_nil))))))))
            refine ⟨hS0, ?_⟩
            refine PX_v 23 rfl (by kernel_rfl) (.inr ⟨20, true, 47, rfl, rfl, by decide, (congrArg Value.bool hb585)⟩) rfl (by decide) (fun _ _ h => h) hS0 (fun _ _ _ _ => R_lenRow Try.underlying47 rfl hR740) ?_
            refine PX_v 24 rfl (by kernel_rfl) (.inr ⟨20, true, 47, rfl, rfl, by decide, (congrArg Value.bool hb585)⟩) rfl (by decide) (fun _ _ h => h) hS0 (fun _ _ _ _ => R_int (k := .i64) (a := ((r733.length : Int))) (b := 2) (v := (.bool ((((r733.length : Int)) == 2)))) rfl rfl rfl) ?_
            refine PV 25 rfl hS0 (R_pickT (v := (.bool ((((r733.length : Int)) == 2)))) (congrArg Value.bool hb585) rfl) ?_
            replace hm730 := Option.some.inj hm730; subst hm730
            refine PX_at (by kernel_rfl) (key732 _ _ ⟨((((r733.length : Int)) == 2)), μ736, _, hle737, (hST.sublist (List.Sublist.cons_cons _ (List.Sublist.cons_cons _ (List.Sublist.cons_cons _ ((List.Sublist.refl _).trans (List.sublist_append_right _ _)))))), e579, e580, e581, e582, e583, rfl, hm731⟩)
          · replace hm730 := if_f hb585 hm730
            refine PX_no 21 rfl (by kernel_rfl) rfl rfl (by decide) (congrArg Value.bool hb585) rfl (by decide) (fun _ _ h => h) hS0 ?_
            refine PX_no 22 rfl (by kernel_rfl) rfl rfl (by decide) (congrArg Value.bool hb585) rfl (by decide) (fun _ _ h => h) hS0 ?_
            refine PX_no 23 rfl (by kernel_rfl) rfl rfl (by decide) (congrArg Value.bool hb585) rfl (by decide) (fun _ _ h => h) hS0 ?_
            refine PX_no 24 rfl (by kernel_rfl) rfl rfl (by decide) (congrArg Value.bool hb585) rfl (by decide) (fun _ _ h => h) hS0 ?_
            refine PV 25 rfl hS0 (R_pickF (v := (.bool false)) (congrArg Value.bool hb585) rfl) ?_
            replace hm730 := Option.some.inj hm730; subst hm730
            refine PX_at (by kernel_rfl) (key732 _ _ ⟨false, μ574, _, (Sub.refl _), (hST.sublist (List.Sublist.refl _)), e579, e580, e581, e582, e583, rfl, hm731⟩)
      · rcases bool_cases x556 with hb565 | hb565
        · replace hm742 := if_t hb565 hm742
          refine PX_v 14 rfl (by kernel_rfl) (.inr ⟨13, true, 40, rfl, rfl, by decide, (congrArg Value.bool hb565)⟩) rfl (by decide) (fun _ _ h => h) hS0 (fun _ _ _ _ => R_move (v := (.pointer (some ⟨b33, 0, none⟩))) e562) ?_
          refine PX_v 15 rfl (by kernel_rfl) (.inr ⟨13, true, 40, rfl, rfl, by decide, (congrArg Value.bool hb565)⟩) rfl (by decide) (fun _ _ h => h) hS0 (fun l W hpd hs => have hS := hs; R_load (v := (.agg (encRole ((⟨(⟨#[97]⟩ : ByteArray), (⟨#[114]⟩ : ByteArray)⟩ : Role))).toArray)) e560 (load_boxA hS (.tail _ (.head _)) (encRole ((⟨(⟨#[97]⟩ : ByteArray), (⟨#[114]⟩ : ByteArray)⟩ : Role))) rfl Try.isAgg34 Try.sizeOf34)) ?_
          obtain ⟨r745, hr746, hm742⟩ := bind_some hm742
          refine PX_e 16 rfl (by kernel_rfl) (.inr ⟨13, true, 40, rfl, rfl, by decide, (congrArg Value.bool hb565)⟩) rfl (by decide) (E_givesRow (args := [(.pointer (some ⟨b33, 0, none⟩)), (.agg (encRole ((⟨(⟨#[97]⟩ : ByteArray), (⟨#[114]⟩ : ByteArray)⟩ : Role))).toArray)]) [_, _, _] _ hST rfl Try.call17 (by exact args2 rfl rfl) ((w_model_Model_Members b33 y34 r52.2.1 y62 r52.2.2.1 y40 r52.2.2.2.1 y43 r52.2.2.2.2.1 y69 r52.2.2.2.2.2.1 r52.2.2.2.2.2.2 ((⟨(⟨#[97]⟩ : ByteArray), (⟨#[114]⟩ : ByteArray)⟩ : Role)) _ _ (hy61.at (fun b o hq => hST.at_ (.tail _ (.tail _ (.tail _ (List.mem_append_right _ (List.mem_append_left _ hq))))))) (hy64.sl lenCred (fun b o hq => hST.at_ (.tail _ (.tail _ (.tail _ (List.mem_append_right _ (List.mem_append_right _ (List.mem_append_left _ hq)))))))) (hy66.at (fun b o hq => hST.at_ (.tail _ (.tail _ (.tail _ (List.mem_append_right _ (List.mem_append_right _ (List.mem_append_right _ (List.mem_append_left _ hq))))))))) (hy68.at (fun b o hq => hST.at_ (.tail _ (.tail _ (.tail _ (List.mem_append_right _ (List.mem_append_right _ (List.mem_append_right _ (List.mem_append_right _ (List.mem_append_left _ hq)))))))))) ((hy71.slL lenFact).mono (Pl.mono _) (memL_held (fun b o hq => hST.at_ (.tail _ (.tail _ (.tail _ (List.mem_append_right _ (List.mem_append_right _ (List.mem_append_right _ (List.mem_append_right _ (List.mem_append_right _ (List.mem_append_left _ hq)))))))))))) (At.of (hST.at_ (.head _)) _ rfl) hr746)) (fun W747 v750 μ748 R751 hST hle749 hR752 => ?_))
          replace hST : ST false NoF w _ _ ((b33, Obj.cells (#[y34, y62, y40, y43, y69, (.int .i64 r52.2.2.2.2.2.2)] : Array Value) 53 (0, 0)) :: ((b19, Obj.cells ((encCred ((⟨2, (⟨(⟨#[97]⟩ : ByteArray), (⟨#[114]⟩ : ByteArray)⟩ : Role), zS, (⟨(⟨#[98]⟩ : ByteArray), (⟨#[115]⟩ : ByteArray)⟩ : Role), (⟨zS, zS⟩ : Role), zS⟩ : Cred))).toArray : Array Value) 36 (0, 0)) :: ((b1, Obj.cells ((encRole ((⟨(⟨#[97]⟩ : ByteArray), (⟨#[114]⟩ : ByteArray)⟩ : Role))).toArray : Array Value) 34 (0, 0)) :: (R751 ++ (R81 ++ (S60 ++ (S63 ++ (S65 ++ (S67 ++ (S70 ++ L557)))))))))) := hST
          have hS0 : Has μ78 ((b19, Obj.cells ((encCred ((⟨2, (⟨(⟨#[97]⟩ : ByteArray), (⟨#[114]⟩ : ByteArray)⟩ : Role), zS, (⟨(⟨#[98]⟩ : ByteArray), (⟨#[115]⟩ : ByteArray)⟩ : Role), (⟨zS, zS⟩ : Role), zS⟩ : Cred))).toArray : Array Value) 36 (0, 0)) :: ((b1, Obj.cells ((encRole ((⟨(⟨#[97]⟩ : ByteArray), (⟨#[114]⟩ : ByteArray)⟩ : Role))).toArray : Array Value) 34 (0, 0)) :: (R81 ++ []))) _ := hST.has.sub hle749 (fun p hq => ((List.mem_cons.1 hq).elim (fun hq => by rw [hq]; exact (.tail _ (.head _))) (fun hq => ((List.mem_cons.1 hq).elim (fun hq => by rw [hq]; exact (.tail _ (.tail _ (.head _)))) (fun hq => ((List.mem_append.1 hq).elim (fun hq => (.tail _ (.tail _ (.tail _ (List.mem_append_right _ (List.mem_append_left _ hq)))))) (fun hq => (absurd hq List.not_mem_nil))))))))
          refine ⟨hS0, ?_⟩
          refine PX_v 17 rfl (by kernel_rfl) (.inr ⟨13, true, 40, rfl, rfl, by decide, (congrArg Value.bool hb565)⟩) rfl (by decide) (fun _ _ h => h) hS0 (fun _ _ _ _ => R_lenRow Try.underlying37 rfl hR752) ?_
          refine PX_v 18 rfl (by kernel_rfl) (.inr ⟨13, true, 40, rfl, rfl, by decide, (congrArg Value.bool hb565)⟩) rfl (by decide) (fun _ _ h => h) hS0 (fun _ _ _ _ => R_int (k := .i64) (a := ((r745.length : Int))) (b := 1) (v := (.bool ((((r745.length : Int)) == 1)))) rfl rfl rfl) ?_
          refine PV 19 rfl hS0 (R_pickT (v := (.bool ((((r745.length : Int)) == 1)))) (congrArg Value.bool hb565) rfl) ?_
          replace hm742 := Option.some.inj hm742; subst hm742
          refine PX_at (by kernel_rfl) (key744 _ _ ⟨((((r745.length : Int)) == 1)), μ748, _, hle749, (hST.sublist (List.Sublist.cons_cons _ (List.Sublist.cons_cons _ (List.Sublist.cons_cons _ ((List.Sublist.refl _).trans (List.sublist_append_right _ _)))))), e559, e560, e561, e562, e563, rfl, hm743⟩)
        · replace hm742 := if_f hb565 hm742
          refine PX_no 14 rfl (by kernel_rfl) rfl rfl (by decide) (congrArg Value.bool hb565) rfl (by decide) (fun _ _ h => h) hS0 ?_
          refine PX_no 15 rfl (by kernel_rfl) rfl rfl (by decide) (congrArg Value.bool hb565) rfl (by decide) (fun _ _ h => h) hS0 ?_
          refine PX_no 16 rfl (by kernel_rfl) rfl rfl (by decide) (congrArg Value.bool hb565) rfl (by decide) (fun _ _ h => h) hS0 ?_
          refine PX_no 17 rfl (by kernel_rfl) rfl rfl (by decide) (congrArg Value.bool hb565) rfl (by decide) (fun _ _ h => h) hS0 ?_
          refine PX_no 18 rfl (by kernel_rfl) rfl rfl (by decide) (congrArg Value.bool hb565) rfl (by decide) (fun _ _ h => h) hS0 ?_
          refine PV 19 rfl hS0 (R_pickF (v := (.bool false)) (congrArg Value.bool hb565) rfl) ?_
          replace hm742 := Option.some.inj hm742; subst hm742
          refine PX_at (by kernel_rfl) (key744 _ _ ⟨false, μ78, _, (Sub.refl _), (hST.sublist (List.Sublist.refl _)), e559, e560, e561, e562, e563, rfl, hm743⟩)
    · rcases bool_cases x543 with hb552 | hb552
      · replace hm754 := if_t hb552 hm754
        refine PX_v 8 rfl (by kernel_rfl) (.inr ⟨7, true, 34, rfl, rfl, by decide, (congrArg Value.bool hb552)⟩) rfl (by decide) (fun _ _ h => h) hS0 (fun _ _ _ _ => R_move (v := (.pointer (some ⟨b33, 0, none⟩))) e549) ?_
        refine PX_v 9 rfl (by kernel_rfl) (.inr ⟨7, true, 34, rfl, rfl, by decide, (congrArg Value.bool hb552)⟩) rfl (by decide) (fun _ _ h => h) hS0 (fun l W hpd hs => have hS := hs; R_load (v := (.agg (encRole ((⟨(⟨#[97]⟩ : ByteArray), (⟨#[114]⟩ : ByteArray)⟩ : Role))).toArray)) e547 (load_boxA hS (.tail _ (.head _)) (encRole ((⟨(⟨#[97]⟩ : ByteArray), (⟨#[114]⟩ : ByteArray)⟩ : Role))) rfl Try.isAgg34 Try.sizeOf34)) ?_
        obtain ⟨r757, hr758, hm754⟩ := bind_some hm754
        refine PX_e 10 rfl (by kernel_rfl) (.inr ⟨7, true, 34, rfl, rfl, by decide, (congrArg Value.bool hb552)⟩) rfl (by decide) (E_gives (args := [(.pointer (some ⟨b33, 0, none⟩)), (.agg (encRole ((⟨(⟨#[97]⟩ : ByteArray), (⟨#[114]⟩ : ByteArray)⟩ : Role))).toArray), (.string ((⟨#[97]⟩ : ByteArray)))]) hST rfl Try.call15 (by exact args3 rfl rfl rfl) (Gives.weak (w_model_Model_In b33 y34 r52.2.1 y62 r52.2.2.1 y40 r52.2.2.2.1 y43 r52.2.2.2.2.1 y69 r52.2.2.2.2.2.1 r52.2.2.2.2.2.2 ((⟨(⟨#[97]⟩ : ByteArray), (⟨#[114]⟩ : ByteArray)⟩ : Role)) ((⟨#[97]⟩ : ByteArray)) _ _ (hy61.at (fun b o hq => hST.at_ (.tail _ (.tail _ (.tail _ (List.mem_append_right _ (List.mem_append_left _ hq))))))) (hy64.sl lenCred (fun b o hq => hST.at_ (.tail _ (.tail _ (.tail _ (List.mem_append_right _ (List.mem_append_right _ (List.mem_append_left _ hq)))))))) (hy66.at (fun b o hq => hST.at_ (.tail _ (.tail _ (.tail _ (List.mem_append_right _ (List.mem_append_right _ (List.mem_append_right _ (List.mem_append_left _ hq))))))))) (hy68.at (fun b o hq => hST.at_ (.tail _ (.tail _ (.tail _ (List.mem_append_right _ (List.mem_append_right _ (List.mem_append_right _ (List.mem_append_right _ (List.mem_append_left _ hq)))))))))) ((hy71.slL lenFact).mono (Pl.mono _) (memL_held (fun b o hq => hST.at_ (.tail _ (.tail _ (.tail _ (List.mem_append_right _ (List.mem_append_right _ (List.mem_append_right _ (List.mem_append_right _ (List.mem_append_right _ (List.mem_append_left _ hq)))))))))))) (At.of (hST.at_ (.head _)) _ rfl) hr758)) (fun W759 hST => ?_))
        have hS0 : Has μ78 ((b19, Obj.cells ((encCred ((⟨2, (⟨(⟨#[97]⟩ : ByteArray), (⟨#[114]⟩ : ByteArray)⟩ : Role), zS, (⟨(⟨#[98]⟩ : ByteArray), (⟨#[115]⟩ : ByteArray)⟩ : Role), (⟨zS, zS⟩ : Role), zS⟩ : Cred))).toArray : Array Value) 36 (0, 0)) :: ((b1, Obj.cells ((encRole ((⟨(⟨#[97]⟩ : ByteArray), (⟨#[114]⟩ : ByteArray)⟩ : Role))).toArray : Array Value) 34 (0, 0)) :: (R81 ++ []))) _ := hST.has.sub (Sub.refl _) (fun p hq => ((List.mem_cons.1 hq).elim (fun hq => by rw [hq]; exact (.tail _ (.head _))) (fun hq => ((List.mem_cons.1 hq).elim (fun hq => by rw [hq]; exact (.tail _ (.tail _ (.head _)))) (fun hq => ((List.mem_append.1 hq).elim (fun hq => (.tail _ (.tail _ (.tail _ (List.mem_append_left _ hq))))) (fun hq => (absurd hq List.not_mem_nil))))))))
        refine ⟨hS0, ?_⟩
        refine PX_v 11 rfl (by kernel_rfl) (.inr ⟨7, true, 34, rfl, rfl, by decide, (congrArg Value.bool hb552)⟩) rfl (by decide) (fun _ _ h => h) hS0 (fun _ _ _ _ => R_not (b := r757) rfl) ?_
        refine PV 12 rfl hS0 (R_pickT (v := (.bool ((!r757)))) (congrArg Value.bool hb552) rfl) ?_
        replace hm754 := Option.some.inj hm754; subst hm754
        refine PX_at (by kernel_rfl) (key756 _ _ ⟨((!r757)), _, (hST.sublist (List.Sublist.refl _)), e546, e547, e548, e549, e550, rfl, hm755⟩)
      · replace hm754 := if_f hb552 hm754
        refine PX_no 8 rfl (by kernel_rfl) rfl rfl (by decide) (congrArg Value.bool hb552) rfl (by decide) (fun _ _ h => h) hS0 ?_
        refine PX_no 9 rfl (by kernel_rfl) rfl rfl (by decide) (congrArg Value.bool hb552) rfl (by decide) (fun _ _ h => h) hS0 ?_
        refine PX_no 10 rfl (by kernel_rfl) rfl rfl (by decide) (congrArg Value.bool hb552) rfl (by decide) (fun _ _ h => h) hS0 ?_
        refine PX_no 11 rfl (by kernel_rfl) rfl rfl (by decide) (congrArg Value.bool hb552) rfl (by decide) (fun _ _ h => h) hS0 ?_
        refine PV 12 rfl hS0 (R_pickF (v := (.bool false)) (congrArg Value.bool hb552) rfl) ?_
        replace hm754 := Option.some.inj hm754; subst hm754
        refine PX_at (by kernel_rfl) (key756 _ _ ⟨false, _, (hST.sublist (List.Sublist.refl _)), e546, e547, e548, e549, e550, rfl, hm755⟩)
  · rcases bool_cases ((r52.1 == 2)) with hb539 | hb539
    · replace hm761 := if_t hb539 hm761
      refine PX_v 3 rfl (by kernel_rfl) (.inr ⟨2, true, 29, rfl, rfl, by decide, (congrArg Value.bool hb539)⟩) rfl (by decide) (fun _ _ h => h) hS0 (fun _ _ _ _ => R_move (v := (.pointer (some ⟨b33, 0, none⟩))) rfl) ?_
      refine PX_v 4 rfl (by kernel_rfl) (.inr ⟨2, true, 29, rfl, rfl, by decide, (congrArg Value.bool hb539)⟩) rfl (by decide) (fun _ _ h => h) hS0 (fun l W hpd hs => have hS := hs; R_load (v := (.agg (encRole ((⟨(⟨#[97]⟩ : ByteArray), (⟨#[114]⟩ : ByteArray)⟩ : Role))).toArray)) rfl (load_boxA hS (.tail _ (.head _)) (encRole ((⟨(⟨#[97]⟩ : ByteArray), (⟨#[114]⟩ : ByteArray)⟩ : Role))) rfl Try.isAgg34 Try.sizeOf34)) ?_
      obtain ⟨r764, hr765, hm761⟩ := bind_some hm761
      refine PX_e 5 rfl (by kernel_rfl) (.inr ⟨2, true, 29, rfl, rfl, by decide, (congrArg Value.bool hb539)⟩) rfl (by decide) (E_gives (args := [(.pointer (some ⟨b33, 0, none⟩)), (.agg (encRole ((⟨(⟨#[97]⟩ : ByteArray), (⟨#[114]⟩ : ByteArray)⟩ : Role))).toArray), (.string ((⟨#[100]⟩ : ByteArray)))]) hST rfl Try.call15 (by exact args3 rfl rfl rfl) (Gives.weak (w_model_Model_In b33 y34 r52.2.1 y62 r52.2.2.1 y40 r52.2.2.2.1 y43 r52.2.2.2.2.1 y69 r52.2.2.2.2.2.1 r52.2.2.2.2.2.2 ((⟨(⟨#[97]⟩ : ByteArray), (⟨#[114]⟩ : ByteArray)⟩ : Role)) ((⟨#[100]⟩ : ByteArray)) _ _ (hy61.at (fun b o hq => hST.at_ (.tail _ (.tail _ (.tail _ (List.mem_append_right _ (List.mem_append_left _ hq))))))) (hy64.sl lenCred (fun b o hq => hST.at_ (.tail _ (.tail _ (.tail _ (List.mem_append_right _ (List.mem_append_right _ (List.mem_append_left _ hq)))))))) (hy66.at (fun b o hq => hST.at_ (.tail _ (.tail _ (.tail _ (List.mem_append_right _ (List.mem_append_right _ (List.mem_append_right _ (List.mem_append_left _ hq))))))))) (hy68.at (fun b o hq => hST.at_ (.tail _ (.tail _ (.tail _ (List.mem_append_right _ (List.mem_append_right _ (List.mem_append_right _ (List.mem_append_right _ (List.mem_append_left _ hq)))))))))) ((hy71.slL lenFact).mono (Pl.mono _) (memL_held (fun b o hq => hST.at_ (.tail _ (.tail _ (.tail _ (List.mem_append_right _ (List.mem_append_right _ (List.mem_append_right _ (List.mem_append_right _ (List.mem_append_right _ (List.mem_append_left _ hq)))))))))))) (At.of (hST.at_ (.head _)) _ rfl) hr765)) (fun W766 hST => ?_))
      have hS0 : Has μ78 ((b19, Obj.cells ((encCred ((⟨2, (⟨(⟨#[97]⟩ : ByteArray), (⟨#[114]⟩ : ByteArray)⟩ : Role), zS, (⟨(⟨#[98]⟩ : ByteArray), (⟨#[115]⟩ : ByteArray)⟩ : Role), (⟨zS, zS⟩ : Role), zS⟩ : Cred))).toArray : Array Value) 36 (0, 0)) :: ((b1, Obj.cells ((encRole ((⟨(⟨#[97]⟩ : ByteArray), (⟨#[114]⟩ : ByteArray)⟩ : Role))).toArray : Array Value) 34 (0, 0)) :: (R81 ++ []))) _ := hST.has.sub (Sub.refl _) (fun p hq => ((List.mem_cons.1 hq).elim (fun hq => by rw [hq]; exact (.tail _ (.head _))) (fun hq => ((List.mem_cons.1 hq).elim (fun hq => by rw [hq]; exact (.tail _ (.tail _ (.head _)))) (fun hq => ((List.mem_append.1 hq).elim (fun hq => (.tail _ (.tail _ (.tail _ (List.mem_append_left _ hq))))) (fun hq => (absurd hq List.not_mem_nil))))))))
      refine ⟨hS0, ?_⟩
      refine PV 6 rfl hS0 (R_pickT (v := (.bool r764)) (congrArg Value.bool hb539) rfl) ?_
      replace hm761 := Option.some.inj hm761; subst hm761
      refine PX_at (by kernel_rfl) (key763 _ _ ⟨r764, _, (hST.sublist (List.Sublist.refl _)), rfl, rfl, rfl, rfl, rfl, rfl, hm762⟩)
    · replace hm761 := if_f hb539 hm761
      refine PX_no 3 rfl (by kernel_rfl) rfl rfl (by decide) (congrArg Value.bool hb539) rfl (by decide) (fun _ _ h => h) hS0 ?_
      refine PX_no 4 rfl (by kernel_rfl) rfl rfl (by decide) (congrArg Value.bool hb539) rfl (by decide) (fun _ _ h => h) hS0 ?_
      refine PX_no 5 rfl (by kernel_rfl) rfl rfl (by decide) (congrArg Value.bool hb539) rfl (by decide) (fun _ _ h => h) hS0 ?_
      refine PV 6 rfl hS0 (R_pickF (v := (.bool false)) (congrArg Value.bool hb539) rfl) ?_
      replace hm761 := Option.some.inj hm761; subst hm761
      refine PX_at (by kernel_rfl) (key763 _ _ ⟨false, _, (hST.sublist (List.Sublist.refl _)), rfl, rfl, rfl, rfl, rfl, rfl, hm762⟩)
theorem w_law05_Great (v_a0 : Value) (a0 : List Cred) (r : Int) (w : World) (h_a0 : Sl (Pl encCred) 9 (hp w) v_a0 a0) (hm : m_law05_Great a0 = some r) :
    Gives true Try.prog 7 [v_a0] w (.int .i64 r) := by
  have hST := ST.start (dd := true) w
  unfold m_law05_Great at hm
  refine calls_of_CW (n := 54) Try.func7 rfl rfl (Nat.le_of_ble_eq_true rfl) ?_
  refine CW_seq ?_
  refine CW_region ?_
  refine LV (R_assign (v := (.int .i64 0)) rfl) ?_
  refine LW_nil ?_
  refine sq_n ?_
  refine CW_seq ?_
  refine CW_region ?_
  refine LV (R_assign (v := (.int .i64 0)) rfl) ?_
  refine LW_nil ?_
  refine sq_n ?_
  refine CW_seq ?_
  refine CW_seq ?_
  refine CW_region ?_
  refine LV (R_move (v := v_a0) rfl) ?_
  refine LV (R_len Try.underlying24 rfl h_a0) ?_
  refine LV (R_move (v := (.int .i64 0)) rfl) ?_
  refine LW_nil ?_
  refine sq_n ?_
  refine CW_range (fun i E W => ∃ (x47 : Int) (L57 : List (Nat × Obj)), (E 8 = .int .i64 (i : Nat) ∧ E 7 = .int .i64 (a0.length : Nat)) ∧ ST true NoF w W (hp w) L57 ∧ E 3 = (.int .i64 x47) ∧ E 6 = v_a0 ∧ m_law05_Great_L1 (a0.drop i) x47 = some r) a0.length h_a0.len ⟨0, _, ⟨rfl, rfl⟩, (hST.sublist (List.Sublist.refl _)), rfl, rfl, hm⟩ (by decide) (by decide) (by decide) (fun _ _ _ h => by obtain ⟨_, _, eIN, _⟩ := h; exact eIN) ?_ ?_
  · rintro i34 E W hi40 ⟨x47, L57, ⟨eI, eN⟩, hST, e59, e60, hm58⟩
    obtain ⟨x35, xs36, hx38, hx37, hx39⟩ := drop_cons hi40
    rw [hx38] at hm58
    rw [m_law05_Great_L1] at hm58
    refine CW_block ?_
    refine CW_seq ?_
    refine CW_region ?_
    refine LQ (R_indexP (enc := encCred) (i := (i34 : Int)) (x0 := x35) Try.underlying24 Try.sizeOf36 e60 eI h_a0 (Int.natCast_nonneg _) hx37) (fun p61 hp62 => ?_)
    refine LV (R_load rfl (load_atA hST.has hp62 Try.isAgg36 Try.sizeOf36)) ?_
    refine LE (E_alloc hST Try.zeroValue36 (fun W65 b64 hST => ?_))
    refine LW_e0 (.inl rfl) rfl (E_store [] (.agg (encCred x35).toArray) ((encCred x35).toArray) hST rfl rfl Try.sizeOf36 (oneCred x35) (Nat.le_of_ble_eq_true rfl) rfl (fun W66 hST => ?_))
    refine LW_nil ?_
    refine sq_n ?_
    refine CW_region ?_
    refine LV (R_move (v := (.int .i64 x47)) e59) ?_
    refine LV (R_field fa36_1 rfl) ?_
    refine LV (R_field fa34_0 rfl) ?_
    refine LV (R_load (v := (.string x35.Head.Owner)) rfl (load_box1 hST.has (.head _) rfl Try.isAgg9)) ?_
    refine LV (R_lenStr (s := x35.Head.Owner) Try.underlying9 rfl) ?_
    refine LV (R_int (k := .i64) (a := 20) (b := ((x35.Head.Owner.size : Int))) (v := (.int .i64 ((IntKind.i64.wrap (20 + ((x35.Head.Owner.size : Int))))))) rfl rfl rfl) ?_
    refine LV (R_field fa36_1 rfl) ?_
    refine LV (R_field fa34_1 rfl) ?_
    refine LV (R_load (v := (.string x35.Head.Word)) rfl (load_box1 hST.has (.head _) rfl Try.isAgg9)) ?_
    refine LV (R_lenStr (s := x35.Head.Word) Try.underlying9 rfl) ?_
    refine LV (R_int (k := .i64) (a := ((IntKind.i64.wrap (20 + ((x35.Head.Owner.size : Int)))))) (b := ((x35.Head.Word.size : Int))) (v := (.int .i64 ((IntKind.i64.wrap (((IntKind.i64.wrap (20 + ((x35.Head.Owner.size : Int))))) + ((x35.Head.Word.size : Int))))))) rfl rfl rfl) ?_
    refine LV (R_field fa36_2 rfl) ?_
    refine LV (R_load (v := (.string x35.Who)) rfl (load_box1 hST.has (.head _) rfl Try.isAgg9)) ?_
    refine LV (R_lenStr (s := x35.Who) Try.underlying9 rfl) ?_
    refine LV (R_int (k := .i64) (a := ((IntKind.i64.wrap (((IntKind.i64.wrap (20 + ((x35.Head.Owner.size : Int))))) + ((x35.Head.Word.size : Int)))))) (b := ((x35.Who.size : Int))) (v := (.int .i64 ((IntKind.i64.wrap (((IntKind.i64.wrap (((IntKind.i64.wrap (20 + ((x35.Head.Owner.size : Int))))) + ((x35.Head.Word.size : Int))))) + ((x35.Who.size : Int))))))) rfl rfl rfl) ?_
    refine LV (R_field fa36_3 rfl) ?_
    refine LV (R_field fa34_0 rfl) ?_
    refine LV (R_load (v := (.string x35.B.Owner)) rfl (load_box1 hST.has (.head _) rfl Try.isAgg9)) ?_
    refine LV (R_lenStr (s := x35.B.Owner) Try.underlying9 rfl) ?_
    refine LV (R_int (k := .i64) (a := ((IntKind.i64.wrap (((IntKind.i64.wrap (((IntKind.i64.wrap (20 + ((x35.Head.Owner.size : Int))))) + ((x35.Head.Word.size : Int))))) + ((x35.Who.size : Int)))))) (b := ((x35.B.Owner.size : Int))) (v := (.int .i64 ((IntKind.i64.wrap (((IntKind.i64.wrap (((IntKind.i64.wrap (((IntKind.i64.wrap (20 + ((x35.Head.Owner.size : Int))))) + ((x35.Head.Word.size : Int))))) + ((x35.Who.size : Int))))) + ((x35.B.Owner.size : Int))))))) rfl rfl rfl) ?_
    refine LV (R_field fa36_3 rfl) ?_
    refine LV (R_field fa34_1 rfl) ?_
    refine LV (R_load (v := (.string x35.B.Word)) rfl (load_box1 hST.has (.head _) rfl Try.isAgg9)) ?_
    refine LV (R_lenStr (s := x35.B.Word) Try.underlying9 rfl) ?_
    refine LV (R_int (k := .i64) (a := ((IntKind.i64.wrap (((IntKind.i64.wrap (((IntKind.i64.wrap (((IntKind.i64.wrap (20 + ((x35.Head.Owner.size : Int))))) + ((x35.Head.Word.size : Int))))) + ((x35.Who.size : Int))))) + ((x35.B.Owner.size : Int)))))) (b := ((x35.B.Word.size : Int))) (v := (.int .i64 ((IntKind.i64.wrap (((IntKind.i64.wrap (((IntKind.i64.wrap (((IntKind.i64.wrap (((IntKind.i64.wrap (20 + ((x35.Head.Owner.size : Int))))) + ((x35.Head.Word.size : Int))))) + ((x35.Who.size : Int))))) + ((x35.B.Owner.size : Int))))) + ((x35.B.Word.size : Int))))))) rfl rfl rfl) ?_
    refine LV (R_field fa36_4 rfl) ?_
    refine LV (R_field fa34_0 rfl) ?_
    refine LV (R_load (v := (.string x35.C.Owner)) rfl (load_box1 hST.has (.head _) rfl Try.isAgg9)) ?_
    refine LV (R_lenStr (s := x35.C.Owner) Try.underlying9 rfl) ?_
    refine LV (R_int (k := .i64) (a := ((IntKind.i64.wrap (((IntKind.i64.wrap (((IntKind.i64.wrap (((IntKind.i64.wrap (((IntKind.i64.wrap (20 + ((x35.Head.Owner.size : Int))))) + ((x35.Head.Word.size : Int))))) + ((x35.Who.size : Int))))) + ((x35.B.Owner.size : Int))))) + ((x35.B.Word.size : Int)))))) (b := ((x35.C.Owner.size : Int))) (v := (.int .i64 ((IntKind.i64.wrap (((IntKind.i64.wrap (((IntKind.i64.wrap (((IntKind.i64.wrap (((IntKind.i64.wrap (((IntKind.i64.wrap (20 + ((x35.Head.Owner.size : Int))))) + ((x35.Head.Word.size : Int))))) + ((x35.Who.size : Int))))) + ((x35.B.Owner.size : Int))))) + ((x35.B.Word.size : Int))))) + ((x35.C.Owner.size : Int))))))) rfl rfl rfl) ?_
    refine LV (R_field fa36_4 rfl) ?_
    refine LV (R_field fa34_1 rfl) ?_
    refine LV (R_load (v := (.string x35.C.Word)) rfl (load_box1 hST.has (.head _) rfl Try.isAgg9)) ?_
    refine LV (R_lenStr (s := x35.C.Word) Try.underlying9 rfl) ?_
    refine LV (R_int (k := .i64) (a := ((IntKind.i64.wrap (((IntKind.i64.wrap (((IntKind.i64.wrap (((IntKind.i64.wrap (((IntKind.i64.wrap (((IntKind.i64.wrap (20 + ((x35.Head.Owner.size : Int))))) + ((x35.Head.Word.size : Int))))) + ((x35.Who.size : Int))))) + ((x35.B.Owner.size : Int))))) + ((x35.B.Word.size : Int))))) + ((x35.C.Owner.size : Int)))))) (b := ((x35.C.Word.size : Int))) (v := (.int .i64 ((IntKind.i64.wrap (((IntKind.i64.wrap (((IntKind.i64.wrap (((IntKind.i64.wrap (((IntKind.i64.wrap (((IntKind.i64.wrap (((IntKind.i64.wrap (20 + ((x35.Head.Owner.size : Int))))) + ((x35.Head.Word.size : Int))))) + ((x35.Who.size : Int))))) + ((x35.B.Owner.size : Int))))) + ((x35.B.Word.size : Int))))) + ((x35.C.Owner.size : Int))))) + ((x35.C.Word.size : Int))))))) rfl rfl rfl) ?_
    refine LV (R_field fa36_5 rfl) ?_
    refine LV (R_load (v := (.string x35.Word2)) rfl (load_box1 hST.has (.head _) rfl Try.isAgg9)) ?_
    refine LV (R_lenStr (s := x35.Word2) Try.underlying9 rfl) ?_
    refine LV (R_int (k := .i64) (a := ((IntKind.i64.wrap (((IntKind.i64.wrap (((IntKind.i64.wrap (((IntKind.i64.wrap (((IntKind.i64.wrap (((IntKind.i64.wrap (((IntKind.i64.wrap (20 + ((x35.Head.Owner.size : Int))))) + ((x35.Head.Word.size : Int))))) + ((x35.Who.size : Int))))) + ((x35.B.Owner.size : Int))))) + ((x35.B.Word.size : Int))))) + ((x35.C.Owner.size : Int))))) + ((x35.C.Word.size : Int)))))) (b := ((x35.Word2.size : Int))) (v := (.int .i64 ((IntKind.i64.wrap (((IntKind.i64.wrap (((IntKind.i64.wrap (((IntKind.i64.wrap (((IntKind.i64.wrap (((IntKind.i64.wrap (((IntKind.i64.wrap (((IntKind.i64.wrap (20 + ((x35.Head.Owner.size : Int))))) + ((x35.Head.Word.size : Int))))) + ((x35.Who.size : Int))))) + ((x35.B.Owner.size : Int))))) + ((x35.B.Word.size : Int))))) + ((x35.C.Owner.size : Int))))) + ((x35.C.Word.size : Int))))) + ((x35.Word2.size : Int))))))) rfl rfl rfl) ?_
    refine LV (R_int (k := .i64) (a := x47) (b := ((IntKind.i64.wrap (((IntKind.i64.wrap (((IntKind.i64.wrap (((IntKind.i64.wrap (((IntKind.i64.wrap (((IntKind.i64.wrap (((IntKind.i64.wrap (((IntKind.i64.wrap (20 + ((x35.Head.Owner.size : Int))))) + ((x35.Head.Word.size : Int))))) + ((x35.Who.size : Int))))) + ((x35.B.Owner.size : Int))))) + ((x35.B.Word.size : Int))))) + ((x35.C.Owner.size : Int))))) + ((x35.C.Word.size : Int))))) + ((x35.Word2.size : Int)))))) (v := (.int .i64 ((IntKind.i64.wrap (x47 + ((IntKind.i64.wrap (((IntKind.i64.wrap (((IntKind.i64.wrap (((IntKind.i64.wrap (((IntKind.i64.wrap (((IntKind.i64.wrap (((IntKind.i64.wrap (((IntKind.i64.wrap (20 + ((x35.Head.Owner.size : Int))))) + ((x35.Head.Word.size : Int))))) + ((x35.Who.size : Int))))) + ((x35.B.Owner.size : Int))))) + ((x35.B.Word.size : Int))))) + ((x35.C.Owner.size : Int))))) + ((x35.C.Word.size : Int))))) + ((x35.Word2.size : Int)))))))))) rfl rfl rfl) ?_
    refine LV (R_assign (v := (.int .i64 ((IntKind.i64.wrap (x47 + ((IntKind.i64.wrap (((IntKind.i64.wrap (((IntKind.i64.wrap (((IntKind.i64.wrap (((IntKind.i64.wrap (((IntKind.i64.wrap (((IntKind.i64.wrap (((IntKind.i64.wrap (20 + ((x35.Head.Owner.size : Int))))) + ((x35.Head.Word.size : Int))))) + ((x35.Who.size : Int))))) + ((x35.B.Owner.size : Int))))) + ((x35.B.Word.size : Int))))) + ((x35.C.Owner.size : Int))))) + ((x35.C.Word.size : Int))))) + ((x35.Word2.size : Int)))))))))) rfl) ?_
    refine LW_nil ?_
    refine bq_n ?_
    refine sq_n ?_
    replace hST : ST true NoF w _ _ ((b64, Obj.cells ((encCred x35).toArray : Array Value) 36 (0, 0)) :: L57) := hST
    replace hST : ST true NoF w _ _ L57 := hST.sublist (List.Sublist.cons _ (List.Sublist.refl _))
    exact ⟨eI, ((IntKind.i64.wrap (x47 + ((IntKind.i64.wrap (((IntKind.i64.wrap (((IntKind.i64.wrap (((IntKind.i64.wrap (((IntKind.i64.wrap (((IntKind.i64.wrap (((IntKind.i64.wrap (((IntKind.i64.wrap (20 + ((x35.Head.Owner.size : Int))))) + ((x35.Head.Word.size : Int))))) + ((x35.Who.size : Int))))) + ((x35.B.Owner.size : Int))))) + ((x35.B.Word.size : Int))))) + ((x35.C.Owner.size : Int))))) + ((x35.C.Word.size : Int))))) + ((x35.Word2.size : Int)))))))), _, ⟨rfl, eN⟩, (hST.sublist (List.Sublist.refl _)), rfl, e60, (by rw [hx39]; exact hm58)⟩
  · rintro E W ⟨x47, L57, ⟨eI, eN⟩, hST, e59, e60, hm58⟩
    rw [List.drop_length] at hm58
    rw [m_law05_Great_L1] at hm58
    refine sq_n ?_
    refine CW_seq ?_
    refine CW_region ?_
    refine LV (R_move (v := (.int .i64 x47)) e59) ?_
    refine LV (R_assign (v := (.int .i64 x47)) rfl) ?_
    refine LW_nil ?_
    refine sq_n ?_
    refine CW_ret ?_
    replace hm58 := Option.some.inj hm58; subst hm58
    refine retQ_1 (v := (.int .i64 x47)) rfl rfl ?_
    exact ⟨rfl, hST.ex⟩
end Go.Proofs.Ytfjdjbdnnoijgaa
