/- a part of a proof of ChainFinds -/
import Derived.Test.YtfjdjbdnnoijgaaGreatGH9W2
set_option linter.all false
namespace Go.Proofs.YtfjdjbdnnoijgaaGreat
open Go.RowKit
set_option maxRecDepth 10000
theorem w_ref01_Text (a0 : ByteArray) (r : ByteArray) (w : World)  (hm : m_ref01_Text a0 = some r) :
    Gives true Tryz.prog 233 [(.string a0)] w (.string r) := by
  have hST := ST.start (dd := true) w
  unfold m_ref01_Text at hm
  refine calls_of_CW (n := 8) Tryz.func233 rfl rfl (Nat.le_of_ble_eq_true rfl) ?_
  refine CW_seq ?_
  refine CW_region ?_
  refine LV (R_assign (v := (.string zS)) rfl) ?_
  refine LW_nil ?_
  refine sq_n ?_
  refine CW_seq ?_
  refine CW_region ?_
  refine LV (R_move (v := (.string a0)) rfl) ?_
  refine LV (R_lenStr (s := a0) Tryz.underlying9 rfl) ?_
  obtain ⟨r1, hr2, hm⟩ := bind_some hm
  refine LE (E_gives (args := [(.int .i64 ((a0.size : Int)))]) hST rfl Tryz.call231 (by exact args1 rfl) ((w_ref01_Number ((a0.size : Int)) _ _  hr2)) (fun W3 hST => ?_))
  refine LV (R_move (v := (.string a0)) rfl) ?_
  obtain ⟨s4, hs5, hm⟩ := bind_some hm
  refine LV (R_cat rfl rfl hs5) ?_
  refine LV (R_assign (v := (.string s4)) rfl) ?_
  refine LW_nil ?_
  refine sq_n ?_
  refine CW_ret ?_
  replace hm := Option.some.inj hm; subst hm
  refine retQ_1 (v := (.string s4)) rfl rfl ?_
  exact ⟨rfl, hST.ex⟩
theorem w_ref04_Bytes (a0 : Role) (r : ByteArray) (w : World)  (hm : m_ref04_Bytes a0 = some r) :
    Gives true Tryz.prog 232 [(.agg (encRole a0).toArray)] w (.string r) := by
  have hST := ST.start (dd := true) w
  unfold m_ref04_Bytes at hm
  refine calls_of_CW (n := 10) Tryz.func232 rfl rfl (Nat.le_of_ble_eq_true rfl) ?_
  refine CW_seq ?_
  refine CW_region ?_
  refine LE (E_box (v := (.agg (encRole a0).toArray)) hST rfl (fun W2 b1 hST => ?_))
  refine LV (R_assign (v := (.string zS)) rfl) ?_
  refine LW_nil ?_
  refine sq_n ?_
  refine CW_seq ?_
  refine PX_start (fun l W => Has (hp w) ((b1, Obj.cells ((encRole a0).toArray : Array Value) 47 (0, 0)) :: []) W) Tryz_mixed ?_
  replace hST := hST.drew
  have hS0 : Has (hp w) ((b1, Obj.cells ((encRole a0).toArray : Array Value) 47 (0, 0)) :: []) _ := hST.has.sub (Sub.refl _) (fun p hq => ((List.mem_cons.1 hq).elim (fun hq => by rw [hq]; exact (.head _)) (fun hq => (absurd hq List.not_mem_nil))))
  refine PV 0 rfl hS0 (R_field fa47_0 rfl) ?_
  refine PX_v 1 rfl (by kernel_rfl) (.inl rfl) rfl (by decide) (fun _ _ h => h) hS0 (fun l W hpd hs => have hS := hs; R_load (v := (.string a0.Owner)) rfl (load_box1 hS (.head _) rfl Tryz.isAgg9)) ?_
  refine PV 3 rfl hS0 (R_field fa47_1 rfl) ?_
  refine PX_v 4 rfl (by kernel_rfl) (.inl rfl) rfl (by decide) (fun _ _ h => h) hS0 (fun l W hpd hs => have hS := hs; R_load (v := (.string a0.Word)) rfl (load_box1 hS (.head _) rfl Tryz.isAgg9)) ?_
  obtain ⟨r19, hr20, hm⟩ := bind_some hm
  refine PX_e 2 rfl (by kernel_rfl) (.inl rfl) rfl (by decide) (E_gives (args := [(.string a0.Owner)]) hST rfl Tryz.call233 (by exact args1 rfl) ((w_ref01_Text a0.Owner _ _  hr20)) (fun W21 hST => ?_))
  have hS0 : Has (hp w) ((b1, Obj.cells ((encRole a0).toArray : Array Value) 47 (0, 0)) :: []) _ := hST.has.sub (Sub.refl _) (fun p hq => ((List.mem_cons.1 hq).elim (fun hq => by rw [hq]; exact (.head _)) (fun hq => (absurd hq List.not_mem_nil))))
  refine ⟨hS0, ?_⟩
  obtain ⟨r22, hr23, hm⟩ := bind_some hm
  refine PX_e 5 rfl (by kernel_rfl) (.inl rfl) rfl (by decide) (E_gives (args := [(.string a0.Word)]) hST rfl Tryz.call233 (by exact args1 rfl) ((w_ref01_Text a0.Word _ _  hr23)) (fun W24 hST => ?_))
  have hS0 : Has (hp w) ((b1, Obj.cells ((encRole a0).toArray : Array Value) 47 (0, 0)) :: []) _ := hST.has.sub (Sub.refl _) (fun p hq => ((List.mem_cons.1 hq).elim (fun hq => by rw [hq]; exact (.head _)) (fun hq => (absurd hq List.not_mem_nil))))
  refine ⟨hS0, ?_⟩
  obtain ⟨s25, hs26, hm⟩ := bind_some hm
  refine PV 6 rfl hS0 (R_cat rfl rfl hs26) ?_
  refine PV 7 rfl hS0 (R_assign (v := (.string s25)) rfl) ?_
  refine PX_done (by kernel_rfl) ?_
  refine sq_n ?_
  replace hST : ST true NoF w _ _ [] := hST.sublist (List.Sublist.cons _ (List.Sublist.refl _))
  refine CW_ret ?_
  replace hm := Option.some.inj hm; subst hm
  refine retQ_1 (v := (.string s25)) rfl rfl ?_
  exact ⟨rfl, hST.ex⟩
theorem w_ref05_Bytes (a0 : Cred) (r : ByteArray) (w : World)  (hm : m_ref05_Bytes a0 = some r) :
    Gives true Tryz.prog 189 [(.agg (encCred a0).toArray)] w (.string r) := by
  have hST := ST.start (dd := true) w
  unfold m_ref05_Bytes at hm
  refine calls_of_CW (n := 41) Tryz.func189 rfl rfl (Nat.le_of_ble_eq_true rfl) ?_
  refine CW_seq ?_
  refine CW_region ?_
  refine LE (E_box (v := (.agg (encCred a0).toArray)) hST rfl (fun W2 b1 hST => ?_))
  refine LV (R_assign (v := (.string zS)) rfl) ?_
  refine LW_nil ?_
  refine sq_n ?_
  refine CW_seq ?_
  refine PX_start (fun l W => Has (hp w) ((b1, Obj.cells ((encCred a0).toArray : Array Value) 83 (0, 0)) :: []) W) Tryz_mixed ?_
  replace hST := hST.drew
  have hS0 : Has (hp w) ((b1, Obj.cells ((encCred a0).toArray : Array Value) 83 (0, 0)) :: []) _ := hST.has.sub (Sub.refl _) (fun p hq => ((List.mem_cons.1 hq).elim (fun hq => by rw [hq]; exact (.head _)) (fun hq => (absurd hq List.not_mem_nil))))
  refine PV 0 rfl hS0 (R_field fa83_0 rfl) ?_
  refine PX_v 1 rfl (by kernel_rfl) (.inl rfl) rfl (by decide) (fun _ _ h => h) hS0 (fun l W hpd hs => have hS := hs; R_load (v := (.int .i64 a0.Kind)) rfl (load_box1 hS (.head _) rfl Tryz.isAgg3)) ?_
  refine PV 3 rfl hS0 (R_field fa83_1 rfl) ?_
  refine PX_v 4 rfl (by kernel_rfl) (.inl rfl) rfl (by decide) (fun _ _ h => h) hS0 (fun l W hpd hs => have hS := hs; R_load (v := (.agg (encRole a0.Head).toArray)) rfl (load_boxA hS (.head _) (encRole a0.Head) rfl Tryz.isAgg47 Tryz.sizeOf47)) ?_
  obtain ⟨r19, hr20, hm⟩ := bind_some hm
  refine PX_e 2 rfl (by kernel_rfl) (.inl rfl) rfl (by decide) (E_gives (args := [(.int .i64 a0.Kind)]) hST rfl Tryz.call231 (by exact args1 rfl) ((w_ref01_Number a0.Kind _ _  hr20)) (fun W21 hST => ?_))
  have hS0 : Has (hp w) ((b1, Obj.cells ((encCred a0).toArray : Array Value) 83 (0, 0)) :: []) _ := hST.has.sub (Sub.refl _) (fun p hq => ((List.mem_cons.1 hq).elim (fun hq => by rw [hq]; exact (.head _)) (fun hq => (absurd hq List.not_mem_nil))))
  refine ⟨hS0, ?_⟩
  obtain ⟨r22, hr23, hm⟩ := bind_some hm
  refine PX_e 5 rfl (by kernel_rfl) (.inl rfl) rfl (by decide) (E_gives (args := [(.agg (encRole a0.Head).toArray)]) hST rfl Tryz.call232 (by exact args1 rfl) ((w_ref04_Bytes a0.Head _ _  hr23)) (fun W24 hST => ?_))
  have hS0 : Has (hp w) ((b1, Obj.cells ((encCred a0).toArray : Array Value) 83 (0, 0)) :: []) _ := hST.has.sub (Sub.refl _) (fun p hq => ((List.mem_cons.1 hq).elim (fun hq => by rw [hq]; exact (.head _)) (fun hq => (absurd hq List.not_mem_nil))))
  refine ⟨hS0, ?_⟩
  obtain ⟨s25, hs26, hm⟩ := bind_some hm
  refine PV 6 rfl hS0 (R_cat rfl rfl hs26) ?_
  refine PV 7 rfl hS0 (R_assign (v := (.string s25)) rfl) ?_
  refine PX_done (by kernel_rfl) ?_
  refine sq_n ?_
  refine CW_seq ?_
  refine CW_seq ?_
  refine CW_region ?_
  refine LV (R_field fa83_0 rfl) ?_
  refine LV (R_load (v := (.int .i64 a0.Kind)) rfl (load_box1 hST.has (.head _) rfl Tryz.isAgg3)) ?_
  refine LV (R_int (k := .i64) (a := a0.Kind) (b := 1) (v := (.bool ((a0.Kind == 1)))) rfl rfl rfl) ?_
  refine LW_nil ?_
  refine sq_n ?_
  refine CW_if (b := (a0.Kind == 1)) rfl (fun hb27 => ?_) (fun hb27 => ?_)
  · replace hm := if_t hb27 hm
    refine CW_seq ?_
    refine CW_region ?_
    refine LV (R_move (v := (.string s25)) rfl) ?_
    refine LV (R_field fa83_2 rfl) ?_
    refine LV (R_load (v := (.string a0.Who)) rfl (load_box1 hST.has (.head _) rfl Tryz.isAgg9)) ?_
    obtain ⟨r28, hr29, hm⟩ := bind_some hm
    refine LE (E_gives (args := [(.string a0.Who)]) hST rfl Tryz.call233 (by exact args1 rfl) ((w_ref01_Text a0.Who _ _  hr29)) (fun W30 hST => ?_))
    obtain ⟨s31, hs32, hm⟩ := bind_some hm
    refine LV (R_cat rfl rfl hs32) ?_
    refine LV (R_assign (v := (.string s31)) rfl) ?_
    refine LW_nil ?_
    refine sq_n ?_
    replace hST : ST true NoF w _ _ [] := hST.sublist (List.Sublist.cons _ (List.Sublist.refl _))
    refine CW_ret ?_
    refine sq_r ?_
    replace hm := Option.some.inj hm; subst hm
    refine retQ_1 (v := (.string s31)) rfl rfl ?_
    exact ⟨rfl, hST.ex⟩
  · replace hm := if_f hb27 hm
    refine CW_skip ?_
    refine sq_n ?_
    refine CW_seq ?_
    refine CW_region ?_
    refine LV (R_move (v := (.string s25)) rfl) ?_
    refine LV (R_field fa83_3 rfl) ?_
    refine LV (R_load (v := (.agg (encRole a0.B).toArray)) rfl (load_boxA hST.has (.head _) (encRole a0.B) rfl Tryz.isAgg47 Tryz.sizeOf47)) ?_
    obtain ⟨r33, hr34, hm⟩ := bind_some hm
    refine LE (E_gives (args := [(.agg (encRole a0.B).toArray)]) hST rfl Tryz.call232 (by exact args1 rfl) ((w_ref04_Bytes a0.B _ _  hr34)) (fun W35 hST => ?_))
    obtain ⟨s36, hs37, hm⟩ := bind_some hm
    refine LV (R_cat rfl rfl hs37) ?_
    refine LV (R_assign (v := (.string s36)) rfl) ?_
    refine LW_nil ?_
    refine sq_n ?_
    refine CW_seq ?_
    obtain ⟨s68, hm69, hm70⟩ := bind_some hm
    refine CW_cut (fun E W => ∃ (x44 : ByteArray) (L45 : List (Nat × Obj)), ST true NoF w W (hp w) ((b1, Obj.cells ((encCred a0).toArray : Array Value) 83 (0, 0)) :: L45) ∧ E 1 = (.pointer (some ⟨b1, 0, none⟩)) ∧ E 3 = (.string x44) ∧ (((if (a0.Kind == 4) then (((m_ref04_Bytes a0.C)).bind fun r63 => (((catS x44 r63)).bind fun s66 => some s66)) else some x44) : Option ByteArray).bind fun x55 => some x55) = some r) ?_ ?_
    · refine CW_seq ?_
      refine CW_region ?_
      refine LV (R_field fa83_0 rfl) ?_
      refine LV (R_load (v := (.int .i64 a0.Kind)) rfl (load_box1 hST.has (.head _) rfl Tryz.isAgg3)) ?_
      refine LV (R_int (k := .i64) (a := a0.Kind) (b := 3) (v := (.bool ((a0.Kind == 3)))) rfl rfl rfl) ?_
      refine LW_nil ?_
      refine sq_n ?_
      refine CW_if (b := (a0.Kind == 3)) rfl (fun hb71 => ?_) (fun hb71 => ?_)
      · replace hm69 := if_t hb71 hm69
        refine CW_region ?_
        refine LV (R_move (v := (.string s36)) rfl) ?_
        refine LV (R_field fa83_5 rfl) ?_
        refine LV (R_load (v := (.string a0.Word2)) rfl (load_box1 hST.has (.head _) rfl Tryz.isAgg9)) ?_
        obtain ⟨r72, hr73, hm69⟩ := bind_some hm69
        refine LE (E_gives (args := [(.string a0.Word2)]) hST rfl Tryz.call233 (by exact args1 rfl) ((w_ref01_Text a0.Word2 _ _  hr73)) (fun W74 hST => ?_))
        obtain ⟨s75, hs76, hm69⟩ := bind_some hm69
        refine LV (R_cat rfl rfl hs76) ?_
        refine LV (R_assign (v := (.string s75)) rfl) ?_
        refine LW_nil ?_
        refine sq_n ?_
        replace hm69 := Option.some.inj hm69; subst hm69
        exact ⟨s75, _, (hST.sublist (List.Sublist.refl _)), rfl, rfl, hm70⟩
      · replace hm69 := if_f hb71 hm69
        refine CW_skip ?_
        refine sq_n ?_
        replace hm69 := Option.some.inj hm69; subst hm69
        exact ⟨s36, _, (hST.sublist (List.Sublist.refl _)), rfl, rfl, hm70⟩
    · rintro E W ⟨x44, L45, hST, e47, e48, hm46⟩
      refine CW_seq ?_
      obtain ⟨s59, hm60, hm61⟩ := bind_some hm46
      refine CW_cut (fun E W => ∃ (x55 : ByteArray) (L56 : List (Nat × Obj)), ST true NoF w W (hp w) L56 ∧ E 3 = (.string x55) ∧ some x55 = some r) ?_ ?_
      · refine CW_seq ?_
        refine CW_region ?_
        refine LV (R_field fa83_0 e47) ?_
        refine LV (R_load (v := (.int .i64 a0.Kind)) rfl (load_box1 hST.has (.head _) rfl Tryz.isAgg3)) ?_
        refine LV (R_int (k := .i64) (a := a0.Kind) (b := 4) (v := (.bool ((a0.Kind == 4)))) rfl rfl rfl) ?_
        refine LW_nil ?_
        refine sq_n ?_
        refine CW_if (b := (a0.Kind == 4)) rfl (fun hb62 => ?_) (fun hb62 => ?_)
        · replace hm60 := if_t hb62 hm60
          refine CW_region ?_
          refine LV (R_move (v := (.string x44)) e48) ?_
          refine LV (R_field fa83_4 e47) ?_
          refine LV (R_load (v := (.agg (encRole a0.C).toArray)) rfl (load_boxA hST.has (.head _) (encRole a0.C) rfl Tryz.isAgg47 Tryz.sizeOf47)) ?_
          obtain ⟨r63, hr64, hm60⟩ := bind_some hm60
          refine LE (E_gives (args := [(.agg (encRole a0.C).toArray)]) hST rfl Tryz.call232 (by exact args1 rfl) ((w_ref04_Bytes a0.C _ _  hr64)) (fun W65 hST => ?_))
          obtain ⟨s66, hs67, hm60⟩ := bind_some hm60
          refine LV (R_cat rfl rfl hs67) ?_
          refine LV (R_assign (v := (.string s66)) rfl) ?_
          refine LW_nil ?_
          refine sq_n ?_
          replace hm60 := Option.some.inj hm60; subst hm60
          exact ⟨s66, _, (hST.sublist (List.Sublist.cons _ (List.Sublist.refl _))), rfl, hm61⟩
        · replace hm60 := if_f hb62 hm60
          refine CW_skip ?_
          refine sq_n ?_
          replace hm60 := Option.some.inj hm60; subst hm60
          exact ⟨x44, _, (hST.sublist (List.Sublist.cons _ (List.Sublist.refl _))), e48, hm61⟩
      · rintro E W ⟨x55, L56, hST, e58, hm57⟩
        refine CW_seq ?_
        refine CW_region ?_
        refine LV (R_move (v := (.string x55)) e58) ?_
        refine LV (R_assign (v := (.string x55)) rfl) ?_
        refine LW_nil ?_
        refine sq_n ?_
        refine CW_ret ?_
        replace hm57 := Option.some.inj hm57; subst hm57
        refine retQ_1 (v := (.string x55)) rfl rfl ?_
        exact ⟨rfl, hST.ex⟩
theorem w_ref05_bytes (a0 : Cred) (r : ByteArray) (w : World)  (hm : m_ref05_bytes a0 = some r) :
    Gives true Tryz.prog 152 [(.agg (encCred a0).toArray)] w (.string r) := by
  have hST := ST.start (dd := true) w
  unfold m_ref05_bytes at hm
  refine calls_of_CW (n := 8) Tryz.func152 rfl rfl (Nat.le_of_ble_eq_true rfl) ?_
  refine CW_seq ?_
  refine CW_region ?_
  refine LE (E_box (v := (.agg (encCred a0).toArray)) hST rfl (fun W2 b1 hST => ?_))
  refine LV (R_assign (v := (.string zS)) rfl) ?_
  refine LW_nil ?_
  refine sq_n ?_
  refine CW_seq ?_
  refine CW_seq ?_
  refine CW_region ?_
  refine LV (R_load (v := (.agg (encCred a0).toArray)) rfl (load_boxA hST.has (.head _) (encCred a0) rfl Tryz.isAgg83 Tryz.sizeOf83)) ?_
  obtain ⟨r3, hr4, hm⟩ := bind_some hm
  refine LE (E_gives (args := [(.agg (encCred a0).toArray)]) hST rfl Tryz.call106 (by exact args1 rfl) ((w_ref05_Right a0 _ _  hr4)) (fun W5 hST => ?_))
  refine LV (R_not (b := r3) rfl) ?_
  refine LW_nil ?_
  refine sq_n ?_
  refine CW_if (b := (!r3)) rfl (fun hb6 => ?_) (fun hb6 => ?_)
  · replace hm := if_t hb6 hm
    refine CW_seq ?_
    refine CW_region ?_
    refine LV (R_assign (v := (.string zS)) rfl) ?_
    refine LW_nil ?_
    refine sq_n ?_
    replace hST : ST true NoF w _ _ [] := hST.sublist (List.Sublist.cons _ (List.Sublist.refl _))
    refine CW_ret ?_
    refine sq_r ?_
    replace hm := Option.some.inj hm; subst hm
    refine retQ_1 (v := (.string zS)) rfl rfl ?_
    exact ⟨rfl, hST.ex⟩
  · replace hm := if_f hb6 hm
    refine CW_skip ?_
    refine sq_n ?_
    refine CW_seq ?_
    refine CW_region ?_
    refine LV (R_load (v := (.agg (encCred a0).toArray)) rfl (load_boxA hST.has (.head _) (encCred a0) rfl Tryz.isAgg83 Tryz.sizeOf83)) ?_
    obtain ⟨r7, hr8, hm⟩ := bind_some hm
    refine LE (E_gives (args := [(.agg (encCred a0).toArray)]) hST rfl Tryz.call189 (by exact args1 rfl) ((w_ref05_Bytes a0 _ _  hr8)) (fun W9 hST => ?_))
    refine LV (R_assign (v := (.string r7)) rfl) ?_
    refine LW_nil ?_
    refine sq_n ?_
    replace hST : ST true NoF w _ _ [] := hST.sublist (List.Sublist.cons _ (List.Sublist.refl _))
    refine CW_ret ?_
    replace hm := Option.some.inj hm; subst hm
    refine retQ_1 (v := (.string r7)) rfl rfl ?_
    exact ⟨rfl, hST.ex⟩
theorem w_ref05_Compare (a0 : Cred) (a1 : Cred) (r : Int) (w : World)  (hm : m_ref05_Compare a0 a1 = some r) :
    Gives true Tryz.prog 107 [(.agg (encCred a0).toArray), (.agg (encCred a1).toArray)] w (.int .i64 r) := by
  have hST := ST.start (dd := true) w
  unfold m_ref05_Compare at hm
  refine calls_of_CW (n := 17) Tryz.func107 rfl rfl (Nat.le_of_ble_eq_true rfl) ?_
  refine CW_seq ?_
  refine CW_region ?_
  refine LE (E_box (v := (.agg (encCred a0).toArray)) hST rfl (fun W2 b1 hST => ?_))
  refine LE (E_box (v := (.agg (encCred a1).toArray)) hST rfl (fun W4 b3 hST => ?_))
  refine LV (R_assign (v := (.int .i64 0)) rfl) ?_
  refine LW_nil ?_
  refine sq_n ?_
  refine CW_seq ?_
  refine CW_region ?_
  refine LV (R_load (v := (.agg (encCred a0).toArray)) rfl (load_boxA hST.has (.tail _ (.head _)) (encCred a0) rfl Tryz.isAgg83 Tryz.sizeOf83)) ?_
  obtain ⟨r5, hr6, hm⟩ := bind_some hm
  refine LE (E_gives (args := [(.agg (encCred a0).toArray)]) hST rfl Tryz.call152 (by exact args1 rfl) ((w_ref05_bytes a0 _ _  hr6)) (fun W7 hST => ?_))
  refine LV (R_assign (v := (.string r5)) rfl) ?_
  refine LW_nil ?_
  refine sq_n ?_
  replace hST : ST true NoF w _ _ ((b3, Obj.cells ((encCred a1).toArray : Array Value) 83 (0, 0)) :: []) := hST.sublist (List.Sublist.cons_cons _ (List.Sublist.cons _ (List.Sublist.refl _)))
  refine CW_seq ?_
  refine CW_region ?_
  refine LV (R_load (v := (.agg (encCred a1).toArray)) rfl (load_boxA hST.has (.head _) (encCred a1) rfl Tryz.isAgg83 Tryz.sizeOf83)) ?_
  obtain ⟨r8, hr9, hm⟩ := bind_some hm
  refine LE (E_gives (args := [(.agg (encCred a1).toArray)]) hST rfl Tryz.call152 (by exact args1 rfl) ((w_ref05_bytes a1 _ _  hr9)) (fun W10 hST => ?_))
  refine LV (R_assign (v := (.string r8)) rfl) ?_
  refine LW_nil ?_
  refine sq_n ?_
  replace hST : ST true NoF w _ _ [] := hST.sublist (List.Sublist.cons _ (List.Sublist.refl _))
  refine CW_seq ?_
  refine CW_seq ?_
  refine CW_region ?_
  refine LV (R_move (v := (.string r5)) rfl) ?_
  refine LV (R_move (v := (.string r8)) rfl) ?_
  refine LV (R_str (a := r5) (b := r8) (v := (.bool ((ltS r5 r8)))) rfl rfl rfl) ?_
  refine LW_nil ?_
  refine sq_n ?_
  refine CW_if (b := (ltS r5 r8)) rfl (fun hb11 => ?_) (fun hb11 => ?_)
  · replace hm := if_t hb11 hm
    refine CW_seq ?_
    refine CW_region ?_
    refine LV (R_assign (v := (.int .i64 ((-1)))) rfl) ?_
    refine LW_nil ?_
    refine sq_n ?_
    refine CW_ret ?_
    refine sq_r ?_
    replace hm := Option.some.inj hm; subst hm
    refine retQ_1 (v := (.int .i64 ((-1)))) rfl rfl ?_
    exact ⟨rfl, hST.ex⟩
  · replace hm := if_f hb11 hm
    refine CW_skip ?_
    refine sq_n ?_
    refine CW_seq ?_
    refine CW_seq ?_
    refine CW_region ?_
    refine LV (R_move (v := (.string r5)) rfl) ?_
    refine LV (R_move (v := (.string r8)) rfl) ?_
    refine LV (R_str (a := r5) (b := r8) (v := (.bool ((!(ltS r5 r8 || beqS r5 r8))))) rfl rfl rfl) ?_
    refine LW_nil ?_
    refine sq_n ?_
    refine CW_if (b := (!(ltS r5 r8 || beqS r5 r8))) rfl (fun hb12 => ?_) (fun hb12 => ?_)
    · replace hm := if_t hb12 hm
      refine CW_seq ?_
      refine CW_region ?_
      refine LV (R_assign (v := (.int .i64 1)) rfl) ?_
      refine LW_nil ?_
      refine sq_n ?_
      refine CW_ret ?_
      refine sq_r ?_
      replace hm := Option.some.inj hm; subst hm
      refine retQ_1 (v := (.int .i64 1)) rfl rfl ?_
      exact ⟨rfl, hST.ex⟩
    · replace hm := if_f hb12 hm
      refine CW_skip ?_
      refine sq_n ?_
      refine CW_seq ?_
      refine CW_region ?_
      refine LV (R_assign (v := (.int .i64 0)) rfl) ?_
      refine LW_nil ?_
      refine sq_n ?_
      refine CW_ret ?_
      replace hm := Option.some.inj hm; subst hm
      refine retQ_1 (v := (.int .i64 0)) rfl rfl ?_
      exact ⟨rfl, hST.ex⟩
theorem w_ref05_Set (v_a0 : Value) (a0 : List Cred) (r : List Cred) (w : World) (h_a0 : Sl (Pl encCred) 9 (hp w) v_a0 a0) (hm : m_ref05_Set a0 = some r) :
    GivesRow true Tryz.prog 49 [v_a0] w 83 encCred 9 r := by
  have hST := ST.start (dd := true) w
  unfold m_ref05_Set at hm
  refine calls_of_CW (n := 51) Tryz.func49 rfl rfl (Nat.le_of_ble_eq_true rfl) ?_
  refine CW_seq ?_
  refine CW_region ?_
  refine LV (R_assign (v := (.slice none 0 0)) rfl) ?_
  refine LW_nil ?_
  refine sq_n ?_
  refine CW_seq ?_
  refine CW_region ?_
  refine LV (R_assign (v := (.slice none 0 0)) rfl) ?_
  refine LW_nil ?_
  refine sq_n ?_
  refine CW_tail ?_
  refine CW_block (CW_loop (fun m E W => ∃ (v11496 : Value) (l11497 : List Cred) (R11499 : List (Nat × Obj)) (L14376 : List (Nat × Obj)), ST true NoF w W (hp w) (R11499 ++ L14376) ∧ E 0 = v_a0 ∧ E 3 = v11496 ∧ Row 83 encCred 9 v11496 l11497 R11499 ∧ m_ref05_Set_L1 a0 m l11497 = some r) FUEL ⟨(.slice none 0 0), ([]), [], _, (hST.sublist (List.Sublist.refl _)), rfl, rfl, (Row.nil _ _ _), hm⟩ ?_)
  rintro m E W ⟨v11496, l11497, R11499, L14376, hST, e14379, e14380, hs11498, hm14377⟩
  cases m with
  | zero => rw [m_ref05_Set_L1] at hm14377; cases hm14377
  | succ n14378 =>
    rw [m_ref05_Set_L1] at hm14377
    refine CW_block ?_
    refine CW_seq ?_
    refine CW_region ?_
    refine LE (E_alloc hST Tryz.zeroValue83 (fun W14382 b14381 hST => ?_))
    refine LW_nil ?_
    refine sq_n ?_
    refine CW_seq ?_
    refine CW_region ?_
    refine LV (R_assign (v := (.bool false)) rfl) ?_
    refine LW_nil ?_
    refine sq_n ?_
    refine CW_seq ?_
    refine CW_seq ?_
    refine CW_region ?_
    refine LV (R_move (v := v_a0) e14379) ?_
    refine LV (R_len Tryz.underlying22 rfl h_a0) ?_
    refine LV (R_move (v := (.int .i64 0)) rfl) ?_
    refine LW_nil ?_
    refine sq_n ?_
    obtain ⟨s15824, hm15825, hm15826⟩ := bind_some hm14377
    refine CW_cut (fun E W => ∃ (x15807 : Bool) (x15808 : Cred) (L15809 : List (Nat × Obj)), ST true NoF w W (hp w) ((b14381, Obj.cells ((encCred x15808).toArray : Array Value) 83 (0, 0)) :: (R11499 ++ L15809)) ∧ E 0 = v_a0 ∧ E 3 = v11496 ∧ E 4 = (.pointer (some ⟨b14381, 0, none⟩)) ∧ E 5 = (.bool x15807) ∧ (if (!x15807) then some l11497 else (((appB 136 l11497 ([x15808]))).bind fun l15818 => (m_ref05_Set_L1 a0 n14378 l15818))) = some r) ?_ ?_
    · refine CW_range (fun i E W => ∃ (x16301 : Bool) (x16302 : Cred) (L16777 : List (Nat × Obj)), (E 10 = .int .i64 (i : Nat) ∧ E 9 = .int .i64 (a0.length : Nat)) ∧ ST true NoF w W (hp w) ((b14381, Obj.cells ((encCred x16302).toArray : Array Value) 83 (0, 0)) :: (R11499 ++ L16777)) ∧ E 0 = v_a0 ∧ E 3 = v11496 ∧ E 4 = (.pointer (some ⟨b14381, 0, none⟩)) ∧ E 5 = (.bool x16301) ∧ E 8 = v_a0 ∧ m_ref05_Set_L2 l11497 (a0.drop i) x16301 x16302 = some s15824) a0.length h_a0.len ⟨false, ((⟨0, (⟨zS, zS⟩ : Role), zS, (⟨zS, zS⟩ : Role), (⟨zS, zS⟩ : Role), zS⟩ : Cred)), _, ⟨rfl, rfl⟩, (hST.sublist (List.Sublist.refl _)), e14379, e14380, rfl, rfl, rfl, hm15825⟩ (by decide) (by decide) (by decide) (fun _ _ _ h => by obtain ⟨_, _, _, eIN, _⟩ := h; exact eIN) ?_ ?_
      · rintro i15827 E W hi15833 ⟨x16301, x16302, L16777, ⟨eI, eN⟩, hST, e16779, e16780, e16781, e16782, e16783, hm16778⟩
        obtain ⟨x15828, xs15829, hx15831, hx15830, hx15832⟩ := drop_cons hi15833
        rw [hx15831] at hm16778
        rw [m_ref05_Set_L2] at hm16778
        refine CW_block ?_
        refine CW_seq ?_
        refine CW_region ?_
        refine LQ (R_indexP (enc := encCred) (i := (i15827 : Int)) (x0 := x15828) Tryz.underlying22 Tryz.sizeOf83 e16783 eI h_a0 (Int.natCast_nonneg _) hx15830) (fun p16784 hp16785 => ?_)
        refine LV (R_load rfl (load_atA hST.has hp16785 Tryz.isAgg83 Tryz.sizeOf83)) ?_
        refine LE (E_alloc hST Tryz.zeroValue83 (fun W16788 b16787 hST => ?_))
        refine LW_e0 (.inl rfl) rfl (E_store [] (.agg (encCred x15828).toArray) ((encCred x15828).toArray) hST rfl rfl Tryz.sizeOf83 (oneCred x15828) (Nat.le_of_ble_eq_true rfl) rfl (fun W16789 hST => ?_))
        refine LW_nil ?_
        refine sq_n ?_
        refine CW_seq ?_
        refine PX_start (fun l W => Has (hp w) ((b16787, Obj.cells ((encCred x15828).toArray : Array Value) 83 (0, 0)) :: ((b14381, Obj.cells ((encCred x16302).toArray : Array Value) 83 (0, 0)) :: (R11499 ++ []))) W) Tryz_mixed ?_
        replace hST := hST.drew
        replace hST : ST true NoF w _ _ ((b16787, Obj.cells ((encCred x15828).toArray : Array Value) 83 (0, 0)) :: ((b14381, Obj.cells ((encCred x16302).toArray : Array Value) 83 (0, 0)) :: (R11499 ++ L16777))) := hST
        have hS0 : Has (hp w) ((b16787, Obj.cells ((encCred x15828).toArray : Array Value) 83 (0, 0)) :: ((b14381, Obj.cells ((encCred x16302).toArray : Array Value) 83 (0, 0)) :: (R11499 ++ []))) _ := hST.has.sub (Sub.refl _) (fun p hq => ((List.mem_cons.1 hq).elim (fun hq => by rw [hq]; exact (.head _)) (fun hq => ((List.mem_cons.1 hq).elim (fun hq => by rw [hq]; exact (.tail _ (.head _))) (fun hq => ((List.mem_append.1 hq).elim (fun hq => (.tail _ (.tail _ (List.mem_append_left _ hq)))) (fun hq => (absurd hq List.not_mem_nil))))))))
        refine PX_v 0 rfl (by kernel_rfl) (.inl rfl) rfl (by decide) (fun _ _ h => h) hS0 (fun l W hpd hs => have hS := hs; R_load (v := (.agg (encCred x15828).toArray)) rfl (load_boxA hS (.head _) (encCred x15828) rfl Tryz.isAgg83 Tryz.sizeOf83)) ?_
        obtain ⟨r17096, hr17097, hm16778⟩ := bind_some hm16778
        refine PX_e 1 rfl (by kernel_rfl) (.inl rfl) rfl (by decide) (E_gives (args := [(.agg (encCred x15828).toArray)]) hST rfl Tryz.call106 (by exact args1 rfl) ((w_ref05_Right x15828 _ _  hr17097)) (fun W17098 hST => ?_))
        have hS0 : Has (hp w) ((b16787, Obj.cells ((encCred x15828).toArray : Array Value) 83 (0, 0)) :: ((b14381, Obj.cells ((encCred x16302).toArray : Array Value) 83 (0, 0)) :: (R11499 ++ []))) _ := hST.has.sub (Sub.refl _) (fun p hq => ((List.mem_cons.1 hq).elim (fun hq => by rw [hq]; exact (.head _)) (fun hq => ((List.mem_cons.1 hq).elim (fun hq => by rw [hq]; exact (.tail _ (.head _))) (fun hq => ((List.mem_append.1 hq).elim (fun hq => (.tail _ (.tail _ (List.mem_append_left _ hq)))) (fun hq => (absurd hq List.not_mem_nil))))))))
        refine ⟨hS0, ?_⟩
        refine PV 2 rfl hS0 (R_move (v := (.bool r17096)) rfl) ?_
        obtain ⟨s17213, hm17214, hm17215⟩ := bind_some hm16778
        refine PX_join (J := fun E W => ∃ (x17134 : Bool) (L17135 : List (Nat × Obj)), ST true NoF w W (hp w) ((b16787, Obj.cells ((encCred x15828).toArray : Array Value) 83 (0, 0)) :: ((b14381, Obj.cells ((encCred x16302).toArray : Array Value) 83 (0, 0)) :: (R11499 ++ L17135))) ∧ E 0 = v_a0 ∧ E 3 = v11496 ∧ E 4 = (.pointer (some ⟨b14381, 0, none⟩)) ∧ E 5 = (.bool x16301) ∧ E 7 = (.pointer (some ⟨b16787, 0, none⟩)) ∧ E 8 = v_a0 ∧ E 9 = (.int .i64 ((a0.length : Int))) ∧ E 10 = (.int .i64 ((i15827 : Int))) ∧ E 31 = (.bool x17134) ∧ (((if x17134 then (((if (!x16301) then some true else (((m_ref05_Compare x15828 x16302)).bind fun r17210 => some ((decide (r17210 < 0))))) : Option Bool).bind fun x17193 => some x17193) else some false) : Option Bool).bind fun x17171 => (if x17171 then (m_ref05_Set_L2 l11497 xs15829 true x15828) else (m_ref05_Set_L2 l11497 xs15829 x16301 x16302))) = some s15824) #[true, true, true, true, true, true, true, true, true, true, true, true, true, true, true, true, true, true, false, false, false, false, false, false, false, false, false, false] 10 ?_ (fun key17216 => ?_)
        · rintro E W ⟨x17134, L17135, hST, e17137, e17138, e17139, e17140, e17141, e17142, e17143, e17144, e17145, hm17136⟩
          have hS0 : Has (hp w) ((b16787, Obj.cells ((encCred x15828).toArray : Array Value) 83 (0, 0)) :: ((b14381, Obj.cells ((encCred x16302).toArray : Array Value) 83 (0, 0)) :: (R11499 ++ []))) _ := hST.has.sub (Sub.refl _) (fun p hq => ((List.mem_cons.1 hq).elim (fun hq => by rw [hq]; exact (.head _)) (fun hq => ((List.mem_cons.1 hq).elim (fun hq => by rw [hq]; exact (.tail _ (.head _))) (fun hq => ((List.mem_append.1 hq).elim (fun hq => (.tail _ (.tail _ (List.mem_append_left _ hq)))) (fun hq => (absurd hq List.not_mem_nil))))))))
          refine PV 18 rfl hS0 (R_move (v := (.bool x17134)) e17145) ?_
          obtain ⟨s17185, hm17186, hm17187⟩ := bind_some hm17136
          refine PX_join (J := fun E W => ∃ (x17171 : Bool) (L17172 : List (Nat × Obj)), ST true NoF w W (hp w) ((b16787, Obj.cells ((encCred x15828).toArray : Array Value) 83 (0, 0)) :: ((b14381, Obj.cells ((encCred x16302).toArray : Array Value) 83 (0, 0)) :: (R11499 ++ L17172))) ∧ E 0 = v_a0 ∧ E 3 = v11496 ∧ E 4 = (.pointer (some ⟨b14381, 0, none⟩)) ∧ E 5 = (.bool x16301) ∧ E 7 = (.pointer (some ⟨b16787, 0, none⟩)) ∧ E 8 = v_a0 ∧ E 9 = (.int .i64 ((a0.length : Int))) ∧ E 10 = (.int .i64 ((i15827 : Int))) ∧ E 41 = (.bool x17171) ∧ (if x17171 then (m_ref05_Set_L2 l11497 xs15829 true x15828) else (m_ref05_Set_L2 l11497 xs15829 x16301 x16302)) = some s15824) #[true, true, true, true, true, true, true, true, true, true, true, true, true, true, true, true, true, true, true, true, true, true, true, true, true, true, true, true] 0 ?_ (fun key17188 => ?_)
          · rintro E W ⟨x17171, L17172, hST, e17174, e17175, e17176, e17177, e17178, e17179, e17180, e17181, e17182, hm17173⟩
            have hS0 : Has (hp w) ((b16787, Obj.cells ((encCred x15828).toArray : Array Value) 83 (0, 0)) :: ((b14381, Obj.cells ((encCred x16302).toArray : Array Value) 83 (0, 0)) :: (R11499 ++ []))) _ := hST.has.sub (Sub.refl _) (fun p hq => ((List.mem_cons.1 hq).elim (fun hq => by rw [hq]; exact (.head _)) (fun hq => ((List.mem_cons.1 hq).elim (fun hq => by rw [hq]; exact (.tail _ (.head _))) (fun hq => ((List.mem_append.1 hq).elim (fun hq => (.tail _ (.tail _ (List.mem_append_left _ hq)))) (fun hq => (absurd hq List.not_mem_nil))))))))
            refine PX_done (by kernel_rfl) ?_
            refine sq_n ?_
            refine CW_if (b := x17171) e17182 (fun hb17183 => ?_) (fun hb17183 => ?_)
            · replace hm17173 := if_t hb17183 hm17173
              refine CW_seq ?_
              refine CW_region ?_
              refine LV (R_load (v := (.agg (encCred x15828).toArray)) e17178 (load_boxA hST.has (.head _) (encCred x15828) rfl Tryz.isAgg83 Tryz.sizeOf83)) ?_
              refine LW_e0 (.inl rfl) rfl (E_store [_] (.agg (encCred x15828).toArray) ((encCred x15828).toArray) hST e17176 rfl Tryz.sizeOf83 (oneCred x15828) (Nat.le_of_ble_eq_true rfl) rfl (fun W17184 hST => ?_))
              refine LW_nil ?_
              refine sq_n ?_
              replace hST : ST true NoF w _ _ ((b16787, Obj.cells ((encCred x15828).toArray : Array Value) 83 (0, 0)) :: ((b14381, Obj.cells ((encCred x15828).toArray : Array Value) 83 (0, 0)) :: (R11499 ++ L17172))) := hST
              replace hST : ST true NoF w _ _ ((b14381, Obj.cells ((encCred x15828).toArray : Array Value) 83 (0, 0)) :: (R11499 ++ L17172)) := hST.sublist (List.Sublist.cons _ (List.Sublist.refl _))
              refine CW_region ?_
              refine LV (R_assign (v := (.bool true)) rfl) ?_
              refine LW_nil ?_
              refine bq_n ?_
              refine sq_n ?_
              exact ⟨e17181, true, x15828, _, ⟨rfl, e17180⟩, (hST.sublist (List.Sublist.refl _)), e17174, e17175, e17176, rfl, e17179, (by rw [hx15832]; exact hm17173)⟩
            · replace hm17173 := if_f hb17183 hm17173
              refine CW_skip ?_
              refine bq_n ?_
              refine sq_n ?_
              replace hST : ST true NoF w _ _ ((b14381, Obj.cells ((encCred x16302).toArray : Array Value) 83 (0, 0)) :: (R11499 ++ L17172)) := hST.sublist (List.Sublist.cons _ (List.Sublist.refl _))
              exact ⟨e17181, x16301, x16302, _, ⟨rfl, e17180⟩, (hST.sublist (List.Sublist.refl _)), e17174, e17175, e17176, e17177, e17179, (by rw [hx15832]; exact hm17173)⟩
          · rcases bool_cases x17134 with hb17146 | hb17146
            · replace hm17186 := if_t hb17146 hm17186
              refine PX_v 19 rfl (by kernel_rfl) (.inr ⟨18, true, 32, rfl, rfl, by decide, (congrArg Value.bool hb17146)⟩) rfl (by decide) (fun _ _ h => h) hS0 (fun _ _ _ _ => R_move (v := (.bool x16301)) e17140) ?_
              refine PX_v 20 rfl (by kernel_rfl) (.inr ⟨18, true, 32, rfl, rfl, by decide, (congrArg Value.bool hb17146)⟩) rfl (by decide) (fun _ _ h => h) hS0 (fun _ _ _ _ => R_not (b := x16301) rfl) ?_
              refine PX_v 21 rfl (by kernel_rfl) (.inr ⟨18, true, 32, rfl, rfl, by decide, (congrArg Value.bool hb17146)⟩) rfl (by decide) (fun _ _ h => h) hS0 (fun _ _ _ _ => R_move (v := (.bool ((!x16301)))) rfl) ?_
              obtain ⟨s17206, hm17207, hm17208⟩ := bind_some hm17186
              refine PX_join (J := fun E W => ∃ (x17193 : Bool) (L17194 : List (Nat × Obj)), ST true NoF w W (hp w) ((b16787, Obj.cells ((encCred x15828).toArray : Array Value) 83 (0, 0)) :: ((b14381, Obj.cells ((encCred x16302).toArray : Array Value) 83 (0, 0)) :: (R11499 ++ L17194))) ∧ E 0 = v_a0 ∧ E 3 = v11496 ∧ E 4 = (.pointer (some ⟨b14381, 0, none⟩)) ∧ E 5 = (.bool x16301) ∧ E 7 = (.pointer (some ⟨b16787, 0, none⟩)) ∧ E 8 = v_a0 ∧ E 9 = (.int .i64 ((a0.length : Int))) ∧ E 10 = (.int .i64 ((i15827 : Int))) ∧ E 32 = (.bool x17134) ∧ E 40 = (.bool x17193) ∧ some x17193 = some s17185) #[true, true, true, true, true, true, true, true, true, true, true, true, true, true, true, true, true, true, true, true, true, true, true, true, true, true, true, false] 1 ?_ (fun key17209 => ?_)
              · rintro E W ⟨x17193, L17194, hST, e17196, e17197, e17198, e17199, e17200, e17201, e17202, e17203, e17204, e17205, hm17195⟩
                have hS0 : Has (hp w) ((b16787, Obj.cells ((encCred x15828).toArray : Array Value) 83 (0, 0)) :: ((b14381, Obj.cells ((encCred x16302).toArray : Array Value) 83 (0, 0)) :: (R11499 ++ []))) _ := hST.has.sub (Sub.refl _) (fun p hq => ((List.mem_cons.1 hq).elim (fun hq => by rw [hq]; exact (.head _)) (fun hq => ((List.mem_cons.1 hq).elim (fun hq => by rw [hq]; exact (.tail _ (.head _))) (fun hq => ((List.mem_append.1 hq).elim (fun hq => (.tail _ (.tail _ (List.mem_append_left _ hq)))) (fun hq => (absurd hq List.not_mem_nil))))))))
                refine PV 27 rfl hS0 (R_pickT (v := (.bool x17193)) (e17204.trans (congrArg Value.bool hb17146)) e17205) ?_
                replace hm17195 := Option.some.inj hm17195; subst hm17195
                refine PX_at (by kernel_rfl) (key17188 _ _ ⟨x17193, _, (hST.sublist (List.Sublist.refl _)), e17196, e17197, e17198, e17199, e17200, e17201, e17202, e17203, rfl, hm17187⟩)
              · rcases bool_cases ((!x16301)) with hb17189 | hb17189
                · replace hm17207 := if_t hb17189 hm17207
                  refine PX_no 22 rfl (by kernel_rfl) rfl rfl (by decide) (congrArg Value.bool hb17189) rfl (by decide) (fun _ _ h => h) hS0 ?_
                  refine PX_no 23 rfl (by kernel_rfl) rfl rfl (by decide) (congrArg Value.bool hb17189) rfl (by decide) (fun _ _ h => h) hS0 ?_
                  refine PX_no 24 rfl (by kernel_rfl) rfl rfl (by decide) (congrArg Value.bool hb17189) rfl (by decide) (fun _ _ h => h) hS0 ?_
                  refine PX_no 25 rfl (by kernel_rfl) rfl rfl (by decide) (congrArg Value.bool hb17189) rfl (by decide) (fun _ _ h => h) hS0 ?_
                  refine PX_v 26 rfl (by kernel_rfl) (.inr ⟨18, true, 32, rfl, rfl, by decide, (congrArg Value.bool hb17146)⟩) rfl (by decide) (fun _ _ h => h) hS0 (fun _ _ _ _ => R_pickT (v := (.bool true)) (congrArg Value.bool hb17189) rfl) ?_
                  replace hm17207 := Option.some.inj hm17207; subst hm17207
                  refine PX_at (by kernel_rfl) (key17209 _ _ ⟨true, _, (hST.sublist (List.Sublist.refl _)), e17137, e17138, e17139, e17140, e17141, e17142, e17143, e17144, rfl, rfl, hm17208⟩)
                · replace hm17207 := if_f hb17189 hm17207
                  refine PX_v 22 rfl (by kernel_rfl) (.inr ⟨21, false, 35, rfl, rfl, by decide, (congrArg Value.bool hb17189)⟩) rfl (by decide) (fun _ _ h => h) hS0 (fun l W hpd hs => have hS := hs; R_load (v := (.agg (encCred x15828).toArray)) e17141 (load_boxA hS (.head _) (encCred x15828) rfl Tryz.isAgg83 Tryz.sizeOf83)) ?_
                  refine PX_v 23 rfl (by kernel_rfl) (.inr ⟨21, false, 35, rfl, rfl, by decide, (congrArg Value.bool hb17189)⟩) rfl (by decide) (fun _ _ h => h) hS0 (fun l W hpd hs => have hS := hs; R_load (v := (.agg (encCred x16302).toArray)) e17139 (load_boxA hS (.tail _ (.head _)) (encCred x16302) rfl Tryz.isAgg83 Tryz.sizeOf83)) ?_
                  obtain ⟨r17210, hr17211, hm17207⟩ := bind_some hm17207
                  refine PX_e 24 rfl (by kernel_rfl) (.inr ⟨21, false, 35, rfl, rfl, by decide, (congrArg Value.bool hb17189)⟩) rfl (by decide) (E_gives (args := [(.agg (encCred x15828).toArray), (.agg (encCred x16302).toArray)]) hST rfl Tryz.call107 (by exact args2 rfl rfl) ((w_ref05_Compare x15828 x16302 _ _  hr17211)) (fun W17212 hST => ?_))
                  have hS0 : Has (hp w) ((b16787, Obj.cells ((encCred x15828).toArray : Array Value) 83 (0, 0)) :: ((b14381, Obj.cells ((encCred x16302).toArray : Array Value) 83 (0, 0)) :: (R11499 ++ []))) _ := hST.has.sub (Sub.refl _) (fun p hq => ((List.mem_cons.1 hq).elim (fun hq => by rw [hq]; exact (.head _)) (fun hq => ((List.mem_cons.1 hq).elim (fun hq => by rw [hq]; exact (.tail _ (.head _))) (fun hq => ((List.mem_append.1 hq).elim (fun hq => (.tail _ (.tail _ (List.mem_append_left _ hq)))) (fun hq => (absurd hq List.not_mem_nil))))))))
                  refine ⟨hS0, ?_⟩
                  refine PX_v 25 rfl (by kernel_rfl) (.inr ⟨21, false, 35, rfl, rfl, by decide, (congrArg Value.bool hb17189)⟩) rfl (by decide) (fun _ _ h => h) hS0 (fun _ _ _ _ => R_int (k := .i64) (a := r17210) (b := 0) (v := (.bool ((decide (r17210 < 0))))) rfl rfl rfl) ?_
                  refine PX_v 26 rfl (by kernel_rfl) (.inr ⟨18, true, 32, rfl, rfl, by decide, (congrArg Value.bool hb17146)⟩) rfl (by decide) (fun _ _ h => h) hS0 (fun _ _ _ _ => R_pickF (v := (.bool ((decide (r17210 < 0))))) (congrArg Value.bool hb17189) rfl) ?_
                  replace hm17207 := Option.some.inj hm17207; subst hm17207
                  refine PX_at (by kernel_rfl) (key17209 _ _ ⟨((decide (r17210 < 0))), _, (hST.sublist (List.Sublist.refl _)), e17137, e17138, e17139, e17140, e17141, e17142, e17143, e17144, rfl, rfl, hm17208⟩)
            · replace hm17186 := if_f hb17146 hm17186
              refine PX_no 19 rfl (by kernel_rfl) rfl rfl (by decide) (congrArg Value.bool hb17146) rfl (by decide) (fun _ _ h => h) hS0 ?_
              refine PX_no 20 rfl (by kernel_rfl) rfl rfl (by decide) (congrArg Value.bool hb17146) rfl (by decide) (fun _ _ h => h) hS0 ?_
              refine PX_no 21 rfl (by kernel_rfl) rfl rfl (by decide) (congrArg Value.bool hb17146) rfl (by decide) (fun _ _ h => h) hS0 ?_
              refine PX_nou 22 rfl (by kernel_rfl) rfl rfl (by decide) rfl rfl (by decide) (fun _ _ h => h) hS0 ?_
              refine PX_nou 23 rfl (by kernel_rfl) rfl rfl (by decide) rfl rfl (by decide) (fun _ _ h => h) hS0 ?_
              refine PX_nou 24 rfl (by kernel_rfl) rfl rfl (by decide) rfl rfl (by decide) (fun _ _ h => h) hS0 ?_
              refine PX_nou 25 rfl (by kernel_rfl) rfl rfl (by decide) rfl rfl (by decide) (fun _ _ h => h) hS0 ?_
              refine PX_no 26 rfl (by kernel_rfl) rfl rfl (by decide) (congrArg Value.bool hb17146) rfl (by decide) (fun _ _ h => h) hS0 ?_
              refine PV 27 rfl hS0 (R_pickF (v := (.bool false)) (congrArg Value.bool hb17146) rfl) ?_
              replace hm17186 := Option.some.inj hm17186; subst hm17186
              refine PX_at (by kernel_rfl) (key17188 _ _ ⟨false, _, (hST.sublist (List.Sublist.refl _)), e17137, e17138, e17139, e17140, e17141, e17142, e17143, e17144, rfl, hm17187⟩)
        · rcases bool_cases r17096 with hb17099 | hb17099
          · replace hm17214 := if_t hb17099 hm17214
            refine PX_v 3 rfl (by kernel_rfl) (.inr ⟨2, true, 16, rfl, rfl, by decide, (congrArg Value.bool hb17099)⟩) rfl (by decide) (fun _ _ h => h) hS0 (fun _ _ _ _ => R_move (v := v11496) e16780) ?_
            refine PX_v 4 rfl (by kernel_rfl) (.inr ⟨2, true, 16, rfl, rfl, by decide, (congrArg Value.bool hb17099)⟩) rfl (by decide) (fun _ _ h => h) hS0 (fun _ _ _ _ => R_lenRow Tryz.underlying22 rfl hs11498) ?_
            refine PX_v 5 rfl (by kernel_rfl) (.inr ⟨2, true, 16, rfl, rfl, by decide, (congrArg Value.bool hb17099)⟩) rfl (by decide) (fun _ _ h => h) hS0 (fun _ _ _ _ => R_int (k := .i64) (a := ((l11497.length : Int))) (b := 0) (v := (.bool ((((l11497.length : Int)) == 0)))) rfl rfl rfl) ?_
            refine PX_v 6 rfl (by kernel_rfl) (.inr ⟨2, true, 16, rfl, rfl, by decide, (congrArg Value.bool hb17099)⟩) rfl (by decide) (fun _ _ h => h) hS0 (fun _ _ _ _ => R_move (v := (.bool ((((l11497.length : Int)) == 0)))) rfl) ?_
            obtain ⟨s17239, hm17240, hm17241⟩ := bind_some hm17214
            refine PX_join (J := fun E W => ∃ (x17226 : Bool) (L17227 : List (Nat × Obj)), ST true NoF w W (hp w) ((b16787, Obj.cells ((encCred x15828).toArray : Array Value) 83 (0, 0)) :: ((b14381, Obj.cells ((encCred x16302).toArray : Array Value) 83 (0, 0)) :: (R11499 ++ L17227))) ∧ E 0 = v_a0 ∧ E 3 = v11496 ∧ E 4 = (.pointer (some ⟨b14381, 0, none⟩)) ∧ E 5 = (.bool x16301) ∧ E 7 = (.pointer (some ⟨b16787, 0, none⟩)) ∧ E 8 = v_a0 ∧ E 9 = (.int .i64 ((a0.length : Int))) ∧ E 10 = (.int .i64 ((i15827 : Int))) ∧ E 16 = (.bool r17096) ∧ E 30 = (.bool x17226) ∧ some x17226 = some s17213) #[true, true, true, true, true, true, true, true, true, true, true, true, true, true, true, true, true, false, false, false, false, false, false, false, false, false, false, false] 11 ?_ (fun key17242 => ?_)
            · rintro E W ⟨x17226, L17227, hST, e17229, e17230, e17231, e17232, e17233, e17234, e17235, e17236, e17237, e17238, hm17228⟩
              have hS0 : Has (hp w) ((b16787, Obj.cells ((encCred x15828).toArray : Array Value) 83 (0, 0)) :: ((b14381, Obj.cells ((encCred x16302).toArray : Array Value) 83 (0, 0)) :: (R11499 ++ []))) _ := hST.has.sub (Sub.refl _) (fun p hq => ((List.mem_cons.1 hq).elim (fun hq => by rw [hq]; exact (.head _)) (fun hq => ((List.mem_cons.1 hq).elim (fun hq => by rw [hq]; exact (.tail _ (.head _))) (fun hq => ((List.mem_append.1 hq).elim (fun hq => (.tail _ (.tail _ (List.mem_append_left _ hq)))) (fun hq => (absurd hq List.not_mem_nil))))))))
              refine PV 17 rfl hS0 (R_pickT (v := (.bool x17226)) (e17237.trans (congrArg Value.bool hb17099)) e17238) ?_
              replace hm17228 := Option.some.inj hm17228; subst hm17228
              refine PX_at (by kernel_rfl) (key17216 _ _ ⟨x17226, _, (hST.sublist (List.Sublist.refl _)), e17229, e17230, e17231, e17232, e17233, e17234, e17235, e17236, rfl, hm17215⟩)
            · rcases bool_cases ((((l11497.length : Int)) == 0)) with hb17217 | hb17217
              · replace hm17240 := if_t hb17217 hm17240
                refine PX_no 7 rfl (by kernel_rfl) rfl rfl (by decide) (congrArg Value.bool hb17217) rfl (by decide) (fun _ _ h => h) hS0 ?_
                refine PX_no 8 rfl (by kernel_rfl) rfl rfl (by decide) (congrArg Value.bool hb17217) rfl (by decide) (fun _ _ h => h) hS0 ?_
                refine PX_no 9 rfl (by kernel_rfl) rfl rfl (by decide) (congrArg Value.bool hb17217) rfl (by decide) (fun _ _ h => h) hS0 ?_
                refine PX_no 10 rfl (by kernel_rfl) rfl rfl (by decide) (congrArg Value.bool hb17217) rfl (by decide) (fun _ _ h => h) hS0 ?_
                refine PX_no 11 rfl (by kernel_rfl) rfl rfl (by decide) (congrArg Value.bool hb17217) rfl (by decide) (fun _ _ h => h) hS0 ?_
                refine PX_no 12 rfl (by kernel_rfl) rfl rfl (by decide) (congrArg Value.bool hb17217) rfl (by decide) (fun _ _ h => h) hS0 ?_
                refine PX_no 13 rfl (by kernel_rfl) rfl rfl (by decide) (congrArg Value.bool hb17217) rfl (by decide) (fun _ _ h => h) hS0 ?_
                refine PX_no 14 rfl (by kernel_rfl) rfl rfl (by decide) (congrArg Value.bool hb17217) rfl (by decide) (fun _ _ h => h) hS0 ?_
                refine PX_no 15 rfl (by kernel_rfl) rfl rfl (by decide) (congrArg Value.bool hb17217) rfl (by decide) (fun _ _ h => h) hS0 ?_
                refine PX_v 16 rfl (by kernel_rfl) (.inr ⟨2, true, 16, rfl, rfl, by decide, (congrArg Value.bool hb17099)⟩) rfl (by decide) (fun _ _ h => h) hS0 (fun _ _ _ _ => R_pickT (v := (.bool true)) (congrArg Value.bool hb17217) rfl) ?_
                replace hm17240 := Option.some.inj hm17240; subst hm17240
                refine PX_at (by kernel_rfl) (key17242 _ _ ⟨true, _, (hST.sublist (List.Sublist.refl _)), e16779, e16780, e16781, e16782, rfl, e16783, eN, eI, rfl, rfl, hm17241⟩)
              · replace hm17240 := if_f hb17217 hm17240
                refine PX_v 7 rfl (by kernel_rfl) (.inr ⟨6, false, 20, rfl, rfl, by decide, (congrArg Value.bool hb17217)⟩) rfl (by decide) (fun _ _ h => h) hS0 (fun _ _ _ _ => R_move (v := v11496) e16780) ?_
                refine PX_v 8 rfl (by kernel_rfl) (.inr ⟨6, false, 20, rfl, rfl, by decide, (congrArg Value.bool hb17217)⟩) rfl (by decide) (fun _ _ h => h) hS0 (fun _ _ _ _ => R_move (v := v11496) e16780) ?_
                refine PX_v 9 rfl (by kernel_rfl) (.inr ⟨6, false, 20, rfl, rfl, by decide, (congrArg Value.bool hb17217)⟩) rfl (by decide) (fun _ _ h => h) hS0 (fun _ _ _ _ => R_lenRow Tryz.underlying22 rfl hs11498) ?_
                refine PX_v 10 rfl (by kernel_rfl) (.inr ⟨6, false, 20, rfl, rfl, by decide, (congrArg Value.bool hb17217)⟩) rfl (by decide) (fun _ _ h => h) hS0 (fun _ _ _ _ => R_int (k := .i64) (a := ((l11497.length : Int))) (b := 1) (v := (.int .i64 ((IntKind.i64.wrap (((l11497.length : Int)) - 1))))) rfl rfl rfl) ?_
                obtain ⟨x17246, hx17247, hm17240⟩ := bind_some hm17240
                refine PX_q 11 rfl (by kernel_rfl) (.inr ⟨6, false, 20, rfl, rfl, by decide, (congrArg Value.bool hb17217)⟩) rfl (by decide) (fun _ _ h => h) hS0 (R_indexRow (i := (IntKind.i64.wrap (((l11497.length : Int)) - 1))) (x0 := x17246) Tryz.underlying22 Tryz.sizeOf83 rfl rfl hs11498 (idx_nonneg hx17247) (idx_get hx17247)) (fun p17243 hp17244 => ?_)
                refine PX_v 12 rfl (by kernel_rfl) (.inr ⟨6, false, 20, rfl, rfl, by decide, (congrArg Value.bool hb17217)⟩) rfl (by decide) (fun _ _ h => h) hS0 (fun l W hpd hs => have hS := hs; R_load (v := (.agg (encCred x17246).toArray)) rfl (load_ixA hS (fun p hq => by simp [hq]) hs11498 lenCred hp17244 (idx_get hx17247) Tryz.isAgg83 Tryz.sizeOf83)) ?_
                refine PX_v 13 rfl (by kernel_rfl) (.inr ⟨6, false, 20, rfl, rfl, by decide, (congrArg Value.bool hb17217)⟩) rfl (by decide) (fun _ _ h => h) hS0 (fun l W hpd hs => have hS := hs; R_load (v := (.agg (encCred x15828).toArray)) rfl (load_boxA hS (.head _) (encCred x15828) rfl Tryz.isAgg83 Tryz.sizeOf83)) ?_
                obtain ⟨r17248, hr17249, hm17240⟩ := bind_some hm17240
                refine PX_e 14 rfl (by kernel_rfl) (.inr ⟨6, false, 20, rfl, rfl, by decide, (congrArg Value.bool hb17217)⟩) rfl (by decide) (E_gives (args := [(.agg (encCred x17246).toArray), (.agg (encCred x15828).toArray)]) hST rfl Tryz.call107 (by exact args2 rfl rfl) ((w_ref05_Compare x17246 x15828 _ _  hr17249)) (fun W17250 hST => ?_))
                have hS0 : Has (hp w) ((b16787, Obj.cells ((encCred x15828).toArray : Array Value) 83 (0, 0)) :: ((b14381, Obj.cells ((encCred x16302).toArray : Array Value) 83 (0, 0)) :: (R11499 ++ []))) _ := hST.has.sub (Sub.refl _) (fun p hq => ((List.mem_cons.1 hq).elim (fun hq => by rw [hq]; exact (.head _)) (fun hq => ((List.mem_cons.1 hq).elim (fun hq => by rw [hq]; exact (.tail _ (.head _))) (fun hq => ((List.mem_append.1 hq).elim (fun hq => (.tail _ (.tail _ (List.mem_append_left _ hq)))) (fun hq => (absurd hq List.not_mem_nil))))))))
                refine ⟨hS0, ?_⟩
                refine PX_v 15 rfl (by kernel_rfl) (.inr ⟨6, false, 20, rfl, rfl, by decide, (congrArg Value.bool hb17217)⟩) rfl (by decide) (fun _ _ h => h) hS0 (fun _ _ _ _ => R_int (k := .i64) (a := r17248) (b := 0) (v := (.bool ((decide (r17248 < 0))))) rfl rfl rfl) ?_
                refine PX_v 16 rfl (by kernel_rfl) (.inr ⟨2, true, 16, rfl, rfl, by decide, (congrArg Value.bool hb17099)⟩) rfl (by decide) (fun _ _ h => h) hS0 (fun _ _ _ _ => R_pickF (v := (.bool ((decide (r17248 < 0))))) (congrArg Value.bool hb17217) rfl) ?_
                replace hm17240 := Option.some.inj hm17240; subst hm17240
                refine PX_at (by kernel_rfl) (key17242 _ _ ⟨((decide (r17248 < 0))), _, (hST.sublist (List.Sublist.refl _)), e16779, e16780, e16781, e16782, rfl, e16783, eN, eI, rfl, rfl, hm17241⟩)
          · replace hm17214 := if_f hb17099 hm17214
            refine PX_no 3 rfl (by kernel_rfl) rfl rfl (by decide) (congrArg Value.bool hb17099) rfl (by decide) (fun _ _ h => h) hS0 ?_
            refine PX_no 4 rfl (by kernel_rfl) rfl rfl (by decide) (congrArg Value.bool hb17099) rfl (by decide) (fun _ _ h => h) hS0 ?_
            refine PX_no 5 rfl (by kernel_rfl) rfl rfl (by decide) (congrArg Value.bool hb17099) rfl (by decide) (fun _ _ h => h) hS0 ?_
            refine PX_no 6 rfl (by kernel_rfl) rfl rfl (by decide) (congrArg Value.bool hb17099) rfl (by decide) (fun _ _ h => h) hS0 ?_
            refine PX_nou 7 rfl (by kernel_rfl) rfl rfl (by decide) rfl rfl (by decide) (fun _ _ h => h) hS0 ?_
            refine PX_nou 8 rfl (by kernel_rfl) rfl rfl (by decide) rfl rfl (by decide) (fun _ _ h => h) hS0 ?_
            refine PX_nou 9 rfl (by kernel_rfl) rfl rfl (by decide) rfl rfl (by decide) (fun _ _ h => h) hS0 ?_
            refine PX_nou 10 rfl (by kernel_rfl) rfl rfl (by decide) rfl rfl (by decide) (fun _ _ h => h) hS0 ?_
            refine PX_nou 11 rfl (by kernel_rfl) rfl rfl (by decide) rfl rfl (by decide) (fun _ _ h => h) hS0 ?_
            refine PX_nou 12 rfl (by kernel_rfl) rfl rfl (by decide) rfl rfl (by decide) (fun _ _ h => h) hS0 ?_
            refine PX_nou 13 rfl (by kernel_rfl) rfl rfl (by decide) rfl rfl (by decide) (fun _ _ h => h) hS0 ?_
            refine PX_nou 14 rfl (by kernel_rfl) rfl rfl (by decide) rfl rfl (by decide) (fun _ _ h => h) hS0 ?_
            refine PX_nou 15 rfl (by kernel_rfl) rfl rfl (by decide) rfl rfl (by decide) (fun _ _ h => h) hS0 ?_
            refine PX_no 16 rfl (by kernel_rfl) rfl rfl (by decide) (congrArg Value.bool hb17099) rfl (by decide) (fun _ _ h => h) hS0 ?_
            refine PV 17 rfl hS0 (R_pickF (v := (.bool false)) (congrArg Value.bool hb17099) rfl) ?_
            replace hm17214 := Option.some.inj hm17214; subst hm17214
            refine PX_at (by kernel_rfl) (key17216 _ _ ⟨false, _, (hST.sublist (List.Sublist.refl _)), e16779, e16780, e16781, e16782, rfl, e16783, eN, eI, rfl, hm17215⟩)
      · rintro E W ⟨x16301, x16302, L16777, ⟨eI, eN⟩, hST, e16779, e16780, e16781, e16782, e16783, hm16778⟩
        rw [List.drop_length] at hm16778
        rw [m_ref05_Set_L2] at hm16778
        refine sq_n ?_
        replace hm16778 := Option.some.inj hm16778; subst hm16778
        exact ⟨x16301, x16302, _, (hST.sublist (List.Sublist.refl _)), e16779, e16780, e16781, e16782, hm15826⟩
    · rintro E W ⟨x15807, x15808, L15809, hST, e15811, e15812, e15813, e15814, hm15810⟩
      refine CW_seq ?_
      refine CW_seq ?_
      refine CW_region ?_
      refine LV (R_move (v := (.bool x15807)) e15814) ?_
      refine LV (R_not (b := x15807) rfl) ?_
      refine LW_nil ?_
      refine sq_n ?_
      refine CW_if (b := (!x15807)) rfl (fun hb15815 => ?_) (fun hb15815 => ?_)
      · replace hm15810 := if_t hb15815 hm15810
        refine CW_seq ?_
        refine CW_region ?_
        refine LV (R_move (v := v11496) e15812) ?_
        refine LV (R_assign (v := v11496) rfl) ?_
        refine LW_nil ?_
        refine sq_n ?_
        replace hST : ST true NoF w _ _ (R11499 ++ L15809) := hST.sublist (List.Sublist.cons _ (List.Sublist.refl _))
        refine CW_ret ?_
        refine sq_r (bq_r (sq_r (bq_r (sq_r ?_))))
        replace hm15810 := Option.some.inj hm15810; subst hm15810
        refine retQ_1 (v := v11496) rfl rfl ?_
        exact ⟨_, R11499, rfl, hST.backRow (fun p hq => by simp [hq]) hs11498.nd, hs11498⟩
      · replace hm15810 := if_f hb15815 hm15810
        refine CW_skip ?_
        refine sq_n ?_
        refine CW_region ?_
        refine LV (R_move (v := v11496) e15812) ?_
        refine LV (R_load (v := (.agg (encCred x15808).toArray)) e15813 (load_boxA hST.has (.head _) (encCred x15808) rfl Tryz.isAgg83 Tryz.sizeOf83)) ?_
        refine LE (E_buildSlice (qs := #[(0, (.agg (encCred x15808).toArray))]) (cs := (encCred x15808).toArray) hST (parts1 rfl) (run_lit [(.agg (encCred x15808).toArray)] Tryz.underlying22 Tryz.sizeOf83 Tryz.zeroValue83 (by decide) rfl (by intro v hv; simp only [List.mem_cons, List.not_mem_nil, or_false] at hv; rcases hv with rfl <;> rfl) rfl rfl) (fun W15817 b15816 hST => ?_))
        obtain ⟨l15818, hb15819, hm15810⟩ := bind_some hm15810
        refine LE (E_append (enc := encCred) (v := v11496) (vs := (.slice (some ⟨b15816, 0, none⟩) 1 1)) (R := R11499) [_, _] hST lenCred (by decide) oneCred Tryz.underlying22 info83.1 info83.2.1 rfl info83.2.2.1 info83.2.2.2 rfl rfl hs11498 (Sl.lit (enc := encCred) (l := [x15808]) lenCred rfl (Nat.le_of_ble_eq_true rfl) rfl (hST.at_ (.head _))) hb15819 (fun W15820 v15823 R15821 hST hR15822 => ?_))
        refine LV (R_assign (v := v15823) rfl) ?_
        refine LW_nil ?_
        refine bq_n ?_
        refine sq_n ?_
        replace hST : ST true NoF w _ _ ((b15816, Obj.cells ((encCred x15808).toArray : Array Value) 83 (0, 0)) :: ((b14381, Obj.cells ((encCred x15808).toArray : Array Value) 83 (0, 0)) :: (R15821 ++ L15809))) := hST
        replace hST : ST true NoF w _ _ (R15821 ++ L15809) := hST.sublist (List.Sublist.cons _ (List.Sublist.cons _ (List.Sublist.refl _)))
        exact ⟨n14378, Nat.lt_succ_self _, v15823, l15818, R15821, _, (hST.sublist (List.Sublist.refl _)), e15811, rfl, hR15822, hm15810⟩
theorem w_ref03_Set (v_a0 : Value) (a0 : List ByteArray) (r : List ByteArray) (w : World) (h_a0 : Sl (Pl encSk) 1 (hp w) v_a0 a0) (hm : m_ref03_Set a0 = some r) :
    GivesRow true Tryz.prog 76 [v_a0] w 9 encSk 1 r := by
  have hST := ST.start (dd := true) w
  unfold m_ref03_Set at hm
  refine calls_of_CW (n := 48) Tryz.func76 rfl rfl (Nat.le_of_ble_eq_true rfl) ?_
  refine CW_seq ?_
  refine CW_region ?_
  refine LV (R_assign (v := (.slice none 0 0)) rfl) ?_
  refine LW_nil ?_
  refine sq_n ?_
  refine CW_seq ?_
  refine CW_region ?_
  refine LV (R_assign (v := (.slice none 0 0)) rfl) ?_
  refine LW_nil ?_
  refine sq_n ?_
  refine CW_tail ?_
  refine CW_block (CW_loop (fun m E W => ∃ (v3288 : Value) (l3289 : List ByteArray) (R3291 : List (Nat × Obj)) (L4116 : List (Nat × Obj)), ST true NoF w W (hp w) (R3291 ++ L4116) ∧ E 0 = v_a0 ∧ E 3 = v3288 ∧ Row 9 encSk 1 v3288 l3289 R3291 ∧ m_ref03_Set_L1 a0 m l3289 = some r) FUEL ⟨(.slice none 0 0), ([]), [], _, (hST.sublist (List.Sublist.refl _)), rfl, rfl, (Row.nil _ _ _), hm⟩ ?_)
  rintro m E W ⟨v3288, l3289, R3291, L4116, hST, e4119, e4120, hs3290, hm4117⟩
  cases m with
  | zero => rw [m_ref03_Set_L1] at hm4117; cases hm4117
  | succ n4118 =>
    rw [m_ref03_Set_L1] at hm4117
    refine CW_block ?_
    refine CW_seq ?_
    refine CW_region ?_
    refine LV (R_assign (v := (.string zS)) rfl) ?_
    refine LW_nil ?_
    refine sq_n ?_
    refine CW_seq ?_
    refine CW_seq ?_
    refine CW_region ?_
    refine LV (R_move (v := v_a0) e4119) ?_
    refine LV (R_len Tryz.underlying27 rfl h_a0) ?_
    refine LV (R_move (v := (.int .i64 0)) rfl) ?_
    refine LW_nil ?_
    refine sq_n ?_
    obtain ⟨s4536, hm4537, hm4538⟩ := bind_some hm4117
    refine CW_cut (fun E W => ∃ (x4521 : ByteArray) (L4522 : List (Nat × Obj)), ST true NoF w W (hp w) (R3291 ++ L4522) ∧ E 0 = v_a0 ∧ E 3 = v3288 ∧ E 4 = (.string x4521) ∧ (if (beqS x4521 zS) then some l3289 else (((appB 16 l3289 ([x4521]))).bind fun l4530 => (m_ref03_Set_L1 a0 n4118 l4530))) = some r) ?_ ?_
    · refine CW_range (fun i E W => ∃ (x4673 : ByteArray) (L4806 : List (Nat × Obj)), (E 9 = .int .i64 (i : Nat) ∧ E 8 = .int .i64 (a0.length : Nat)) ∧ ST true NoF w W (hp w) (R3291 ++ L4806) ∧ E 0 = v_a0 ∧ E 3 = v3288 ∧ E 4 = (.string x4673) ∧ E 7 = v_a0 ∧ m_ref03_Set_L2 l3289 (a0.drop i) x4673 = some s4536) a0.length h_a0.len ⟨zS, _, ⟨rfl, rfl⟩, (hST.sublist (List.Sublist.refl _)), e4119, e4120, rfl, rfl, hm4537⟩ (by decide) (by decide) (by decide) (fun _ _ _ h => by obtain ⟨_, _, eIN, _⟩ := h; exact eIN) ?_ ?_
      · rintro i4539 E W hi4545 ⟨x4673, L4806, ⟨eI, eN⟩, hST, e4808, e4809, e4810, e4811, hm4807⟩
        obtain ⟨x4540, xs4541, hx4543, hx4542, hx4544⟩ := drop_cons hi4545
        rw [hx4543] at hm4807
        rw [m_ref03_Set_L2] at hm4807
        refine CW_block ?_
        refine CW_seq ?_
        refine CW_region ?_
        refine LQ (R_indexP (enc := encSk) (i := (i4539 : Int)) (x0 := x4540) Tryz.underlying27 Tryz.sizeOf9 e4811 eI h_a0 (Int.natCast_nonneg _) hx4542) (fun p4812 hp4813 => ?_)
        refine LV (R_load rfl (load_at1 hST.has (y := (.string x4540)) hp4813 Tryz.isAgg9)) ?_
        refine LV (R_assign (v := (.string x4540)) rfl) ?_
        refine LW_nil ?_
        refine sq_n ?_
        refine CW_seq ?_
        refine CW_region ?_
        refine LV (R_move (v := (.string x4540)) rfl) ?_
        obtain ⟨r4815, hr4816, hm4807⟩ := bind_some hm4807
        refine LE (E_gives (args := [(.string x4540)]) hST rfl Tryz.call108 (by exact args1 rfl) ((w_ref03_Right x4540 _ _  hr4816)) (fun W4817 hST => ?_))
        refine LV (R_move (v := (.bool r4815)) rfl) ?_
        obtain ⟨s4908, hm4909, hm4910⟩ := bind_some hm4807
        refine LW_join (J := fun E W => ∃ (x4846 : Bool) (L4847 : List (Nat × Obj)), ST true NoF w W (hp w) (R3291 ++ L4847) ∧ E 0 = v_a0 ∧ E 3 = v3288 ∧ E 4 = (.string x4673) ∧ E 6 = (.string x4540) ∧ E 7 = v_a0 ∧ E 8 = (.int .i64 ((a0.length : Int))) ∧ E 9 = (.int .i64 ((i4539 : Int))) ∧ E 29 = (.bool x4846) ∧ (((if x4846 then (((if (beqS x4673 zS) then some true else some ((ltS x4540 x4673))) : Option Bool).bind fun x4892 => some x4892) else some false) : Option Bool).bind fun x4875 => (if x4875 then (m_ref03_Set_L2 l3289 xs4541 x4540) else (m_ref03_Set_L2 l3289 xs4541 x4673))) = some s4536) 14 ?_ (fun key4911 => ?_)
        · rintro E W ⟨x4846, L4847, hST, e4849, e4850, e4851, e4852, e4853, e4854, e4855, e4856, hm4848⟩
          refine LV (R_move (v := (.bool x4846)) e4856) ?_
          obtain ⟨s4887, hm4888, hm4889⟩ := bind_some hm4848
          refine LW_join (J := fun E W => ∃ (x4875 : Bool) (L4876 : List (Nat × Obj)), ST true NoF w W (hp w) (R3291 ++ L4876) ∧ E 0 = v_a0 ∧ E 3 = v3288 ∧ E 4 = (.string x4673) ∧ E 6 = (.string x4540) ∧ E 7 = v_a0 ∧ E 8 = (.int .i64 ((a0.length : Int))) ∧ E 9 = (.int .i64 ((i4539 : Int))) ∧ E 38 = (.bool x4875) ∧ (if x4875 then (m_ref03_Set_L2 l3289 xs4541 x4540) else (m_ref03_Set_L2 l3289 xs4541 x4673)) = some s4536) 8 ?_ (fun key4890 => ?_)
          · rintro E W ⟨x4875, L4876, hST, e4878, e4879, e4880, e4881, e4882, e4883, e4884, e4885, hm4877⟩
            refine LW_nil ?_
            refine sq_n ?_
            refine CW_if (b := x4875) e4885 (fun hb4886 => ?_) (fun hb4886 => ?_)
            · replace hm4877 := if_t hb4886 hm4877
              refine CW_region ?_
              refine LV (R_move (v := (.string x4540)) e4881) ?_
              refine LV (R_assign (v := (.string x4540)) rfl) ?_
              refine LW_nil ?_
              refine bq_n ?_
              refine sq_n ?_
              exact ⟨e4884, x4540, _, ⟨rfl, e4883⟩, (hST.sublist (List.Sublist.refl _)), e4878, e4879, rfl, e4882, (by rw [hx4544]; exact hm4877)⟩
            · replace hm4877 := if_f hb4886 hm4877
              refine CW_skip ?_
              refine bq_n ?_
              refine sq_n ?_
              exact ⟨e4884, x4673, _, ⟨rfl, e4883⟩, (hST.sublist (List.Sublist.refl _)), e4878, e4879, e4880, e4882, (by rw [hx4544]; exact hm4877)⟩
          · rcases bool_cases x4846 with hb4857 | hb4857
            · replace hm4888 := if_t hb4857 hm4888
              refine LW_v (.inr ⟨17, true, 30, rfl, rfl, by decide, (congrArg Value.bool hb4857)⟩) rfl (by decide) (R_move (v := (.string x4673)) e4851) ?_
              refine LW_v (.inr ⟨17, true, 30, rfl, rfl, by decide, (congrArg Value.bool hb4857)⟩) rfl (by decide) (R_str (a := x4673) (b := zS) (v := (.bool ((beqS x4673 zS)))) rfl rfl rfl) ?_
              refine LW_v (.inr ⟨17, true, 30, rfl, rfl, by decide, (congrArg Value.bool hb4857)⟩) rfl (by decide) (R_move (v := (.bool ((beqS x4673 zS)))) rfl) ?_
              obtain ⟨s4904, hm4905, hm4906⟩ := bind_some hm4888
              refine LW_join (J := fun E W => ∃ (x4892 : Bool) (L4893 : List (Nat × Obj)), ST true NoF w W (hp w) (R3291 ++ L4893) ∧ E 0 = v_a0 ∧ E 3 = v3288 ∧ E 4 = (.string x4673) ∧ E 6 = (.string x4540) ∧ E 7 = v_a0 ∧ E 8 = (.int .i64 ((a0.length : Int))) ∧ E 9 = (.int .i64 ((i4539 : Int))) ∧ E 30 = (.bool x4846) ∧ E 37 = (.bool x4892) ∧ some x4892 = some s4887) 4 ?_ (fun key4907 => ?_)
              · rintro E W ⟨x4892, L4893, hST, e4895, e4896, e4897, e4898, e4899, e4900, e4901, e4902, e4903, hm4894⟩
                refine LV (R_pickT (v := (.bool x4892)) (e4902.trans (congrArg Value.bool hb4857)) e4903) ?_
                replace hm4894 := Option.some.inj hm4894; subst hm4894
                exact key4890 _ _ ⟨x4892, _, (hST.sublist (List.Sublist.refl _)), e4895, e4896, e4897, e4898, e4899, e4900, e4901, rfl, hm4889⟩
              · rcases bool_cases ((beqS x4673 zS)) with hb4891 | hb4891
                · replace hm4905 := if_t hb4891 hm4905
                  refine LW_no rfl (by decide) rfl rfl (by decide) (congrArg Value.bool hb4891) ?_
                  refine LW_no rfl (by decide) rfl rfl (by decide) (congrArg Value.bool hb4891) ?_
                  refine LW_no rfl (by decide) rfl rfl (by decide) (congrArg Value.bool hb4891) ?_
                  refine LW_v (.inr ⟨17, true, 30, rfl, rfl, by decide, (congrArg Value.bool hb4857)⟩) rfl (by decide) (R_pickT (v := (.bool true)) (congrArg Value.bool hb4891) rfl) ?_
                  replace hm4905 := Option.some.inj hm4905; subst hm4905
                  exact key4907 _ _ ⟨true, _, (hST.sublist (List.Sublist.refl _)), e4849, e4850, e4851, e4852, e4853, e4854, e4855, rfl, rfl, hm4906⟩
                · replace hm4905 := if_f hb4891 hm4905
                  refine LW_v (.inr ⟨20, false, 33, rfl, rfl, by decide, (congrArg Value.bool hb4891)⟩) rfl (by decide) (R_move (v := (.string x4540)) e4852) ?_
                  refine LW_v (.inr ⟨20, false, 33, rfl, rfl, by decide, (congrArg Value.bool hb4891)⟩) rfl (by decide) (R_move (v := (.string x4673)) e4851) ?_
                  refine LW_v (.inr ⟨20, false, 33, rfl, rfl, by decide, (congrArg Value.bool hb4891)⟩) rfl (by decide) (R_str (a := x4540) (b := x4673) (v := (.bool ((ltS x4540 x4673)))) rfl rfl rfl) ?_
                  refine LW_v (.inr ⟨17, true, 30, rfl, rfl, by decide, (congrArg Value.bool hb4857)⟩) rfl (by decide) (R_pickF (v := (.bool ((ltS x4540 x4673)))) (congrArg Value.bool hb4891) rfl) ?_
                  replace hm4905 := Option.some.inj hm4905; subst hm4905
                  exact key4907 _ _ ⟨((ltS x4540 x4673)), _, (hST.sublist (List.Sublist.refl _)), e4849, e4850, e4851, e4852, e4853, e4854, e4855, rfl, rfl, hm4906⟩
            · replace hm4888 := if_f hb4857 hm4888
              refine LW_no rfl (by decide) rfl rfl (by decide) (congrArg Value.bool hb4857) ?_
              refine LW_no rfl (by decide) rfl rfl (by decide) (congrArg Value.bool hb4857) ?_
              refine LW_no rfl (by decide) rfl rfl (by decide) (congrArg Value.bool hb4857) ?_
              refine LW_nou rfl (by decide) rfl rfl (by decide) rfl ?_
              refine LW_nou rfl (by decide) rfl rfl (by decide) rfl ?_
              refine LW_nou rfl (by decide) rfl rfl (by decide) rfl ?_
              refine LW_no rfl (by decide) rfl rfl (by decide) (congrArg Value.bool hb4857) ?_
              refine LV (R_pickF (v := (.bool false)) (congrArg Value.bool hb4857) rfl) ?_
              replace hm4888 := Option.some.inj hm4888; subst hm4888
              exact key4890 _ _ ⟨false, _, (hST.sublist (List.Sublist.refl _)), e4849, e4850, e4851, e4852, e4853, e4854, e4855, rfl, hm4889⟩
        · rcases bool_cases r4815 with hb4818 | hb4818
          · replace hm4909 := if_t hb4818 hm4909
            refine LW_v (.inr ⟨2, true, 15, rfl, rfl, by decide, (congrArg Value.bool hb4818)⟩) rfl (by decide) (R_move (v := v3288) e4809) ?_
            refine LW_v (.inr ⟨2, true, 15, rfl, rfl, by decide, (congrArg Value.bool hb4818)⟩) rfl (by decide) (R_lenRow Tryz.underlying27 rfl hs3290) ?_
            refine LW_v (.inr ⟨2, true, 15, rfl, rfl, by decide, (congrArg Value.bool hb4818)⟩) rfl (by decide) (R_int (k := .i64) (a := ((l3289.length : Int))) (b := 0) (v := (.bool ((((l3289.length : Int)) == 0)))) rfl rfl rfl) ?_
            refine LW_v (.inr ⟨2, true, 15, rfl, rfl, by decide, (congrArg Value.bool hb4818)⟩) rfl (by decide) (R_move (v := (.bool ((((l3289.length : Int)) == 0)))) rfl) ?_
            obtain ⟨s4930, hm4931, hm4932⟩ := bind_some hm4909
            refine LW_join (J := fun E W => ∃ (x4918 : Bool) (L4919 : List (Nat × Obj)), ST true NoF w W (hp w) (R3291 ++ L4919) ∧ E 0 = v_a0 ∧ E 3 = v3288 ∧ E 4 = (.string x4673) ∧ E 6 = (.string x4540) ∧ E 7 = v_a0 ∧ E 8 = (.int .i64 ((a0.length : Int))) ∧ E 9 = (.int .i64 ((i4539 : Int))) ∧ E 15 = (.bool r4815) ∧ E 28 = (.bool x4918) ∧ some x4918 = some s4908) 9 ?_ (fun key4933 => ?_)
            · rintro E W ⟨x4918, L4919, hST, e4921, e4922, e4923, e4924, e4925, e4926, e4927, e4928, e4929, hm4920⟩
              refine LV (R_pickT (v := (.bool x4918)) (e4928.trans (congrArg Value.bool hb4818)) e4929) ?_
              replace hm4920 := Option.some.inj hm4920; subst hm4920
              exact key4911 _ _ ⟨x4918, _, (hST.sublist (List.Sublist.refl _)), e4921, e4922, e4923, e4924, e4925, e4926, e4927, rfl, hm4910⟩
            · rcases bool_cases ((((l3289.length : Int)) == 0)) with hb4912 | hb4912
              · replace hm4931 := if_t hb4912 hm4931
                refine LW_no rfl (by decide) rfl rfl (by decide) (congrArg Value.bool hb4912) ?_
                refine LW_no rfl (by decide) rfl rfl (by decide) (congrArg Value.bool hb4912) ?_
                refine LW_no rfl (by decide) rfl rfl (by decide) (congrArg Value.bool hb4912) ?_
                refine LW_no rfl (by decide) rfl rfl (by decide) (congrArg Value.bool hb4912) ?_
                refine LW_no rfl (by decide) rfl rfl (by decide) (congrArg Value.bool hb4912) ?_
                refine LW_no rfl (by decide) rfl rfl (by decide) (congrArg Value.bool hb4912) ?_
                refine LW_no rfl (by decide) rfl rfl (by decide) (congrArg Value.bool hb4912) ?_
                refine LW_no rfl (by decide) rfl rfl (by decide) (congrArg Value.bool hb4912) ?_
                refine LW_v (.inr ⟨2, true, 15, rfl, rfl, by decide, (congrArg Value.bool hb4818)⟩) rfl (by decide) (R_pickT (v := (.bool true)) (congrArg Value.bool hb4912) rfl) ?_
                replace hm4931 := Option.some.inj hm4931; subst hm4931
                exact key4933 _ _ ⟨true, _, (hST.sublist (List.Sublist.refl _)), e4808, e4809, e4810, rfl, e4811, eN, eI, rfl, rfl, hm4932⟩
              · replace hm4931 := if_f hb4912 hm4931
                refine LW_v (.inr ⟨6, false, 19, rfl, rfl, by decide, (congrArg Value.bool hb4912)⟩) rfl (by decide) (R_move (v := (.string x4540)) rfl) ?_
                refine LW_v (.inr ⟨6, false, 19, rfl, rfl, by decide, (congrArg Value.bool hb4912)⟩) rfl (by decide) (R_move (v := v3288) e4809) ?_
                refine LW_v (.inr ⟨6, false, 19, rfl, rfl, by decide, (congrArg Value.bool hb4912)⟩) rfl (by decide) (R_move (v := v3288) e4809) ?_
                refine LW_v (.inr ⟨6, false, 19, rfl, rfl, by decide, (congrArg Value.bool hb4912)⟩) rfl (by decide) (R_lenRow Tryz.underlying27 rfl hs3290) ?_
                refine LW_v (.inr ⟨6, false, 19, rfl, rfl, by decide, (congrArg Value.bool hb4912)⟩) rfl (by decide) (R_int (k := .i64) (a := ((l3289.length : Int))) (b := 1) (v := (.int .i64 ((IntKind.i64.wrap (((l3289.length : Int)) - 1))))) rfl rfl rfl) ?_
                obtain ⟨x4937, hx4938, hm4931⟩ := bind_some hm4931
                refine LW_q (.inr ⟨6, false, 19, rfl, rfl, by decide, (congrArg Value.bool hb4912)⟩) rfl (by decide) (R_indexRow (i := (IntKind.i64.wrap (((l3289.length : Int)) - 1))) (x0 := x4937) Tryz.underlying27 Tryz.sizeOf9 rfl rfl hs3290 (idx_nonneg hx4938) (idx_get hx4938)) (fun p4934 hp4935 => ?_)
                refine LW_v (.inr ⟨6, false, 19, rfl, rfl, by decide, (congrArg Value.bool hb4912)⟩) rfl (by decide) (R_load (v := (.string x4937)) rfl (load_ix1 hST.has (fun p hq => by simp [hq]) hs3290 (fun _ => rfl) hp4935 (idx_get hx4938) (y := (.string x4937)) rfl Tryz.isAgg9)) ?_
                refine LW_v (.inr ⟨6, false, 19, rfl, rfl, by decide, (congrArg Value.bool hb4912)⟩) rfl (by decide) (R_str (a := x4540) (b := x4937) (v := (.bool ((!(ltS x4540 x4937 || beqS x4540 x4937))))) rfl rfl rfl) ?_
                refine LW_v (.inr ⟨2, true, 15, rfl, rfl, by decide, (congrArg Value.bool hb4818)⟩) rfl (by decide) (R_pickF (v := (.bool ((!(ltS x4540 x4937 || beqS x4540 x4937))))) (congrArg Value.bool hb4912) rfl) ?_
                replace hm4931 := Option.some.inj hm4931; subst hm4931
                exact key4933 _ _ ⟨((!(ltS x4540 x4937 || beqS x4540 x4937))), _, (hST.sublist (List.Sublist.refl _)), e4808, e4809, e4810, rfl, e4811, eN, eI, rfl, rfl, hm4932⟩
          · replace hm4909 := if_f hb4818 hm4909
            refine LW_no rfl (by decide) rfl rfl (by decide) (congrArg Value.bool hb4818) ?_
            refine LW_no rfl (by decide) rfl rfl (by decide) (congrArg Value.bool hb4818) ?_
            refine LW_no rfl (by decide) rfl rfl (by decide) (congrArg Value.bool hb4818) ?_
            refine LW_no rfl (by decide) rfl rfl (by decide) (congrArg Value.bool hb4818) ?_
            refine LW_nou rfl (by decide) rfl rfl (by decide) rfl ?_
            refine LW_nou rfl (by decide) rfl rfl (by decide) rfl ?_
            refine LW_nou rfl (by decide) rfl rfl (by decide) rfl ?_
            refine LW_nou rfl (by decide) rfl rfl (by decide) rfl ?_
            refine LW_nou rfl (by decide) rfl rfl (by decide) rfl ?_
            refine LW_nou rfl (by decide) rfl rfl (by decide) rfl ?_
            refine LW_nou rfl (by decide) rfl rfl (by decide) rfl ?_
            refine LW_nou rfl (by decide) rfl rfl (by decide) rfl ?_
            refine LW_no rfl (by decide) rfl rfl (by decide) (congrArg Value.bool hb4818) ?_
            refine LV (R_pickF (v := (.bool false)) (congrArg Value.bool hb4818) rfl) ?_
            replace hm4909 := Option.some.inj hm4909; subst hm4909
            exact key4911 _ _ ⟨false, _, (hST.sublist (List.Sublist.refl _)), e4808, e4809, e4810, rfl, e4811, eN, eI, rfl, hm4910⟩
      · rintro E W ⟨x4673, L4806, ⟨eI, eN⟩, hST, e4808, e4809, e4810, e4811, hm4807⟩
        rw [List.drop_length] at hm4807
        rw [m_ref03_Set_L2] at hm4807
        refine sq_n ?_
        replace hm4807 := Option.some.inj hm4807; subst hm4807
        exact ⟨x4673, _, (hST.sublist (List.Sublist.refl _)), e4808, e4809, e4810, hm4538⟩
    · rintro E W ⟨x4521, L4522, hST, e4524, e4525, e4526, hm4523⟩
      refine CW_seq ?_
      refine CW_seq ?_
      refine CW_region ?_
      refine LV (R_move (v := (.string x4521)) e4526) ?_
      refine LV (R_str (a := x4521) (b := zS) (v := (.bool ((beqS x4521 zS)))) rfl rfl rfl) ?_
      refine LW_nil ?_
      refine sq_n ?_
      refine CW_if (b := (beqS x4521 zS)) rfl (fun hb4527 => ?_) (fun hb4527 => ?_)
      · replace hm4523 := if_t hb4527 hm4523
        refine CW_seq ?_
        refine CW_region ?_
        refine LV (R_move (v := v3288) e4525) ?_
        refine LV (R_assign (v := v3288) rfl) ?_
        refine LW_nil ?_
        refine sq_n ?_
        refine CW_ret ?_
        refine sq_r (bq_r (sq_r (bq_r (sq_r ?_))))
        replace hm4523 := Option.some.inj hm4523; subst hm4523
        refine retQ_1 (v := v3288) rfl rfl ?_
        exact ⟨_, R3291, rfl, hST.backRow (fun p hq => by simp [hq]) hs3290.nd, hs3290⟩
      · replace hm4523 := if_f hb4527 hm4523
        refine CW_skip ?_
        refine sq_n ?_
        refine CW_region ?_
        refine LV (R_move (v := v3288) e4525) ?_
        refine LV (R_move (v := (.string x4521)) e4526) ?_
        refine LE (E_buildSlice (qs := #[(0, (.string x4521))]) (cs := [(.string x4521)].toArray) hST (parts1 rfl) (run_lit [(.string x4521)] Tryz.underlying27 Tryz.sizeOf9 Tryz.zeroValue9 (by decide) rfl (by intro v hv; simp only [List.mem_cons, List.not_mem_nil, or_false] at hv; rcases hv with rfl <;> rfl) rfl rfl) (fun W4529 b4528 hST => ?_))
        obtain ⟨l4530, hb4531, hm4523⟩ := bind_some hm4523
        refine LE (E_append (enc := encSk) (v := v3288) (vs := (.slice (some ⟨b4528, 0, none⟩) 1 1)) (R := R3291) [_] hST (fun _ => rfl) (by decide) oneS Tryz.underlying27 info9.1 info9.2.1 rfl info9.2.2.1 info9.2.2.2 rfl rfl hs3290 (Sl.lit (enc := encSk) (l := [x4521]) (fun _ => rfl) rfl (Nat.le_of_ble_eq_true rfl) rfl (hST.at_ (.head _))) hb4531 (fun W4532 v4535 R4533 hST hR4534 => ?_))
        refine LV (R_assign (v := v4535) rfl) ?_
        refine LW_nil ?_
        refine bq_n ?_
        refine sq_n ?_
        replace hST : ST true NoF w _ _ ((b4528, Obj.cells ([(.string x4521)].toArray : Array Value) 9 (0, 0)) :: (R4533 ++ L4522)) := hST
        replace hST : ST true NoF w _ _ (R4533 ++ L4522) := hST.sublist (List.Sublist.cons _ (List.Sublist.refl _))
        exact ⟨n4118, Nat.lt_succ_self _, v4535, l4530, R4533, _, (hST.sublist (List.Sublist.refl _)), e4524, rfl, hR4534, hm4523⟩
theorem w_ref08_Names (v_a0 : Value) (a0 : List Cred) (r : List ByteArray) (w : World) (h_a0 : Sl (Pl encCred) 9 (hp w) v_a0 a0) (hm : m_ref08_Names a0 = some r) :
    GivesRow true Tryz.prog 88 [v_a0] w 9 encSk 1 r := by
  have hST := ST.start (dd := true) w
  unfold m_ref08_Names at hm
  refine calls_of_CW (n := 29) Tryz.func88 rfl rfl (Nat.le_of_ble_eq_true rfl) ?_
  refine CW_seq ?_
  refine CW_region ?_
  refine LV (R_assign (v := (.slice none 0 0)) rfl) ?_
  refine LW_nil ?_
  refine sq_n ?_
  refine CW_seq ?_
  refine CW_region ?_
  refine LV (R_assign (v := (.slice none 0 0)) rfl) ?_
  refine LW_nil ?_
  refine sq_n ?_
  refine CW_seq ?_
  refine CW_seq ?_
  refine CW_region ?_
  refine LV (R_move (v := v_a0) rfl) ?_
  refine LV (R_len Tryz.underlying22 rfl h_a0) ?_
  refine LV (R_move (v := (.int .i64 0)) rfl) ?_
  refine LW_nil ?_
  refine sq_n ?_
  refine CW_range (fun i E W => ∃ (v85 : Value) (l86 : List ByteArray) (R88 : List (Nat × Obj)) (L109 : List (Nat × Obj)), (E 8 = .int .i64 (i : Nat) ∧ E 7 = .int .i64 (a0.length : Nat)) ∧ ST true NoF w W (hp w) (R88 ++ L109) ∧ E 3 = v85 ∧ E 6 = v_a0 ∧ Row 9 encSk 1 v85 l86 R88 ∧ m_ref08_Names_L1 (a0.drop i) l86 = some r) a0.length h_a0.len ⟨(.slice none 0 0), ([]), [], _, ⟨rfl, rfl⟩, (hST.sublist (List.Sublist.refl _)), rfl, rfl, (Row.nil _ _ _), hm⟩ (by decide) (by decide) (by decide) (fun _ _ _ h => by obtain ⟨_, _, _, _, eIN, _⟩ := h; exact eIN) ?_ ?_
  · rintro i64 E W hi70 ⟨v85, l86, R88, L109, ⟨eI, eN⟩, hST, e111, e112, hs87, hm110⟩
    obtain ⟨x65, xs66, hx68, hx67, hx69⟩ := drop_cons hi70
    rw [hx68] at hm110
    rw [m_ref08_Names_L1] at hm110
    refine CW_block ?_
    refine CW_seq ?_
    refine CW_region ?_
    refine LQ (R_indexP (enc := encCred) (i := (i64 : Int)) (x0 := x65) Tryz.underlying22 Tryz.sizeOf83 e112 eI h_a0 (Int.natCast_nonneg _) hx67) (fun p113 hp114 => ?_)
    refine LV (R_load rfl (load_atA hST.has hp114 Tryz.isAgg83 Tryz.sizeOf83)) ?_
    refine LE (E_alloc hST Tryz.zeroValue83 (fun W117 b116 hST => ?_))
    refine LW_e0 (.inl rfl) rfl (E_store [] (.agg (encCred x65).toArray) ((encCred x65).toArray) hST rfl rfl Tryz.sizeOf83 (oneCred x65) (Nat.le_of_ble_eq_true rfl) rfl (fun W118 hST => ?_))
    refine LW_nil ?_
    refine sq_n ?_
    refine CW_region ?_
    refine LV (R_move (v := v85) e111) ?_
    refine LV (R_field fa83_2 rfl) ?_
    refine LV (R_load (v := (.string x65.Who)) rfl (load_box1 hST.has (.head _) rfl Tryz.isAgg9)) ?_
    refine LV (R_field fa83_1 rfl) ?_
    refine LV (R_field fa47_0 rfl) ?_
    refine LV (R_load (v := (.string x65.Head.Owner)) rfl (load_box1 hST.has (.head _) rfl Tryz.isAgg9)) ?_
    refine LV (R_field fa83_3 rfl) ?_
    refine LV (R_field fa47_0 rfl) ?_
    refine LV (R_load (v := (.string x65.B.Owner)) rfl (load_box1 hST.has (.head _) rfl Tryz.isAgg9)) ?_
    refine LV (R_field fa83_4 rfl) ?_
    refine LV (R_field fa47_0 rfl) ?_
    refine LV (R_load (v := (.string x65.C.Owner)) rfl (load_box1 hST.has (.head _) rfl Tryz.isAgg9)) ?_
    refine LE (E_buildSlice (qs := #[(0, (.string x65.Who)), (1, (.string x65.Head.Owner)), (2, (.string x65.B.Owner)), (3, (.string x65.C.Owner))]) (cs := #[(.string x65.Who), (.string x65.Head.Owner), (.string x65.B.Owner), (.string x65.C.Owner)]) hST (parts4 rfl rfl rfl rfl) (run_lit [(.string x65.Who), (.string x65.Head.Owner), (.string x65.B.Owner), (.string x65.C.Owner)] Tryz.underlying27 Tryz.sizeOf9 Tryz.zeroValue9 (by decide) rfl (by intro v hv; simp only [List.mem_cons, List.not_mem_nil, or_false] at hv; rcases hv with rfl | rfl | rfl | rfl <;> rfl) rfl rfl) (fun W120 b119 hST => ?_))
    replace hST : ST true NoF w _ _ ((b119, Obj.cells (#[(.string x65.Who), (.string x65.Head.Owner), (.string x65.B.Owner), (.string x65.C.Owner)] : Array Value) 9 (0, 0)) :: ((b116, Obj.cells ((encCred x65).toArray : Array Value) 83 (0, 0)) :: (R88 ++ L109))) := hST
    obtain ⟨l121, hb122, hm110⟩ := bind_some hm110
    refine LE (E_append (enc := encSk) (v := v85) (vs := (.slice (some ⟨b119, 0, none⟩) 4 4)) (R := R88) [_, _] hST (fun _ => rfl) (by decide) oneS Tryz.underlying27 info9.1 info9.2.1 rfl info9.2.2.1 info9.2.2.2 rfl rfl hs87 (Sl.lit (enc := encSk) (l := [x65.Who, x65.Head.Owner, x65.B.Owner, x65.C.Owner]) (fun _ => rfl) rfl (Nat.le_of_ble_eq_true rfl) rfl (hST.at_ (.head _))) hb122 (fun W123 v126 R124 hST hR125 => ?_))
    refine LV (R_assign (v := v126) rfl) ?_
    refine LW_nil ?_
    refine bq_n ?_
    refine sq_n ?_
    replace hST : ST true NoF w _ _ ((b119, Obj.cells (#[(.string x65.Who), (.string x65.Head.Owner), (.string x65.B.Owner), (.string x65.C.Owner)] : Array Value) 9 (0, 0)) :: ((b116, Obj.cells ((encCred x65).toArray : Array Value) 83 (0, 0)) :: (R124 ++ L109))) := hST
    replace hST : ST true NoF w _ _ (R124 ++ L109) := hST.sublist (List.Sublist.cons _ (List.Sublist.cons _ (List.Sublist.refl _)))
    exact ⟨eI, v126, l121, R124, _, ⟨rfl, eN⟩, (hST.sublist (List.Sublist.refl _)), rfl, e112, hR125, (by rw [hx69]; exact hm110)⟩
  · rintro E W ⟨v85, l86, R88, L109, ⟨eI, eN⟩, hST, e111, e112, hs87, hm110⟩
    rw [List.drop_length] at hm110
    rw [m_ref08_Names_L1] at hm110
    refine sq_n ?_
    refine CW_seq ?_
    refine CW_region ?_
    refine LV (R_move (v := v85) e111) ?_
    obtain ⟨r127, hr128, hm110⟩ := bind_some hm110
    refine LE (E_givesRow (args := [v85]) [] _ hST rfl Tryz.call76 (by exact args1 rfl) ((w_ref03_Set v85 l86 _ _ (hs87.sl (fun _ => rfl) (fun b o hq => hST.at_ (List.mem_append_left _ hq))) hr128)) (fun W129 v132 μ130 R133 hST hle131 hR134 => ?_))
    refine LV (R_assign (v := v132) rfl) ?_
    refine LW_nil ?_
    refine sq_n ?_
    replace hST : ST true NoF w _ _ (R133 ++ (R88 ++ L109)) := hST
    replace hST : ST true NoF w _ _ (R133 ++ L109) := hST.sublist (List.Sublist.append (List.Sublist.refl _) ((List.Sublist.refl _).trans (List.sublist_append_right _ _)))
    refine CW_ret ?_
    replace hm110 := Option.some.inj hm110; subst hm110
    refine retQ_1 (v := v132) rfl rfl ?_
    exact ⟨_, R133, rfl, hST.backRow (fun p hq => by simp [hq]) hR134.nd, hR134⟩
theorem w_ref08_In (v_a0 : Value) (a0 : List Fact) (a1 : Role) (a2 : ByteArray) (r : Bool) (w : World) (h_a0 : Sl (Pl encFact) 3 (hp w) v_a0 a0) (hm : m_ref08_In a0 a1 a2 = some r) :
    Gives true Tryz.prog 36 [v_a0, (.agg (encRole a1).toArray), (.string a2)] w (.bool r) := by
  have hST := ST.start (dd := true) w
  unfold m_ref08_In at hm
  refine calls_of_CW (n := 26) Tryz.func36 rfl rfl (Nat.le_of_ble_eq_true rfl) ?_
  refine CW_seq ?_
  refine CW_region ?_
  refine LE (E_box (v := (.agg (encRole a1).toArray)) hST rfl (fun W2 b1 hST => ?_))
  refine LV (R_assign (v := (.bool false)) rfl) ?_
  refine LW_nil ?_
  refine sq_n ?_
  refine CW_seq ?_
  refine CW_seq ?_
  refine CW_region ?_
  refine LV (R_move (v := v_a0) rfl) ?_
  refine LV (R_len Tryz.underlying53 rfl h_a0) ?_
  refine LV (R_move (v := (.int .i64 0)) rfl) ?_
  refine LW_nil ?_
  refine sq_n ?_
  refine CW_range (fun i E W => ∃  (L133 : List (Nat × Obj)), (E 11 = .int .i64 (i : Nat) ∧ E 10 = .int .i64 (a0.length : Nat)) ∧ ST true NoF w W (hp w) ((b1, Obj.cells ((encRole a1).toArray : Array Value) 47 (0, 0)) :: L133) ∧ E 2 = (.string a2) ∧ E 4 = (.pointer (some ⟨b1, 0, none⟩)) ∧ E 9 = v_a0 ∧ m_ref08_In_L1 a1 a2 (a0.drop i) = some r) a0.length h_a0.len ⟨_, ⟨rfl, rfl⟩, (hST.sublist (List.Sublist.refl _)), rfl, rfl, rfl, hm⟩ (by decide) (by decide) (by decide) (fun _ _ _ h => by obtain ⟨_, eIN, _⟩ := h; exact eIN) ?_ ?_
  · rintro i81 E W hi87 ⟨L133, ⟨eI, eN⟩, hST, e135, e136, e137, hm134⟩
    obtain ⟨x82, xs83, hx85, hx84, hx86⟩ := drop_cons hi87
    rw [hx85] at hm134
    rw [m_ref08_In_L1] at hm134
    refine CW_block ?_
    refine CW_seq ?_
    refine CW_region ?_
    refine LQ (R_indexP (enc := encFact) (i := (i81 : Int)) (x0 := x82) Tryz.underlying53 Tryz.sizeOf78 e137 eI h_a0 (Int.natCast_nonneg _) hx84) (fun p138 hp139 => ?_)
    refine LV (R_load rfl (load_atA hST.has hp139 Tryz.isAgg78 Tryz.sizeOf78)) ?_
    refine LE (E_alloc hST Tryz.zeroValue78 (fun W142 b141 hST => ?_))
    refine LW_e0 (.inl rfl) rfl (E_store [] (.agg (encFact x82).toArray) ((encFact x82).toArray) hST rfl rfl Tryz.sizeOf78 (oneFact x82) (Nat.le_of_ble_eq_true rfl) rfl (fun W143 hST => ?_))
    refine LW_nil ?_
    refine sq_n ?_
    refine CW_seq ?_
    refine CW_region ?_
    refine LV (R_field fa78_0 rfl) ?_
    refine LV (R_load (v := (.agg (encRole x82.Role).toArray)) rfl (load_boxA hST.has (.head _) (encRole x82.Role) rfl Tryz.isAgg47 Tryz.sizeOf47)) ?_
    refine LV (R_load (v := (.agg (encRole a1).toArray)) e136 (load_boxA hST.has (.tail _ (.head _)) (encRole a1) rfl Tryz.isAgg47 Tryz.sizeOf47)) ?_
    refine LV (R_eql (a := (encRole x82.Role).toArray) (b := (encRole a1).toArray) rfl rfl (guard_agg Tryz.eqGuardType47) (bin_eql (eqInRole _ x82.Role a1))) ?_
    refine LV (R_move (v := (.bool ((beqRole x82.Role a1)))) rfl) ?_
    obtain ⟨s155, hm156, hm157⟩ := bind_some hm134
    refine LW_join (J := fun E W => ∃ (x145 : Bool) (L146 : List (Nat × Obj)), ST true NoF w W (hp w) ((b1, Obj.cells ((encRole a1).toArray : Array Value) 47 (0, 0)) :: L146) ∧ E 2 = (.string a2) ∧ E 4 = (.pointer (some ⟨b1, 0, none⟩)) ∧ E 9 = v_a0 ∧ E 10 = (.int .i64 ((a0.length : Int))) ∧ E 11 = (.int .i64 ((i81 : Int))) ∧ E 24 = (.bool x145) ∧ (if x145 then some true else (m_ref08_In_L1 a1 a2 xs83)) = some r) 5 ?_ (fun key158 => ?_)
    · rintro E W ⟨x145, L146, hST, e148, e149, e150, e151, e152, e153, hm147⟩
      refine LW_nil ?_
      refine sq_n ?_
      refine CW_if (b := x145) e153 (fun hb154 => ?_) (fun hb154 => ?_)
      · replace hm147 := if_t hb154 hm147
        refine CW_seq ?_
        refine CW_region ?_
        refine LV (R_assign (v := (.bool true)) rfl) ?_
        refine LW_nil ?_
        refine sq_n ?_
        replace hST : ST true NoF w _ _ L146 := hST.sublist (List.Sublist.cons _ (List.Sublist.refl _))
        refine CW_ret ?_
        refine bq_r (sq_r (bq_r (sq_r ?_)))
        replace hm147 := Option.some.inj hm147; subst hm147
        refine retQ_1 (v := (.bool true)) rfl rfl ?_
        exact ⟨rfl, hST.ex⟩
      · replace hm147 := if_f hb154 hm147
        refine CW_skip ?_
        refine bq_n ?_
        refine sq_n ?_
        exact ⟨e152, _, ⟨rfl, e151⟩, (hST.sublist (List.Sublist.refl _)), e148, e149, e150, (by rw [hx86]; exact hm147)⟩
    · rcases bool_cases ((beqRole x82.Role a1)) with hb144 | hb144
      · replace hm156 := if_t hb144 hm156
        refine LW_v (.inr ⟨4, true, 19, rfl, rfl, by decide, (congrArg Value.bool hb144)⟩) rfl (by decide) (R_field fa78_1 rfl) ?_
        refine LW_v (.inr ⟨4, true, 19, rfl, rfl, by decide, (congrArg Value.bool hb144)⟩) rfl (by decide) (R_load (v := (.string x82.Who)) rfl (load_box1 hST.has (.head _) rfl Tryz.isAgg9)) ?_
        refine LW_v (.inr ⟨4, true, 19, rfl, rfl, by decide, (congrArg Value.bool hb144)⟩) rfl (by decide) (R_move (v := (.string a2)) e135) ?_
        refine LW_v (.inr ⟨4, true, 19, rfl, rfl, by decide, (congrArg Value.bool hb144)⟩) rfl (by decide) (R_str (a := x82.Who) (b := a2) (v := (.bool ((beqS x82.Who a2)))) rfl rfl rfl) ?_
        refine LV (R_pickT (v := (.bool ((beqS x82.Who a2)))) (congrArg Value.bool hb144) rfl) ?_
        replace hm156 := Option.some.inj hm156; subst hm156
        replace hST : ST true NoF w _ _ ((b141, Obj.cells ((encFact x82).toArray : Array Value) 78 (0, 0)) :: ((b1, Obj.cells ((encRole a1).toArray : Array Value) 47 (0, 0)) :: L133)) := hST
        exact key158 _ _ ⟨((beqS x82.Who a2)), _, (hST.sublist (List.Sublist.cons _ (List.Sublist.refl _))), e135, e136, e137, eN, eI, rfl, hm157⟩
      · replace hm156 := if_f hb144 hm156
        refine LW_no rfl (by decide) rfl rfl (by decide) (congrArg Value.bool hb144) ?_
        refine LW_no rfl (by decide) rfl rfl (by decide) (congrArg Value.bool hb144) ?_
        refine LW_no rfl (by decide) rfl rfl (by decide) (congrArg Value.bool hb144) ?_
        refine LW_no rfl (by decide) rfl rfl (by decide) (congrArg Value.bool hb144) ?_
        refine LV (R_pickF (v := (.bool false)) (congrArg Value.bool hb144) rfl) ?_
        replace hm156 := Option.some.inj hm156; subst hm156
        replace hST : ST true NoF w _ _ ((b141, Obj.cells ((encFact x82).toArray : Array Value) 78 (0, 0)) :: ((b1, Obj.cells ((encRole a1).toArray : Array Value) 47 (0, 0)) :: L133)) := hST
        exact key158 _ _ ⟨false, _, (hST.sublist (List.Sublist.cons _ (List.Sublist.refl _))), e135, e136, e137, eN, eI, rfl, hm157⟩
  · rintro E W ⟨L133, ⟨eI, eN⟩, hST, e135, e136, e137, hm134⟩
    rw [List.drop_length] at hm134
    rw [m_ref08_In_L1] at hm134
    refine sq_n ?_
    replace hST : ST true NoF w _ _ L133 := hST.sublist (List.Sublist.cons _ (List.Sublist.refl _))
    refine CW_seq ?_
    refine CW_region ?_
    refine LV (R_assign (v := (.bool false)) rfl) ?_
    refine LW_nil ?_
    refine sq_n ?_
    refine CW_ret ?_
    replace hm134 := Option.some.inj hm134; subst hm134
    refine retQ_1 (v := (.bool false)) rfl rfl ?_
    exact ⟨rfl, hST.ex⟩
theorem w_ref08_Step (v_a0 : Value) (a0 : List Fact) (a1 : Cred) (v_a2 : Value) (a2 : List ByteArray) (a3 : ByteArray) (r : Bool) (w : World) (h_a0 : Sl (Pl encFact) 3 (hp w) v_a0 a0) (h_a2 : Sl (Pl encSk) 1 (hp w) v_a2 a2) (hm : m_ref08_Step a0 a1 a2 a3 = some r) :
    Gives true Tryz.prog 89 [v_a0, (.agg (encCred a1).toArray), v_a2, (.string a3)] w (.bool r) := by
  have hST := ST.start (dd := true) w
  unfold m_ref08_Step at hm
  refine calls_of_CW (n := 62) Tryz.func89 rfl rfl (Nat.le_of_ble_eq_true rfl) ?_
  refine CW_seq ?_
  refine CW_region ?_
  refine LE (E_box (v := (.agg (encCred a1).toArray)) hST rfl (fun W2 b1 hST => ?_))
  refine LV (R_assign (v := (.bool false)) rfl) ?_
  refine LW_nil ?_
  refine sq_n ?_
  refine CW_seq ?_
  refine CW_seq ?_
  refine CW_region ?_
  refine LV (R_field fa83_0 rfl) ?_
  refine LV (R_load (v := (.int .i64 a1.Kind)) rfl (load_box1 hST.has (.head _) rfl Tryz.isAgg3)) ?_
  refine LV (R_int (k := .i64) (a := a1.Kind) (b := 1) (v := (.bool ((a1.Kind == 1)))) rfl rfl rfl) ?_
  refine LW_nil ?_
  refine sq_n ?_
  refine CW_if (b := (a1.Kind == 1)) rfl (fun hb3 => ?_) (fun hb3 => ?_)
  · replace hm := if_t hb3 hm
    refine CW_seq ?_
    refine CW_region ?_
    refine LV (R_field fa83_2 rfl) ?_
    refine LV (R_load (v := (.string a1.Who)) rfl (load_box1 hST.has (.head _) rfl Tryz.isAgg9)) ?_
    refine LV (R_move (v := (.string a3)) rfl) ?_
    refine LV (R_str (a := a1.Who) (b := a3) (v := (.bool ((beqS a1.Who a3)))) rfl rfl rfl) ?_
    refine LV (R_assign (v := (.bool ((beqS a1.Who a3)))) rfl) ?_
    refine LW_nil ?_
    refine sq_n ?_
    replace hST : ST true NoF w _ _ [] := hST.sublist (List.Sublist.cons _ (List.Sublist.refl _))
    refine CW_ret ?_
    refine sq_r ?_
    replace hm := Option.some.inj hm; subst hm
    refine retQ_1 (v := (.bool ((beqS a1.Who a3)))) rfl rfl ?_
    exact ⟨rfl, hST.ex⟩
  · replace hm := if_f hb3 hm
    refine CW_skip ?_
    refine sq_n ?_
    refine CW_seq ?_
    refine CW_seq ?_
    refine CW_region ?_
    refine LV (R_field fa83_0 rfl) ?_
    refine LV (R_load (v := (.int .i64 a1.Kind)) rfl (load_box1 hST.has (.head _) rfl Tryz.isAgg3)) ?_
    refine LV (R_int (k := .i64) (a := a1.Kind) (b := 2) (v := (.bool ((a1.Kind == 2)))) rfl rfl rfl) ?_
    refine LW_nil ?_
    refine sq_n ?_
    refine CW_if (b := (a1.Kind == 2)) rfl (fun hb4 => ?_) (fun hb4 => ?_)
    · replace hm := if_t hb4 hm
      refine CW_seq ?_
      refine CW_region ?_
      refine LV (R_move (v := v_a0) rfl) ?_
      refine LV (R_field fa83_3 rfl) ?_
      refine LV (R_load (v := (.agg (encRole a1.B).toArray)) rfl (load_boxA hST.has (.head _) (encRole a1.B) rfl Tryz.isAgg47 Tryz.sizeOf47)) ?_
      refine LV (R_move (v := (.string a3)) rfl) ?_
      obtain ⟨r5, hr6, hm⟩ := bind_some hm
      refine LE (E_gives (args := [v_a0, (.agg (encRole a1.B).toArray), (.string a3)]) hST rfl Tryz.call36 (by exact args3 rfl rfl rfl) ((w_ref08_In v_a0 a0 a1.B a3 _ _ (h_a0.mono (Pl.mono _) hST.sub_hp) hr6)) (fun W7 hST => ?_))
      refine LV (R_assign (v := (.bool r5)) rfl) ?_
      refine LW_nil ?_
      refine sq_n ?_
      replace hST : ST true NoF w _ _ [] := hST.sublist (List.Sublist.cons _ (List.Sublist.refl _))
      refine CW_ret ?_
      refine sq_r ?_
      replace hm := Option.some.inj hm; subst hm
      refine retQ_1 (v := (.bool r5)) rfl rfl ?_
      exact ⟨rfl, hST.ex⟩
    · replace hm := if_f hb4 hm
      refine CW_skip ?_
      refine sq_n ?_
      refine CW_seq ?_
      refine CW_seq ?_
      refine CW_region ?_
      refine LV (R_field fa83_0 rfl) ?_
      refine LV (R_load (v := (.int .i64 a1.Kind)) rfl (load_box1 hST.has (.head _) rfl Tryz.isAgg3)) ?_
      refine LV (R_int (k := .i64) (a := a1.Kind) (b := 4) (v := (.bool ((a1.Kind == 4)))) rfl rfl rfl) ?_
      refine LW_nil ?_
      refine sq_n ?_
      refine CW_if (b := (a1.Kind == 4)) rfl (fun hb8 => ?_) (fun hb8 => ?_)
      · replace hm := if_t hb8 hm
        refine CW_seq ?_
        refine CW_region ?_
        refine LV (R_move (v := v_a0) rfl) ?_
        refine LV (R_field fa83_3 rfl) ?_
        refine LV (R_load (v := (.agg (encRole a1.B).toArray)) rfl (load_boxA hST.has (.head _) (encRole a1.B) rfl Tryz.isAgg47 Tryz.sizeOf47)) ?_
        refine LV (R_move (v := (.string a3)) rfl) ?_
        obtain ⟨r9, hr10, hm⟩ := bind_some hm
        refine LE (E_gives (args := [v_a0, (.agg (encRole a1.B).toArray), (.string a3)]) hST rfl Tryz.call36 (by exact args3 rfl rfl rfl) ((w_ref08_In v_a0 a0 a1.B a3 _ _ (h_a0.mono (Pl.mono _) hST.sub_hp) hr10)) (fun W11 hST => ?_))
        refine LV (R_move (v := (.bool r9)) rfl) ?_
        obtain ⟨s21, hm22, hm23⟩ := bind_some hm
        refine LW_join (J := fun E W => ∃ (x16 : Bool) (L17 : List (Nat × Obj)), ST true NoF w W (hp w) L17 ∧ E 8 = (.bool false) ∧ E 40 = (.bool x16) ∧ some x16 = some r) 6 ?_ (fun key24 => ?_)
        · rintro E W ⟨x16, L17, hST, e19, e20, hm18⟩
          refine LV (R_assign (v := (.bool x16)) e20) ?_
          refine LW_nil ?_
          refine sq_n ?_
          refine CW_ret ?_
          refine sq_r ?_
          replace hm18 := Option.some.inj hm18; subst hm18
          refine retQ_1 (v := (.bool x16)) rfl rfl ?_
          exact ⟨rfl, hST.ex⟩
        · rcases bool_cases r9 with hb12 | hb12
          · replace hm22 := if_t hb12 hm22
            refine LW_v (.inr ⟨5, true, 34, rfl, rfl, by decide, (congrArg Value.bool hb12)⟩) rfl (by decide) (R_move (v := v_a0) rfl) ?_
            refine LW_v (.inr ⟨5, true, 34, rfl, rfl, by decide, (congrArg Value.bool hb12)⟩) rfl (by decide) (R_field fa83_4 rfl) ?_
            refine LW_v (.inr ⟨5, true, 34, rfl, rfl, by decide, (congrArg Value.bool hb12)⟩) rfl (by decide) (R_load (v := (.agg (encRole a1.C).toArray)) rfl (load_boxA hST.has (.head _) (encRole a1.C) rfl Tryz.isAgg47 Tryz.sizeOf47)) ?_
            refine LW_v (.inr ⟨5, true, 34, rfl, rfl, by decide, (congrArg Value.bool hb12)⟩) rfl (by decide) (R_move (v := (.string a3)) rfl) ?_
            obtain ⟨r25, hr26, hm22⟩ := bind_some hm22
            refine LW_e (.inr ⟨5, true, 34, rfl, rfl, by decide, (congrArg Value.bool hb12)⟩) rfl (by decide) (E_gives (args := [v_a0, (.agg (encRole a1.C).toArray), (.string a3)]) hST rfl Tryz.call36 (by exact args3 rfl rfl rfl) ((w_ref08_In v_a0 a0 a1.C a3 _ _ (h_a0.mono (Pl.mono _) hST.sub_hp) hr26)) (fun W27 hST => ?_))
            refine LV (R_pickT (v := (.bool r25)) (congrArg Value.bool hb12) rfl) ?_
            replace hm22 := Option.some.inj hm22; subst hm22
            exact key24 _ _ ⟨r25, _, (hST.sublist (List.Sublist.cons _ (List.Sublist.refl _))), rfl, rfl, hm23⟩
          · replace hm22 := if_f hb12 hm22
            refine LW_no rfl (by decide) rfl rfl (by decide) (congrArg Value.bool hb12) ?_
            refine LW_no rfl (by decide) rfl rfl (by decide) (congrArg Value.bool hb12) ?_
            refine LW_no rfl (by decide) rfl rfl (by decide) (congrArg Value.bool hb12) ?_
            refine LW_no rfl (by decide) rfl rfl (by decide) (congrArg Value.bool hb12) ?_
            refine LW_no rfl (by decide) rfl rfl (by decide) (congrArg Value.bool hb12) ?_
            refine LV (R_pickF (v := (.bool false)) (congrArg Value.bool hb12) rfl) ?_
            replace hm22 := Option.some.inj hm22; subst hm22
            exact key24 _ _ ⟨false, _, (hST.sublist (List.Sublist.cons _ (List.Sublist.refl _))), rfl, rfl, hm23⟩
      · replace hm := if_f hb8 hm
        refine CW_skip ?_
        refine sq_n ?_
        refine CW_seq ?_
        refine CW_seq ?_
        refine CW_region ?_
        refine LV (R_move (v := v_a2) rfl) ?_
        refine LV (R_len Tryz.underlying27 rfl h_a2) ?_
        refine LV (R_move (v := (.int .i64 0)) rfl) ?_
        refine LW_nil ?_
        refine sq_n ?_
        refine CW_range (fun i E W => ∃  (L196 : List (Nat × Obj)), (E 43 = .int .i64 (i : Nat) ∧ E 42 = .int .i64 (a2.length : Nat)) ∧ ST true NoF w W (hp w) ((b1, Obj.cells ((encCred a1).toArray : Array Value) 83 (0, 0)) :: L196) ∧ E 0 = v_a0 ∧ E 3 = (.string a3) ∧ E 5 = (.pointer (some ⟨b1, 0, none⟩)) ∧ E 41 = v_a2 ∧ m_ref08_Step_L1 a0 a1 a3 (a2.drop i) = some r) a2.length h_a2.len ⟨_, ⟨rfl, rfl⟩, (hST.sublist (List.Sublist.refl _)), rfl, rfl, rfl, rfl, hm⟩ (by decide) (by decide) (by decide) (fun _ _ _ h => by obtain ⟨_, eIN, _⟩ := h; exact eIN) ?_ ?_
        · rintro i129 E W hi135 ⟨L196, ⟨eI, eN⟩, hST, e198, e199, e200, e201, hm197⟩
          obtain ⟨x130, xs131, hx133, hx132, hx134⟩ := drop_cons hi135
          rw [hx133] at hm197
          rw [m_ref08_Step_L1] at hm197
          refine CW_block ?_
          refine CW_seq ?_
          refine CW_region ?_
          refine LQ (R_indexP (enc := encSk) (i := (i129 : Int)) (x0 := x130) Tryz.underlying27 Tryz.sizeOf9 e201 eI h_a2 (Int.natCast_nonneg _) hx132) (fun p202 hp203 => ?_)
          refine LV (R_load rfl (load_at1 hST.has (y := (.string x130)) hp203 Tryz.isAgg9)) ?_
          refine LV (R_assign (v := (.string x130)) rfl) ?_
          refine LW_nil ?_
          refine sq_n ?_
          refine CW_seq ?_
          refine CW_region ?_
          refine LV (R_move (v := v_a0) e198) ?_
          refine LV (R_field fa83_3 e200) ?_
          refine LV (R_load (v := (.agg (encRole a1.B).toArray)) rfl (load_boxA hST.has (.head _) (encRole a1.B) rfl Tryz.isAgg47 Tryz.sizeOf47)) ?_
          refine LV (R_move (v := (.string x130)) rfl) ?_
          obtain ⟨r205, hr206, hm197⟩ := bind_some hm197
          refine LE (E_gives (args := [v_a0, (.agg (encRole a1.B).toArray), (.string x130)]) hST rfl Tryz.call36 (by exact args3 rfl rfl rfl) ((w_ref08_In v_a0 a0 a1.B x130 _ _ (h_a0.mono (Pl.mono _) hST.sub_hp) hr206)) (fun W207 hST => ?_))
          refine LV (R_move (v := (.bool r205)) rfl) ?_
          obtain ⟨s223, hm224, hm225⟩ := bind_some hm197
          refine LW_join (J := fun E W => ∃ (x212 : Bool) (L213 : List (Nat × Obj)), ST true NoF w W (hp w) ((b1, Obj.cells ((encCred a1).toArray : Array Value) 83 (0, 0)) :: L213) ∧ E 0 = v_a0 ∧ E 3 = (.string a3) ∧ E 5 = (.pointer (some ⟨b1, 0, none⟩)) ∧ E 41 = v_a2 ∧ E 42 = (.int .i64 ((a2.length : Int))) ∧ E 43 = (.int .i64 ((i129 : Int))) ∧ E 60 = (.bool x212) ∧ (if x212 then some true else (m_ref08_Step_L1 a0 a1 a3 xs131)) = some r) 8 ?_ (fun key226 => ?_)
          · rintro E W ⟨x212, L213, hST, e215, e216, e217, e218, e219, e220, e221, hm214⟩
            refine LW_nil ?_
            refine sq_n ?_
            refine CW_if (b := x212) e221 (fun hb222 => ?_) (fun hb222 => ?_)
            · replace hm214 := if_t hb222 hm214
              refine CW_seq ?_
              refine CW_region ?_
              refine LV (R_assign (v := (.bool true)) rfl) ?_
              refine LW_nil ?_
              refine sq_n ?_
              replace hST : ST true NoF w _ _ L213 := hST.sublist (List.Sublist.cons _ (List.Sublist.refl _))
              refine CW_ret ?_
              refine bq_r (sq_r (bq_r (sq_r ?_)))
              replace hm214 := Option.some.inj hm214; subst hm214
              refine retQ_1 (v := (.bool true)) rfl rfl ?_
              exact ⟨rfl, hST.ex⟩
            · replace hm214 := if_f hb222 hm214
              refine CW_skip ?_
              refine bq_n ?_
              refine sq_n ?_
              exact ⟨e220, _, ⟨rfl, e219⟩, (hST.sublist (List.Sublist.refl _)), e215, e216, e217, e218, (by rw [hx134]; exact hm214)⟩
          · rcases bool_cases r205 with hb208 | hb208
            · replace hm224 := if_t hb208 hm224
              refine LW_v (.inr ⟨5, true, 52, rfl, rfl, by decide, (congrArg Value.bool hb208)⟩) rfl (by decide) (R_move (v := v_a0) e198) ?_
              refine LW_v (.inr ⟨5, true, 52, rfl, rfl, by decide, (congrArg Value.bool hb208)⟩) rfl (by decide) (R_move (v := (.string x130)) rfl) ?_
              refine LW_v (.inr ⟨5, true, 52, rfl, rfl, by decide, (congrArg Value.bool hb208)⟩) rfl (by decide) (R_field fa83_5 e200) ?_
              refine LW_v (.inr ⟨5, true, 52, rfl, rfl, by decide, (congrArg Value.bool hb208)⟩) rfl (by decide) (R_load (v := (.string a1.Word2)) rfl (load_box1 hST.has (.head _) rfl Tryz.isAgg9)) ?_
              refine LW_v (.inr ⟨5, true, 52, rfl, rfl, by decide, (congrArg Value.bool hb208)⟩) rfl (by decide) (R_build (qs := #[(0, (.string x130)), (1, (.string a1.Word2))]) (v := (.agg (encRole ((⟨x130, a1.Word2⟩ : Role))).toArray)) (parts2 rfl rfl) (run_build Tryz.zeroValue47 Tryz.underlying47 (pl47 _ Tryz.underlying47) (by kernel_rfl))) ?_
              refine LW_v (.inr ⟨5, true, 52, rfl, rfl, by decide, (congrArg Value.bool hb208)⟩) rfl (by decide) (R_move (v := (.string a3)) e199) ?_
              obtain ⟨r227, hr228, hm224⟩ := bind_some hm224
              refine LW_e (.inr ⟨5, true, 52, rfl, rfl, by decide, (congrArg Value.bool hb208)⟩) rfl (by decide) (E_gives (args := [v_a0, (.agg (encRole ((⟨x130, a1.Word2⟩ : Role))).toArray), (.string a3)]) hST rfl Tryz.call36 (by exact args3 rfl rfl rfl) ((w_ref08_In v_a0 a0 ((⟨x130, a1.Word2⟩ : Role)) a3 _ _ (h_a0.mono (Pl.mono _) hST.sub_hp) hr228)) (fun W229 hST => ?_))
              refine LV (R_pickT (v := (.bool r227)) (congrArg Value.bool hb208) rfl) ?_
              replace hm224 := Option.some.inj hm224; subst hm224
              exact key226 _ _ ⟨r227, _, (hST.sublist (List.Sublist.refl _)), e198, e199, e200, e201, eN, eI, rfl, hm225⟩
            · replace hm224 := if_f hb208 hm224
              refine LW_no rfl (by decide) rfl rfl (by decide) (congrArg Value.bool hb208) ?_
              refine LW_no rfl (by decide) rfl rfl (by decide) (congrArg Value.bool hb208) ?_
              refine LW_no rfl (by decide) rfl rfl (by decide) (congrArg Value.bool hb208) ?_
              refine LW_no rfl (by decide) rfl rfl (by decide) (congrArg Value.bool hb208) ?_
              refine LW_no rfl (by decide) rfl rfl (by decide) (congrArg Value.bool hb208) ?_
              refine LW_no rfl (by decide) rfl rfl (by decide) (congrArg Value.bool hb208) ?_
              refine LW_no rfl (by decide) rfl rfl (by decide) (congrArg Value.bool hb208) ?_
              refine LV (R_pickF (v := (.bool false)) (congrArg Value.bool hb208) rfl) ?_
              replace hm224 := Option.some.inj hm224; subst hm224
              exact key226 _ _ ⟨false, _, (hST.sublist (List.Sublist.refl _)), e198, e199, e200, e201, eN, eI, rfl, hm225⟩
        · rintro E W ⟨L196, ⟨eI, eN⟩, hST, e198, e199, e200, e201, hm197⟩
          rw [List.drop_length] at hm197
          rw [m_ref08_Step_L1] at hm197
          refine sq_n ?_
          replace hST : ST true NoF w _ _ L196 := hST.sublist (List.Sublist.cons _ (List.Sublist.refl _))
          refine CW_seq ?_
          refine CW_region ?_
          refine LV (R_assign (v := (.bool false)) rfl) ?_
          refine LW_nil ?_
          refine sq_n ?_
          refine CW_ret ?_
          replace hm197 := Option.some.inj hm197; subst hm197
          refine retQ_1 (v := (.bool false)) rfl rfl ?_
          exact ⟨rfl, hST.ex⟩
theorem w_ref08_less (a0 : Fact) (a1 : Fact) (r : Bool) (w : World)  (hm : m_ref08_less a0 a1 = some r) :
    Gives true Tryz.prog 139 [(.agg (encFact a0).toArray), (.agg (encFact a1).toArray)] w (.bool r) := by
  have hST := ST.start (dd := true) w
  unfold m_ref08_less at hm
  refine calls_of_CW (n := 24) Tryz.func139 rfl rfl (Nat.le_of_ble_eq_true rfl) ?_
  refine CW_seq ?_
  refine CW_region ?_
  refine LE (E_box (v := (.agg (encFact a0).toArray)) hST rfl (fun W2 b1 hST => ?_))
  refine LE (E_box (v := (.agg (encFact a1).toArray)) hST rfl (fun W4 b3 hST => ?_))
  refine LV (R_assign (v := (.bool false)) rfl) ?_
  refine LW_nil ?_
  refine sq_n ?_
  refine CW_seq ?_
  refine CW_region ?_
  refine LV (R_field fa78_0 rfl) ?_
  refine LV (R_load (v := (.agg (encRole a0.Role).toArray)) rfl (load_boxA hST.has (.tail _ (.head _)) (encRole a0.Role) rfl Tryz.isAgg47 Tryz.sizeOf47)) ?_
  refine LV (R_field fa78_0 rfl) ?_
  refine LV (R_load (v := (.agg (encRole a1.Role).toArray)) rfl (load_boxA hST.has (.head _) (encRole a1.Role) rfl Tryz.isAgg47 Tryz.sizeOf47)) ?_
  obtain ⟨r5, hr6, hm⟩ := bind_some hm
  refine LE (E_gives (args := [(.agg (encRole a0.Role).toArray), (.agg (encRole a1.Role).toArray)]) hST rfl Tryz.call123 (by exact args2 rfl rfl) ((w_ref04_Less a0.Role a1.Role _ _  hr6)) (fun W7 hST => ?_))
  refine LV (R_move (v := (.bool r5)) rfl) ?_
  obtain ⟨s25, hm26, hm27⟩ := bind_some hm
  refine LW_join (J := fun E W => ∃ (x20 : Bool) (L21 : List (Nat × Obj)), ST true NoF w W (hp w) L21 ∧ E 4 = (.bool false) ∧ E 23 = (.bool x20) ∧ some x20 = some r) 13 ?_ (fun key28 => ?_)
  · rintro E W ⟨x20, L21, hST, e23, e24, hm22⟩
    refine LV (R_assign (v := (.bool x20)) e24) ?_
    refine LW_nil ?_
    refine sq_n ?_
    refine CW_ret ?_
    replace hm22 := Option.some.inj hm22; subst hm22
    refine retQ_1 (v := (.bool x20)) rfl rfl ?_
    exact ⟨rfl, hST.ex⟩
  · rcases bool_cases r5 with hb8 | hb8
    · replace hm26 := if_t hb8 hm26
      refine LW_no rfl (by decide) rfl rfl (by decide) (congrArg Value.bool hb8) ?_
      refine LW_no rfl (by decide) rfl rfl (by decide) (congrArg Value.bool hb8) ?_
      refine LW_no rfl (by decide) rfl rfl (by decide) (congrArg Value.bool hb8) ?_
      refine LW_no rfl (by decide) rfl rfl (by decide) (congrArg Value.bool hb8) ?_
      refine LW_no rfl (by decide) rfl rfl (by decide) (congrArg Value.bool hb8) ?_
      refine LW_no rfl (by decide) rfl rfl (by decide) (congrArg Value.bool hb8) ?_
      refine LW_nou rfl (by decide) rfl rfl (by decide) rfl ?_
      refine LW_nou rfl (by decide) rfl rfl (by decide) rfl ?_
      refine LW_nou rfl (by decide) rfl rfl (by decide) rfl ?_
      refine LW_nou rfl (by decide) rfl rfl (by decide) rfl ?_
      refine LW_nou rfl (by decide) rfl rfl (by decide) rfl ?_
      refine LW_no rfl (by decide) rfl rfl (by decide) (congrArg Value.bool hb8) ?_
      refine LV (R_pickT (v := (.bool true)) (congrArg Value.bool hb8) rfl) ?_
      replace hm26 := Option.some.inj hm26; subst hm26
      exact key28 _ _ ⟨true, _, (hST.sublist (List.Sublist.cons _ (List.Sublist.cons _ (List.Sublist.refl _)))), rfl, rfl, hm27⟩
    · replace hm26 := if_f hb8 hm26
      refine LW_v (.inr ⟨5, false, 10, rfl, rfl, by decide, (congrArg Value.bool hb8)⟩) rfl (by decide) (R_field fa78_0 rfl) ?_
      refine LW_v (.inr ⟨5, false, 10, rfl, rfl, by decide, (congrArg Value.bool hb8)⟩) rfl (by decide) (R_load (v := (.agg (encRole a0.Role).toArray)) rfl (load_boxA hST.has (.tail _ (.head _)) (encRole a0.Role) rfl Tryz.isAgg47 Tryz.sizeOf47)) ?_
      refine LW_v (.inr ⟨5, false, 10, rfl, rfl, by decide, (congrArg Value.bool hb8)⟩) rfl (by decide) (R_field fa78_0 rfl) ?_
      refine LW_v (.inr ⟨5, false, 10, rfl, rfl, by decide, (congrArg Value.bool hb8)⟩) rfl (by decide) (R_load (v := (.agg (encRole a1.Role).toArray)) rfl (load_boxA hST.has (.head _) (encRole a1.Role) rfl Tryz.isAgg47 Tryz.sizeOf47)) ?_
      refine LW_v (.inr ⟨5, false, 10, rfl, rfl, by decide, (congrArg Value.bool hb8)⟩) rfl (by decide) (R_eql (a := (encRole a0.Role).toArray) (b := (encRole a1.Role).toArray) rfl rfl (guard_agg Tryz.eqGuardType47) (bin_eql (eqInRole _ a0.Role a1.Role))) ?_
      refine LW_v (.inr ⟨5, false, 10, rfl, rfl, by decide, (congrArg Value.bool hb8)⟩) rfl (by decide) (R_move (v := (.bool ((beqRole a0.Role a1.Role)))) rfl) ?_
      obtain ⟨s36, hm37, hm38⟩ := bind_some hm26
      refine LW_join (J := fun E W => ∃ (x30 : Bool) (L31 : List (Nat × Obj)), ST true NoF w W (hp w) L31 ∧ E 4 = (.bool false) ∧ E 10 = (.bool r5) ∧ E 22 = (.bool x30) ∧ some x30 = some s25) 6 ?_ (fun key39 => ?_)
      · rintro E W ⟨x30, L31, hST, e33, e34, e35, hm32⟩
        refine LV (R_pickF (v := (.bool x30)) (e34.trans (congrArg Value.bool hb8)) e35) ?_
        replace hm32 := Option.some.inj hm32; subst hm32
        exact key28 _ _ ⟨x30, _, (hST.sublist (List.Sublist.refl _)), e33, rfl, hm27⟩
      · rcases bool_cases ((beqRole a0.Role a1.Role)) with hb29 | hb29
        · replace hm37 := if_t hb29 hm37
          refine LW_v (.inr ⟨11, true, 16, rfl, rfl, by decide, (congrArg Value.bool hb29)⟩) rfl (by decide) (R_field fa78_1 rfl) ?_
          refine LW_v (.inr ⟨11, true, 16, rfl, rfl, by decide, (congrArg Value.bool hb29)⟩) rfl (by decide) (R_load (v := (.string a0.Who)) rfl (load_box1 hST.has (.tail _ (.head _)) rfl Tryz.isAgg9)) ?_
          refine LW_v (.inr ⟨11, true, 16, rfl, rfl, by decide, (congrArg Value.bool hb29)⟩) rfl (by decide) (R_field fa78_1 rfl) ?_
          refine LW_v (.inr ⟨11, true, 16, rfl, rfl, by decide, (congrArg Value.bool hb29)⟩) rfl (by decide) (R_load (v := (.string a1.Who)) rfl (load_box1 hST.has (.head _) rfl Tryz.isAgg9)) ?_
          refine LW_v (.inr ⟨11, true, 16, rfl, rfl, by decide, (congrArg Value.bool hb29)⟩) rfl (by decide) (R_str (a := a0.Who) (b := a1.Who) (v := (.bool ((ltS a0.Who a1.Who)))) rfl rfl rfl) ?_
          refine LW_v (.inr ⟨5, false, 10, rfl, rfl, by decide, (congrArg Value.bool hb8)⟩) rfl (by decide) (R_pickT (v := (.bool ((ltS a0.Who a1.Who)))) (congrArg Value.bool hb29) rfl) ?_
          replace hm37 := Option.some.inj hm37; subst hm37
          exact key39 _ _ ⟨((ltS a0.Who a1.Who)), _, (hST.sublist (List.Sublist.cons _ (List.Sublist.cons _ (List.Sublist.refl _)))), rfl, rfl, rfl, hm38⟩
        · replace hm37 := if_f hb29 hm37
          refine LW_no rfl (by decide) rfl rfl (by decide) (congrArg Value.bool hb29) ?_
          refine LW_no rfl (by decide) rfl rfl (by decide) (congrArg Value.bool hb29) ?_
          refine LW_no rfl (by decide) rfl rfl (by decide) (congrArg Value.bool hb29) ?_
          refine LW_no rfl (by decide) rfl rfl (by decide) (congrArg Value.bool hb29) ?_
          refine LW_no rfl (by decide) rfl rfl (by decide) (congrArg Value.bool hb29) ?_
          refine LW_v (.inr ⟨5, false, 10, rfl, rfl, by decide, (congrArg Value.bool hb8)⟩) rfl (by decide) (R_pickF (v := (.bool false)) (congrArg Value.bool hb29) rfl) ?_
          replace hm37 := Option.some.inj hm37; subst hm37
          exact key39 _ _ ⟨false, _, (hST.sublist (List.Sublist.cons _ (List.Sublist.cons _ (List.Sublist.refl _)))), rfl, rfl, rfl, hm38⟩
theorem w_ref08_Sorted (v_a0 : Value) (a0 : List Fact) (r : List Fact) (w : World) (h_a0 : Sl (Pl encFact) 3 (hp w) v_a0 a0) (hm : m_ref08_Sorted a0 = some r) :
    GivesRow true Tryz.prog 90 [v_a0] w 78 encFact 3 r := by
  have hST := ST.start (dd := true) w
  unfold m_ref08_Sorted at hm
  refine calls_of_CW (n := 56) Tryz.func90 rfl rfl (Nat.le_of_ble_eq_true rfl) ?_
  refine CW_seq ?_
  refine CW_region ?_
  refine LV (R_assign (v := (.slice none 0 0)) rfl) ?_
  refine LW_nil ?_
  refine sq_n ?_
  refine CW_seq ?_
  refine CW_region ?_
  refine LV (R_assign (v := (.slice none 0 0)) rfl) ?_
  refine LW_nil ?_
  refine sq_n ?_
  refine CW_seq ?_
  refine CW_seq ?_
  refine CW_region ?_
  refine LV (R_move (v := v_a0) rfl) ?_
  refine LV (R_len Tryz.underlying53 rfl h_a0) ?_
  refine LV (R_move (v := (.int .i64 0)) rfl) ?_
  refine LW_nil ?_
  refine sq_n ?_
  refine CW_range (fun i E W => ∃ (v9337 : Value) (l9338 : List Fact) (R9340 : List (Nat × Obj)) (L11674 : List (Nat × Obj)), (E 9 = .int .i64 (i : Nat) ∧ E 8 = .int .i64 (a0.length : Nat)) ∧ ST true NoF w W (hp w) (R9340 ++ L11674) ∧ E 0 = v_a0 ∧ E 3 = v9337 ∧ Row 78 encFact 3 v9337 l9338 R9340 ∧ m_ref08_Sorted_L1 a0 (a0.drop i) l9338 = some r) a0.length h_a0.len ⟨(.slice none 0 0), ([]), [], _, ⟨rfl, rfl⟩, (hST.sublist (List.Sublist.refl _)), rfl, rfl, (Row.nil _ _ _), hm⟩ (by decide) (by decide) (by decide) (fun _ _ _ h => by obtain ⟨_, _, _, _, eIN, _⟩ := h; exact eIN) ?_ ?_
  · rintro i7003 E W hi7009 ⟨v9337, l9338, R9340, L11674, ⟨eI, eN⟩, hST, e11676, e11677, hs9339, hm11675⟩
    obtain ⟨x7004, xs7005, hx7007, hx7006, hx7008⟩ := drop_cons hi7009
    rw [hx7007] at hm11675
    rw [m_ref08_Sorted_L1] at hm11675
    refine CW_block ?_
    refine CW_seq ?_
    refine CW_region ?_
    refine LV (R_assign (v := (.int .i64 ((-1)))) rfl) ?_
    refine LW_nil ?_
    refine sq_n ?_
    refine CW_seq ?_
    refine CW_seq ?_
    refine CW_region ?_
    refine LV (R_move (v := v_a0) e11676) ?_
    refine LV (R_len Tryz.underlying53 rfl h_a0) ?_
    refine LV (R_move (v := (.int .i64 0)) rfl) ?_
    refine LW_nil ?_
    refine sq_n ?_
    obtain ⟨s12851, hm12852, hm12853⟩ := bind_some hm11675
    refine CW_cut (fun E W => ∃ (x12829 : Int) (L12830 : List (Nat × Obj)), ST true NoF w W (hp w) (R9340 ++ L12830) ∧ E 0 = v_a0 ∧ E 3 = v9337 ∧ E 4 = (.int .i64 x12829) ∧ E 8 = (.int .i64 ((a0.length : Int))) ∧ E 9 = (.int .i64 ((i7003 : Int))) ∧ (if (decide (x12829 ≥ 0)) then (((idx a0 x12829)).bind fun x12841 => (((appB 48 l9338 ([x12841]))).bind fun l12845 => (m_ref08_Sorted_L1 a0 xs7005 l12845))) else (m_ref08_Sorted_L1 a0 xs7005 l9338)) = some r) ?_ ?_
    · refine CW_range (fun i E W => ∃ (x13237 : Int) (L13621 : List (Nat × Obj)), (E 13 = .int .i64 (i : Nat) ∧ E 12 = .int .i64 (a0.length : Nat)) ∧ ST true NoF w W (hp w) (R9340 ++ L13621) ∧ E 0 = v_a0 ∧ E 3 = v9337 ∧ E 4 = (.int .i64 x13237) ∧ E 8 = (.int .i64 ((a0.length : Int))) ∧ E 9 = (.int .i64 ((i7003 : Int))) ∧ E 11 = v_a0 ∧ m_ref08_Sorted_L2 l9338 a0 (a0.drop i) i x13237 = some s12851) a0.length h_a0.len ⟨((-1)), _, ⟨rfl, rfl⟩, (hST.sublist (List.Sublist.refl _)), e11676, e11677, rfl, eN, eI, rfl, hm12852⟩ (by decide) (by decide) (by decide) (fun _ _ _ h => by obtain ⟨_, _, eIN, _⟩ := h; exact eIN) ?_ ?_
      · rintro i12854 E W hi12860 ⟨x13237, L13621, ⟨eI, eN⟩, hST, e13623, e13624, e13625, e13626, e13627, e13628, hm13622⟩
        obtain ⟨x12855, xs12856, hx12858, hx12857, hx12859⟩ := drop_cons hi12860
        rw [hx12858] at hm13622
        rw [m_ref08_Sorted_L2] at hm13622
        refine CW_block ?_
        refine CW_seq ?_
        refine CW_region ?_
        refine LV (R_move (v := (.int .i64 ((i12854 : Int)))) eI) ?_
        refine LQ (R_indexP (enc := encFact) (i := (i12854 : Int)) (x0 := x12855) Tryz.underlying53 Tryz.sizeOf78 e13628 eI h_a0 (Int.natCast_nonneg _) hx12857) (fun p13629 hp13630 => ?_)
        refine LV (R_load rfl (load_atA hST.has hp13630 Tryz.isAgg78 Tryz.sizeOf78)) ?_
        refine LE (E_alloc hST Tryz.zeroValue78 (fun W13633 b13632 hST => ?_))
        refine LV (R_assign (v := (.int .i64 ((i12854 : Int)))) rfl) ?_
        refine LW_e0 (.inl rfl) rfl (E_store [] (.agg (encFact x12855).toArray) ((encFact x12855).toArray) hST rfl rfl Tryz.sizeOf78 (oneFact x12855) (Nat.le_of_ble_eq_true rfl) rfl (fun W13634 hST => ?_))
        refine LW_nil ?_
        refine sq_n ?_
        refine CW_seq ?_
        refine PX_start (fun l W => Has (hp w) ((b13632, Obj.cells ((encFact x12855).toArray : Array Value) 78 (0, 0)) :: (R9340 ++ [])) W) Tryz_mixed ?_
        replace hST := hST.drew
        replace hST : ST true NoF w _ _ ((b13632, Obj.cells ((encFact x12855).toArray : Array Value) 78 (0, 0)) :: (R9340 ++ L13621)) := hST
        have hS0 : Has (hp w) ((b13632, Obj.cells ((encFact x12855).toArray : Array Value) 78 (0, 0)) :: (R9340 ++ [])) _ := hST.has.sub (Sub.refl _) (fun p hq => ((List.mem_cons.1 hq).elim (fun hq => by rw [hq]; exact (.head _)) (fun hq => ((List.mem_append.1 hq).elim (fun hq => (.tail _ (List.mem_append_left _ hq))) (fun hq => (absurd hq List.not_mem_nil))))))
        refine PV 0 rfl hS0 (R_move (v := v9337) e13624) ?_
        refine PV 1 rfl hS0 (R_lenRow Tryz.underlying53 rfl hs9339) ?_
        refine PV 2 rfl hS0 (R_int (k := .i64) (a := ((l9338.length : Int))) (b := 0) (v := (.bool ((((l9338.length : Int)) == 0)))) rfl rfl rfl) ?_
        refine PV 3 rfl hS0 (R_move (v := (.bool ((((l9338.length : Int)) == 0)))) rfl) ?_
        obtain ⟨s13993, hm13994, hm13995⟩ := bind_some hm13622
        refine PX_join (J := fun E W => ∃ (x13890 : Bool) (L13891 : List (Nat × Obj)), ST true NoF w W (hp w) ((b13632, Obj.cells ((encFact x12855).toArray : Array Value) 78 (0, 0)) :: (R9340 ++ L13891)) ∧ E 0 = v_a0 ∧ E 3 = v9337 ∧ E 4 = (.int .i64 x13237) ∧ E 5 = (.int .i64 ((i12854 : Int))) ∧ E 6 = (.pointer (some ⟨b13632, 0, none⟩)) ∧ E 8 = (.int .i64 ((a0.length : Int))) ∧ E 9 = (.int .i64 ((i7003 : Int))) ∧ E 11 = v_a0 ∧ E 12 = (.int .i64 ((a0.length : Int))) ∧ E 13 = (.int .i64 ((i12854 : Int))) ∧ E 30 = (.bool x13890) ∧ (((if x13890 then (((if (decide (x13237 < 0)) then some true else (((idx a0 x13237)).bind fun x13988 => (((m_ref08_less x12855 x13988)).bind fun r13990 => some r13990))) : Option Bool).bind fun x13967 => some x13967) else some false) : Option Bool).bind fun x13940 => (if x13940 then (m_ref08_Sorted_L2 l9338 a0 xs12856 (i12854 + 1) ((i12854 : Int))) else (m_ref08_Sorted_L2 l9338 a0 xs12856 (i12854 + 1) x13237))) = some s12851) #[true, true, true, true, true, true, true, true, true, true, true, true, true, false, false, false, false, false, false, false, false, false, false, false, false] 12 ?_ (fun key13996 => ?_)
        · rintro E W ⟨x13890, L13891, hST, e13893, e13894, e13895, e13896, e13897, e13898, e13899, e13900, e13901, e13902, e13903, hm13892⟩
          have hS0 : Has (hp w) ((b13632, Obj.cells ((encFact x12855).toArray : Array Value) 78 (0, 0)) :: (R9340 ++ [])) _ := hST.has.sub (Sub.refl _) (fun p hq => ((List.mem_cons.1 hq).elim (fun hq => by rw [hq]; exact (.head _)) (fun hq => ((List.mem_append.1 hq).elim (fun hq => (.tail _ (List.mem_append_left _ hq))) (fun hq => (absurd hq List.not_mem_nil))))))
          refine PV 13 rfl hS0 (R_move (v := (.bool x13890)) e13903) ?_
          obtain ⟨s13954, hm13955, hm13956⟩ := bind_some hm13892
          refine PX_join (J := fun E W => ∃ (x13940 : Bool) (L13941 : List (Nat × Obj)), ST true NoF w W (hp w) ((b13632, Obj.cells ((encFact x12855).toArray : Array Value) 78 (0, 0)) :: (R9340 ++ L13941)) ∧ E 0 = v_a0 ∧ E 3 = v9337 ∧ E 4 = (.int .i64 x13237) ∧ E 5 = (.int .i64 ((i12854 : Int))) ∧ E 8 = (.int .i64 ((a0.length : Int))) ∧ E 9 = (.int .i64 ((i7003 : Int))) ∧ E 11 = v_a0 ∧ E 12 = (.int .i64 ((a0.length : Int))) ∧ E 13 = (.int .i64 ((i12854 : Int))) ∧ E 42 = (.bool x13940) ∧ (if x13940 then (m_ref08_Sorted_L2 l9338 a0 xs12856 (i12854 + 1) ((i12854 : Int))) else (m_ref08_Sorted_L2 l9338 a0 xs12856 (i12854 + 1) x13237)) = some s12851) #[true, true, true, true, true, true, true, true, true, true, true, true, true, true, true, true, true, true, true, true, true, true, true, true, true] 0 ?_ (fun key13957 => ?_)
          · rintro E W ⟨x13940, L13941, hST, e13943, e13944, e13945, e13946, e13947, e13948, e13949, e13950, e13951, e13952, hm13942⟩
            have hS0 : Has (hp w) ((b13632, Obj.cells ((encFact x12855).toArray : Array Value) 78 (0, 0)) :: (R9340 ++ [])) _ := hST.has.sub (Sub.refl _) (fun p hq => ((List.mem_cons.1 hq).elim (fun hq => by rw [hq]; exact (.head _)) (fun hq => ((List.mem_append.1 hq).elim (fun hq => (.tail _ (List.mem_append_left _ hq))) (fun hq => (absurd hq List.not_mem_nil))))))
            refine PX_done (by kernel_rfl) ?_
            refine sq_n ?_
            replace hST : ST true NoF w _ _ (R9340 ++ L13941) := hST.sublist (List.Sublist.cons _ (List.Sublist.refl _))
            refine CW_if (b := x13940) e13952 (fun hb13953 => ?_) (fun hb13953 => ?_)
            · replace hm13942 := if_t hb13953 hm13942
              refine CW_region ?_
              refine LV (R_move (v := (.int .i64 ((i12854 : Int)))) e13946) ?_
              refine LV (R_assign (v := (.int .i64 ((i12854 : Int)))) rfl) ?_
              refine LW_nil ?_
              refine bq_n ?_
              refine sq_n ?_
              exact ⟨e13951, ((i12854 : Int)), _, ⟨rfl, e13950⟩, (hST.sublist (List.Sublist.refl _)), e13943, e13944, rfl, e13947, e13948, e13949, (by rw [hx12859]; exact hm13942)⟩
            · replace hm13942 := if_f hb13953 hm13942
              refine CW_skip ?_
              refine bq_n ?_
              refine sq_n ?_
              exact ⟨e13951, x13237, _, ⟨rfl, e13950⟩, (hST.sublist (List.Sublist.refl _)), e13943, e13944, e13945, e13947, e13948, e13949, (by rw [hx12859]; exact hm13942)⟩
          · rcases bool_cases x13890 with hb13904 | hb13904
            · replace hm13955 := if_t hb13904 hm13955
              refine PX_v 14 rfl (by kernel_rfl) (.inr ⟨13, true, 31, rfl, rfl, by decide, (congrArg Value.bool hb13904)⟩) rfl (by decide) (fun _ _ h => h) hS0 (fun _ _ _ _ => R_move (v := (.int .i64 x13237)) e13895) ?_
              refine PX_v 15 rfl (by kernel_rfl) (.inr ⟨13, true, 31, rfl, rfl, by decide, (congrArg Value.bool hb13904)⟩) rfl (by decide) (fun _ _ h => h) hS0 (fun _ _ _ _ => R_int (k := .i64) (a := x13237) (b := 0) (v := (.bool ((decide (x13237 < 0))))) rfl rfl rfl) ?_
              refine PX_v 16 rfl (by kernel_rfl) (.inr ⟨13, true, 31, rfl, rfl, by decide, (congrArg Value.bool hb13904)⟩) rfl (by decide) (fun _ _ h => h) hS0 (fun _ _ _ _ => R_move (v := (.bool ((decide (x13237 < 0))))) rfl) ?_
              obtain ⟨s13981, hm13982, hm13983⟩ := bind_some hm13955
              refine PX_join (J := fun E W => ∃ (x13967 : Bool) (L13968 : List (Nat × Obj)), ST true NoF w W (hp w) ((b13632, Obj.cells ((encFact x12855).toArray : Array Value) 78 (0, 0)) :: (R9340 ++ L13968)) ∧ E 0 = v_a0 ∧ E 3 = v9337 ∧ E 4 = (.int .i64 x13237) ∧ E 5 = (.int .i64 ((i12854 : Int))) ∧ E 8 = (.int .i64 ((a0.length : Int))) ∧ E 9 = (.int .i64 ((i7003 : Int))) ∧ E 11 = v_a0 ∧ E 12 = (.int .i64 ((a0.length : Int))) ∧ E 13 = (.int .i64 ((i12854 : Int))) ∧ E 31 = (.bool x13890) ∧ E 41 = (.bool x13967) ∧ some x13967 = some s13954) #[true, true, true, true, true, true, true, true, true, true, true, true, true, true, true, true, true, true, true, true, true, true, true, true, false] 1 ?_ (fun key13984 => ?_)
              · rintro E W ⟨x13967, L13968, hST, e13970, e13971, e13972, e13973, e13974, e13975, e13976, e13977, e13978, e13979, e13980, hm13969⟩
                have hS0 : Has (hp w) ((b13632, Obj.cells ((encFact x12855).toArray : Array Value) 78 (0, 0)) :: (R9340 ++ [])) _ := hST.has.sub (Sub.refl _) (fun p hq => ((List.mem_cons.1 hq).elim (fun hq => by rw [hq]; exact (.head _)) (fun hq => ((List.mem_append.1 hq).elim (fun hq => (.tail _ (List.mem_append_left _ hq))) (fun hq => (absurd hq List.not_mem_nil))))))
                refine PV 24 rfl hS0 (R_pickT (v := (.bool x13967)) (e13979.trans (congrArg Value.bool hb13904)) e13980) ?_
                replace hm13969 := Option.some.inj hm13969; subst hm13969
                refine PX_at (by kernel_rfl) (key13957 _ _ ⟨x13967, _, (hST.sublist (List.Sublist.refl _)), e13970, e13971, e13972, e13973, e13974, e13975, e13976, e13977, e13978, rfl, hm13956⟩)
              · rcases bool_cases ((decide (x13237 < 0))) with hb13958 | hb13958
                · replace hm13982 := if_t hb13958 hm13982
                  refine PX_no 17 rfl (by kernel_rfl) rfl rfl (by decide) (congrArg Value.bool hb13958) rfl (by decide) (fun _ _ h => h) hS0 ?_
                  refine PX_no 18 rfl (by kernel_rfl) rfl rfl (by decide) (congrArg Value.bool hb13958) rfl (by decide) (fun _ _ h => h) hS0 ?_
                  refine PX_no 19 rfl (by kernel_rfl) rfl rfl (by decide) (congrArg Value.bool hb13958) rfl (by decide) (fun _ _ h => h) hS0 ?_
                  refine PX_no 20 rfl (by kernel_rfl) rfl rfl (by decide) (congrArg Value.bool hb13958) rfl (by decide) (fun _ _ h => h) hS0 ?_
                  refine PX_no 21 rfl (by kernel_rfl) rfl rfl (by decide) (congrArg Value.bool hb13958) rfl (by decide) (fun _ _ h => h) hS0 ?_
                  refine PX_no 22 rfl (by kernel_rfl) rfl rfl (by decide) (congrArg Value.bool hb13958) rfl (by decide) (fun _ _ h => h) hS0 ?_
                  refine PX_v 23 rfl (by kernel_rfl) (.inr ⟨13, true, 31, rfl, rfl, by decide, (congrArg Value.bool hb13904)⟩) rfl (by decide) (fun _ _ h => h) hS0 (fun _ _ _ _ => R_pickT (v := (.bool true)) (congrArg Value.bool hb13958) rfl) ?_
                  replace hm13982 := Option.some.inj hm13982; subst hm13982
                  refine PX_at (by kernel_rfl) (key13984 _ _ ⟨true, _, (hST.sublist (List.Sublist.refl _)), e13893, e13894, e13895, e13896, e13898, e13899, e13900, e13901, e13902, rfl, rfl, hm13983⟩)
                · replace hm13982 := if_f hb13958 hm13982
                  refine PX_v 17 rfl (by kernel_rfl) (.inr ⟨16, false, 34, rfl, rfl, by decide, (congrArg Value.bool hb13958)⟩) rfl (by decide) (fun _ _ h => h) hS0 (fun l W hpd hs => have hS := hs; R_load (v := (.agg (encFact x12855).toArray)) e13897 (load_boxA hS (.head _) (encFact x12855) rfl Tryz.isAgg78 Tryz.sizeOf78)) ?_
                  refine PX_v 18 rfl (by kernel_rfl) (.inr ⟨16, false, 34, rfl, rfl, by decide, (congrArg Value.bool hb13958)⟩) rfl (by decide) (fun _ _ h => h) hS0 (fun _ _ _ _ => R_move (v := v_a0) e13893) ?_
                  refine PX_v 19 rfl (by kernel_rfl) (.inr ⟨16, false, 34, rfl, rfl, by decide, (congrArg Value.bool hb13958)⟩) rfl (by decide) (fun _ _ h => h) hS0 (fun _ _ _ _ => R_move (v := (.int .i64 x13237)) e13895) ?_
                  obtain ⟨x13988, hx13989, hm13982⟩ := bind_some hm13982
                  refine PX_q 20 rfl (by kernel_rfl) (.inr ⟨16, false, 34, rfl, rfl, by decide, (congrArg Value.bool hb13958)⟩) rfl (by decide) (fun _ _ h => h) hS0 (R_indexP (enc := encFact) (i := x13237) (x0 := x13988) Tryz.underlying53 Tryz.sizeOf78 rfl rfl h_a0 (idx_nonneg hx13989) (idx_get hx13989)) (fun p13985 hp13986 => ?_)
                  refine PX_v 21 rfl (by kernel_rfl) (.inr ⟨16, false, 34, rfl, rfl, by decide, (congrArg Value.bool hb13958)⟩) rfl (by decide) (fun _ _ h => h) hS0 (fun l W hpd hs => have hS := hs; R_load rfl (load_atA hS hp13986 Tryz.isAgg78 Tryz.sizeOf78)) ?_
                  obtain ⟨r13990, hr13991, hm13982⟩ := bind_some hm13982
                  refine PX_e 22 rfl (by kernel_rfl) (.inr ⟨16, false, 34, rfl, rfl, by decide, (congrArg Value.bool hb13958)⟩) rfl (by decide) (E_gives (args := [(.agg (encFact x12855).toArray), (.agg (encFact x13988).toArray)]) hST rfl Tryz.call139 (by exact args2 rfl rfl) ((w_ref08_less x12855 x13988 _ _  hr13991)) (fun W13992 hST => ?_))
                  have hS0 : Has (hp w) ((b13632, Obj.cells ((encFact x12855).toArray : Array Value) 78 (0, 0)) :: (R9340 ++ [])) _ := hST.has.sub (Sub.refl _) (fun p hq => ((List.mem_cons.1 hq).elim (fun hq => by rw [hq]; exact (.head _)) (fun hq => ((List.mem_append.1 hq).elim (fun hq => (.tail _ (List.mem_append_left _ hq))) (fun hq => (absurd hq List.not_mem_nil))))))
                  refine ⟨hS0, ?_⟩
                  refine PX_v 23 rfl (by kernel_rfl) (.inr ⟨13, true, 31, rfl, rfl, by decide, (congrArg Value.bool hb13904)⟩) rfl (by decide) (fun _ _ h => h) hS0 (fun _ _ _ _ => R_pickF (v := (.bool r13990)) (congrArg Value.bool hb13958) rfl) ?_
                  replace hm13982 := Option.some.inj hm13982; subst hm13982
                  refine PX_at (by kernel_rfl) (key13984 _ _ ⟨r13990, _, (hST.sublist (List.Sublist.refl _)), e13893, e13894, e13895, e13896, e13898, e13899, e13900, e13901, e13902, rfl, rfl, hm13983⟩)
            · replace hm13955 := if_f hb13904 hm13955
              refine PX_no 14 rfl (by kernel_rfl) rfl rfl (by decide) (congrArg Value.bool hb13904) rfl (by decide) (fun _ _ h => h) hS0 ?_
              refine PX_no 15 rfl (by kernel_rfl) rfl rfl (by decide) (congrArg Value.bool hb13904) rfl (by decide) (fun _ _ h => h) hS0 ?_
              refine PX_no 16 rfl (by kernel_rfl) rfl rfl (by decide) (congrArg Value.bool hb13904) rfl (by decide) (fun _ _ h => h) hS0 ?_
              refine PX_nou 17 rfl (by kernel_rfl) rfl rfl (by decide) rfl rfl (by decide) (fun _ _ h => h) hS0 ?_
              refine PX_nou 18 rfl (by kernel_rfl) rfl rfl (by decide) rfl rfl (by decide) (fun _ _ h => h) hS0 ?_
              refine PX_nou 19 rfl (by kernel_rfl) rfl rfl (by decide) rfl rfl (by decide) (fun _ _ h => h) hS0 ?_
              refine PX_nou 20 rfl (by kernel_rfl) rfl rfl (by decide) rfl rfl (by decide) (fun _ _ h => h) hS0 ?_
              refine PX_nou 21 rfl (by kernel_rfl) rfl rfl (by decide) rfl rfl (by decide) (fun _ _ h => h) hS0 ?_
              refine PX_nou 22 rfl (by kernel_rfl) rfl rfl (by decide) rfl rfl (by decide) (fun _ _ h => h) hS0 ?_
              refine PX_no 23 rfl (by kernel_rfl) rfl rfl (by decide) (congrArg Value.bool hb13904) rfl (by decide) (fun _ _ h => h) hS0 ?_
              refine PV 24 rfl hS0 (R_pickF (v := (.bool false)) (congrArg Value.bool hb13904) rfl) ?_
              replace hm13955 := Option.some.inj hm13955; subst hm13955
              refine PX_at (by kernel_rfl) (key13957 _ _ ⟨false, _, (hST.sublist (List.Sublist.refl _)), e13893, e13894, e13895, e13896, e13898, e13899, e13900, e13901, e13902, rfl, hm13956⟩)
        · rcases bool_cases ((((l9338.length : Int)) == 0)) with hb13881 | hb13881
          · replace hm13994 := if_t hb13881 hm13994
            refine PX_no 4 rfl (by kernel_rfl) rfl rfl (by decide) (congrArg Value.bool hb13881) rfl (by decide) (fun _ _ h => h) hS0 ?_
            refine PX_no 5 rfl (by kernel_rfl) rfl rfl (by decide) (congrArg Value.bool hb13881) rfl (by decide) (fun _ _ h => h) hS0 ?_
            refine PX_no 6 rfl (by kernel_rfl) rfl rfl (by decide) (congrArg Value.bool hb13881) rfl (by decide) (fun _ _ h => h) hS0 ?_
            refine PX_no 7 rfl (by kernel_rfl) rfl rfl (by decide) (congrArg Value.bool hb13881) rfl (by decide) (fun _ _ h => h) hS0 ?_
            refine PX_no 8 rfl (by kernel_rfl) rfl rfl (by decide) (congrArg Value.bool hb13881) rfl (by decide) (fun _ _ h => h) hS0 ?_
            refine PX_no 9 rfl (by kernel_rfl) rfl rfl (by decide) (congrArg Value.bool hb13881) rfl (by decide) (fun _ _ h => h) hS0 ?_
            refine PX_no 10 rfl (by kernel_rfl) rfl rfl (by decide) (congrArg Value.bool hb13881) rfl (by decide) (fun _ _ h => h) hS0 ?_
            refine PX_no 11 rfl (by kernel_rfl) rfl rfl (by decide) (congrArg Value.bool hb13881) rfl (by decide) (fun _ _ h => h) hS0 ?_
            refine PV 12 rfl hS0 (R_pickT (v := (.bool true)) (congrArg Value.bool hb13881) rfl) ?_
            replace hm13994 := Option.some.inj hm13994; subst hm13994
            refine PX_at (by kernel_rfl) (key13996 _ _ ⟨true, _, (hST.sublist (List.Sublist.refl _)), e13623, e13624, e13625, rfl, rfl, e13626, e13627, e13628, eN, eI, rfl, hm13995⟩)
          · replace hm13994 := if_f hb13881 hm13994
            refine PX_v 4 rfl (by kernel_rfl) (.inr ⟨3, false, 21, rfl, rfl, by decide, (congrArg Value.bool hb13881)⟩) rfl (by decide) (fun _ _ h => h) hS0 (fun _ _ _ _ => R_move (v := v9337) e13624) ?_
            refine PX_v 5 rfl (by kernel_rfl) (.inr ⟨3, false, 21, rfl, rfl, by decide, (congrArg Value.bool hb13881)⟩) rfl (by decide) (fun _ _ h => h) hS0 (fun _ _ _ _ => R_move (v := v9337) e13624) ?_
            refine PX_v 6 rfl (by kernel_rfl) (.inr ⟨3, false, 21, rfl, rfl, by decide, (congrArg Value.bool hb13881)⟩) rfl (by decide) (fun _ _ h => h) hS0 (fun _ _ _ _ => R_lenRow Tryz.underlying53 rfl hs9339) ?_
            refine PX_v 7 rfl (by kernel_rfl) (.inr ⟨3, false, 21, rfl, rfl, by decide, (congrArg Value.bool hb13881)⟩) rfl (by decide) (fun _ _ h => h) hS0 (fun _ _ _ _ => R_int (k := .i64) (a := ((l9338.length : Int))) (b := 1) (v := (.int .i64 ((IntKind.i64.wrap (((l9338.length : Int)) - 1))))) rfl rfl rfl) ?_
            obtain ⟨x14000, hx14001, hm13994⟩ := bind_some hm13994
            refine PX_q 8 rfl (by kernel_rfl) (.inr ⟨3, false, 21, rfl, rfl, by decide, (congrArg Value.bool hb13881)⟩) rfl (by decide) (fun _ _ h => h) hS0 (R_indexRow (i := (IntKind.i64.wrap (((l9338.length : Int)) - 1))) (x0 := x14000) Tryz.underlying53 Tryz.sizeOf78 rfl rfl hs9339 (idx_nonneg hx14001) (idx_get hx14001)) (fun p13997 hp13998 => ?_)
            refine PX_v 9 rfl (by kernel_rfl) (.inr ⟨3, false, 21, rfl, rfl, by decide, (congrArg Value.bool hb13881)⟩) rfl (by decide) (fun _ _ h => h) hS0 (fun l W hpd hs => have hS := hs; R_load (v := (.agg (encFact x14000).toArray)) rfl (load_ixA hS (fun p hq => by simp [hq]) hs9339 lenFact hp13998 (idx_get hx14001) Tryz.isAgg78 Tryz.sizeOf78)) ?_
            refine PX_v 10 rfl (by kernel_rfl) (.inr ⟨3, false, 21, rfl, rfl, by decide, (congrArg Value.bool hb13881)⟩) rfl (by decide) (fun _ _ h => h) hS0 (fun l W hpd hs => have hS := hs; R_load (v := (.agg (encFact x12855).toArray)) rfl (load_boxA hS (.head _) (encFact x12855) rfl Tryz.isAgg78 Tryz.sizeOf78)) ?_
            obtain ⟨r14002, hr14003, hm13994⟩ := bind_some hm13994
            refine PX_e 11 rfl (by kernel_rfl) (.inr ⟨3, false, 21, rfl, rfl, by decide, (congrArg Value.bool hb13881)⟩) rfl (by decide) (E_gives (args := [(.agg (encFact x14000).toArray), (.agg (encFact x12855).toArray)]) hST rfl Tryz.call139 (by exact args2 rfl rfl) ((w_ref08_less x14000 x12855 _ _  hr14003)) (fun W14004 hST => ?_))
            have hS0 : Has (hp w) ((b13632, Obj.cells ((encFact x12855).toArray : Array Value) 78 (0, 0)) :: (R9340 ++ [])) _ := hST.has.sub (Sub.refl _) (fun p hq => ((List.mem_cons.1 hq).elim (fun hq => by rw [hq]; exact (.head _)) (fun hq => ((List.mem_append.1 hq).elim (fun hq => (.tail _ (List.mem_append_left _ hq))) (fun hq => (absurd hq List.not_mem_nil))))))
            refine ⟨hS0, ?_⟩
            refine PV 12 rfl hS0 (R_pickF (v := (.bool r14002)) (congrArg Value.bool hb13881) rfl) ?_
            replace hm13994 := Option.some.inj hm13994; subst hm13994
            refine PX_at (by kernel_rfl) (key13996 _ _ ⟨r14002, _, (hST.sublist (List.Sublist.refl _)), e13623, e13624, e13625, rfl, rfl, e13626, e13627, e13628, eN, eI, rfl, hm13995⟩)
      · rintro E W ⟨x13237, L13621, ⟨eI, eN⟩, hST, e13623, e13624, e13625, e13626, e13627, e13628, hm13622⟩
        rw [List.drop_length] at hm13622
        rw [m_ref08_Sorted_L2] at hm13622
        refine sq_n ?_
        replace hm13622 := Option.some.inj hm13622; subst hm13622
        exact ⟨x13237, _, (hST.sublist (List.Sublist.refl _)), e13623, e13624, e13625, e13626, e13627, hm12853⟩
    · rintro E W ⟨x12829, L12830, hST, e12832, e12833, e12834, e12835, e12836, hm12831⟩
      refine CW_seq ?_
      refine CW_region ?_
      refine LV (R_move (v := (.int .i64 x12829)) e12834) ?_
      refine LV (R_int (k := .i64) (a := x12829) (b := 0) (v := (.bool ((decide (x12829 ≥ 0))))) rfl rfl rfl) ?_
      refine LW_nil ?_
      refine sq_n ?_
      refine CW_if (b := (decide (x12829 ≥ 0))) rfl (fun hb12837 => ?_) (fun hb12837 => ?_)
      · replace hm12831 := if_t hb12837 hm12831
        refine CW_region ?_
        refine LV (R_move (v := v9337) e12833) ?_
        refine LV (R_move (v := v_a0) e12832) ?_
        refine LV (R_move (v := (.int .i64 x12829)) e12834) ?_
        obtain ⟨x12841, hx12842, hm12831⟩ := bind_some hm12831
        refine LQ (R_indexP (enc := encFact) (i := x12829) (x0 := x12841) Tryz.underlying53 Tryz.sizeOf78 rfl rfl h_a0 (idx_nonneg hx12842) (idx_get hx12842)) (fun p12838 hp12839 => ?_)
        refine LV (R_load rfl (load_atA hST.has hp12839 Tryz.isAgg78 Tryz.sizeOf78)) ?_
        refine LE (E_buildSlice (qs := #[(0, (.agg (encFact x12841).toArray))]) (cs := (encFact x12841).toArray) hST (parts1 rfl) (run_lit [(.agg (encFact x12841).toArray)] Tryz.underlying53 Tryz.sizeOf78 Tryz.zeroValue78 (by decide) rfl (by intro v hv; simp only [List.mem_cons, List.not_mem_nil, or_false] at hv; rcases hv with rfl <;> rfl) rfl rfl) (fun W12844 b12843 hST => ?_))
        obtain ⟨l12845, hb12846, hm12831⟩ := bind_some hm12831
        refine LE (E_append (enc := encFact) (v := v9337) (vs := (.slice (some ⟨b12843, 0, none⟩) 1 1)) (R := R9340) [_] hST lenFact (by decide) oneFact Tryz.underlying53 info78.1 info78.2.1 rfl info78.2.2.1 info78.2.2.2 rfl rfl hs9339 (Sl.lit (enc := encFact) (l := [x12841]) lenFact rfl (Nat.le_of_ble_eq_true rfl) rfl (hST.at_ (.head _))) hb12846 (fun W12847 v12850 R12848 hST hR12849 => ?_))
        refine LV (R_assign (v := v12850) rfl) ?_
        refine LW_nil ?_
        refine bq_n ?_
        refine sq_n ?_
        replace hST : ST true NoF w _ _ ((b12843, Obj.cells ((encFact x12841).toArray : Array Value) 78 (0, 0)) :: (R12848 ++ L12830)) := hST
        replace hST : ST true NoF w _ _ (R12848 ++ L12830) := hST.sublist (List.Sublist.cons _ (List.Sublist.refl _))
        exact ⟨e12836, v12850, l12845, R12848, _, ⟨rfl, e12835⟩, (hST.sublist (List.Sublist.refl _)), e12832, rfl, hR12849, (by rw [hx7008]; exact hm12831)⟩
      · replace hm12831 := if_f hb12837 hm12831
        refine CW_skip ?_
        refine bq_n ?_
        refine sq_n ?_
        exact ⟨e12836, v9337, l9338, R9340, _, ⟨rfl, e12835⟩, (hST.sublist (List.Sublist.refl _)), e12832, e12833, hs9339, (by rw [hx7008]; exact hm12831)⟩
  · rintro E W ⟨v9337, l9338, R9340, L11674, ⟨eI, eN⟩, hST, e11676, e11677, hs9339, hm11675⟩
    rw [List.drop_length] at hm11675
    rw [m_ref08_Sorted_L1] at hm11675
    refine sq_n ?_
    refine CW_seq ?_
    refine CW_region ?_
    refine LV (R_move (v := v9337) e11677) ?_
    refine LV (R_assign (v := v9337) rfl) ?_
    refine LW_nil ?_
    refine sq_n ?_
    refine CW_ret ?_
    replace hm11675 := Option.some.inj hm11675; subst hm11675
    refine retQ_1 (v := v9337) rfl rfl ?_
    exact ⟨_, R9340, rfl, hST.backRow (fun p hq => by simp [hq]) hs9339.nd, hs9339⟩
theorem w_ref08_Of (v_a0 : Value) (a0 : List Cred) (r : List Fact) (w : World) (h_a0 : Sl (Pl encCred) 9 (hp w) v_a0 a0) (hm : m_ref08_Of a0 = some r) :
    GivesRow true Tryz.prog 32 [v_a0] w 78 encFact 3 r := by
  have hST := ST.start (dd := true) w
  unfold m_ref08_Of at hm
  refine calls_of_CW (n := 53) Tryz.func32 rfl rfl (Nat.le_of_ble_eq_true rfl) ?_
  refine CW_seq ?_
  refine CW_region ?_
  refine LV (R_assign (v := (.slice none 0 0)) rfl) ?_
  refine LW_nil ?_
  refine sq_n ?_
  refine CW_seq ?_
  refine CW_region ?_
  refine LV (R_move (v := v_a0) rfl) ?_
  obtain ⟨r1, hr2, hm⟩ := bind_some hm
  refine LE (E_givesRow (args := [v_a0]) [] _ hST rfl Tryz.call49 (by exact args1 rfl) ((w_ref05_Set v_a0 a0 _ _ (h_a0.mono (Pl.mono _) hST.sub_hp) hr2)) (fun W3 v6 μ4 R7 hST hle5 hR8 => ?_))
  refine LV (R_assign (v := v6) rfl) ?_
  refine LW_nil ?_
  refine sq_n ?_
  refine CW_seq ?_
  refine CW_region ?_
  refine LV (R_move (v := v6) rfl) ?_
  replace hST : ST true NoF w _ _ (R7 ++ []) := hST
  obtain ⟨r9, hr10, hm⟩ := bind_some hm
  refine LE (E_givesRow (args := [v6]) [] _ hST rfl Tryz.call88 (by exact args1 rfl) ((w_ref08_Names v6 r1 _ _ (hR8.sl lenCred (fun b o hq => hST.at_ (List.mem_append_left _ hq))) hr10)) (fun W11 v14 μ12 R15 hST hle13 hR16 => ?_))
  refine LV (R_assign (v := v14) rfl) ?_
  refine LW_nil ?_
  refine sq_n ?_
  refine CW_seq ?_
  refine CW_region ?_
  refine LV (R_assign (v := (.slice none 0 0)) rfl) ?_
  refine LW_nil ?_
  refine sq_n ?_
  refine CW_tail ?_
  replace hST : ST true NoF w _ _ (R15 ++ (R7 ++ [])) := hST
  refine CW_block (CW_loop (fun m E W => ∃ (v8734 : Value) (l8735 : List Fact) (R8737 : List (Nat × Obj)) (L10920 : List (Nat × Obj)), ST true NoF w W μ12 (R8737 ++ (R15 ++ (R7 ++ L10920))) ∧ E 3 = v6 ∧ E 4 = v14 ∧ E 5 = v8734 ∧ Row 78 encFact 3 v8734 l8735 R8737 ∧ m_ref08_Of_L1 r9 r1 m l8735 = some r) FUEL ⟨(.slice none 0 0), ([]), [], _, (hST.sublist (List.Sublist.refl _)), rfl, rfl, rfl, (Row.nil _ _ _), hm⟩ ?_)
  rintro m E W ⟨v8734, l8735, R8737, L10920, hST, e10923, e10924, e10925, hs8736, hm10921⟩
  cases m with
  | zero => rw [m_ref08_Of_L1] at hm10921; cases hm10921
  | succ n10922 =>
    rw [m_ref08_Of_L1] at hm10921
    refine CW_block ?_
    refine CW_seq ?_
    refine CW_region ?_
    refine LV (R_assign (v := (.bool false)) rfl) ?_
    refine LW_nil ?_
    refine sq_n ?_
    refine CW_seq ?_
    refine CW_seq ?_
    refine CW_region ?_
    refine LV (R_move (v := v6) e10923) ?_
    refine LV (R_lenRow Tryz.underlying22 rfl hR8) ?_
    refine LV (R_move (v := (.int .i64 0)) rfl) ?_
    refine LW_nil ?_
    refine sq_n ?_
    obtain ⟨s12022, hm12023, hm12024⟩ := bind_some hm10921
    refine CW_cut (fun E W => ∃ (v12002 : Value) (l12003 : List Fact) (R12005 : List (Nat × Obj)) (x12006 : Bool) (L12007 : List (Nat × Obj)), ST true NoF w W μ12 (R12005 ++ (R15 ++ (R7 ++ L12007))) ∧ E 3 = v6 ∧ E 4 = v14 ∧ E 5 = v12002 ∧ E 6 = (.bool x12006) ∧ Row 78 encFact 3 v12002 l12003 R12005 ∧ (if (!x12006) then (((m_ref08_Sorted l12003)).bind fun r12014 => some r12014) else (m_ref08_Of_L1 r9 r1 n10922 l12003)) = some r) ?_ ?_
    · refine CW_range (fun i E W => ∃ (v12381 : Value) (l12382 : List Fact) (R12384 : List (Nat × Obj)) (x12385 : Bool) (L12745 : List (Nat × Obj)), (E 17 = .int .i64 (i : Nat) ∧ E 16 = .int .i64 (r1.length : Nat)) ∧ ST true NoF w W μ12 (R12384 ++ (R15 ++ (R7 ++ L12745))) ∧ E 3 = v6 ∧ E 4 = v14 ∧ E 5 = v12381 ∧ E 6 = (.bool x12385) ∧ E 15 = v6 ∧ Row 78 encFact 3 v12381 l12382 R12384 ∧ m_ref08_Of_L2 r9 (r1.drop i) l12382 x12385 = some s12022) r1.length hR8.len ⟨v8734, l8735, R8737, false, _, ⟨rfl, rfl⟩, (hST.sublist (List.Sublist.refl _)), e10923, e10924, e10925, rfl, rfl, hs8736, hm12023⟩ (by decide) (by decide) (by decide) (fun _ _ _ h => by obtain ⟨_, _, _, _, _, eIN, _⟩ := h; exact eIN) ?_ ?_
      · rintro i12025 E W hi12031 ⟨v12381, l12382, R12384, x12385, L12745, ⟨eI, eN⟩, hST, e12747, e12748, e12749, e12750, e12751, hs12383, hm12746⟩
        obtain ⟨x12026, xs12027, hx12029, hx12028, hx12030⟩ := drop_cons hi12031
        rw [hx12029] at hm12746
        rw [m_ref08_Of_L2] at hm12746
        refine CW_block ?_
        refine CW_seq ?_
        refine CW_region ?_
        refine LQ (R_indexRow (i := (i12025 : Int)) (x0 := x12026) Tryz.underlying22 Tryz.sizeOf83 e12751 eI hR8 (Int.natCast_nonneg _) hx12028) (fun p12752 hp12753 => ?_)
        refine LV (R_load (v := (.agg (encCred x12026).toArray)) rfl (load_ixA hST.has (fun p hq => by simp [hq]) hR8 lenCred hp12753 hx12028 Tryz.isAgg83 Tryz.sizeOf83)) ?_
        refine LE (E_alloc hST Tryz.zeroValue83 (fun W12756 b12755 hST => ?_))
        refine LW_e0 (.inl rfl) rfl (E_store [] (.agg (encCred x12026).toArray) ((encCred x12026).toArray) hST rfl rfl Tryz.sizeOf83 (oneCred x12026) (Nat.le_of_ble_eq_true rfl) rfl (fun W12757 hST => ?_))
        refine LW_nil ?_
        refine sq_n ?_
        refine CW_seq ?_
        refine CW_region ?_
        refine LV (R_move (v := v14) e12748) ?_
        refine LV (R_lenRow Tryz.underlying27 rfl hR16) ?_
        refine LV (R_move (v := (.int .i64 0)) rfl) ?_
        refine LW_nil ?_
        refine sq_n ?_
        refine CW_tail ?_
        obtain ⟨s12935, hm12936, hm12937⟩ := bind_some hm12746
        refine CW_cut (fun E W => ∃ (v12921 : Value) (l12922 : List Fact) (R12924 : List (Nat × Obj)) (x12925 : Bool) (L12926 : List (Nat × Obj)), ST true NoF w W μ12 (R12924 ++ (R15 ++ (R7 ++ L12926))) ∧ E 3 = v6 ∧ E 4 = v14 ∧ E 5 = v12921 ∧ E 6 = (.bool x12925) ∧ E 15 = v6 ∧ E 16 = (.int .i64 ((r1.length : Int))) ∧ E 17 = (.int .i64 ((i12025 : Int))) ∧ Row 78 encFact 3 v12921 l12922 R12924 ∧ (m_ref08_Of_L2 r9 xs12027 l12922 x12925) = some s12022) ?_ ?_
        · replace hST : ST true NoF w _ _ ((b12755, Obj.cells ((encCred x12026).toArray : Array Value) 83 (0, 0)) :: (R12384 ++ (R15 ++ (R7 ++ L12745)))) := hST
          refine CW_range (fun i E W => ∃ (v12987 : Value) (l12988 : List Fact) (R12990 : List (Nat × Obj)) (x12991 : Bool) (L13048 : List (Nat × Obj)), (E 23 = .int .i64 (i : Nat) ∧ E 22 = .int .i64 (r9.length : Nat)) ∧ ST true NoF w W μ12 ((b12755, Obj.cells ((encCred x12026).toArray : Array Value) 83 (0, 0)) :: (R12990 ++ (R15 ++ (R7 ++ L13048)))) ∧ E 3 = v6 ∧ E 4 = v14 ∧ E 5 = v12987 ∧ E 6 = (.bool x12991) ∧ E 8 = (.pointer (some ⟨b12755, 0, none⟩)) ∧ E 15 = v6 ∧ E 16 = (.int .i64 ((r1.length : Int))) ∧ E 17 = (.int .i64 ((i12025 : Int))) ∧ E 21 = v14 ∧ Row 78 encFact 3 v12987 l12988 R12990 ∧ m_ref08_Of_L3 x12026 r9 (r9.drop i) l12988 x12991 = some s12935) r9.length hR16.len ⟨v12381, l12382, R12384, x12385, _, ⟨rfl, rfl⟩, (hST.sublist (List.Sublist.refl _)), e12747, e12748, e12749, e12750, rfl, e12751, eN, eI, rfl, hs12383, hm12936⟩ (by decide) (by decide) (by decide) (fun _ _ _ h => by obtain ⟨_, _, _, _, _, eIN, _⟩ := h; exact eIN) ?_ ?_
          · rintro i12938 E W hi12944 ⟨v12987, l12988, R12990, x12991, L13048, ⟨eI, eN⟩, hST, e13050, e13051, e13052, e13053, e13054, e13055, e13056, e13057, e13058, hs12989, hm13049⟩
            obtain ⟨x12939, xs12940, hx12942, hx12941, hx12943⟩ := drop_cons hi12944
            rw [hx12942] at hm13049
            rw [m_ref08_Of_L3] at hm13049
            refine CW_block ?_
            refine CW_seq ?_
            refine CW_region ?_
            refine LQ (R_indexRow (i := (i12938 : Int)) (x0 := x12939) Tryz.underlying27 Tryz.sizeOf9 e13058 eI hR16 (Int.natCast_nonneg _) hx12941) (fun p13059 hp13060 => ?_)
            refine LV (R_load (v := (.string x12939)) rfl (load_ix1 hST.has (fun p hq => by simp [hq]) hR16 (fun _ => rfl) hp13060 hx12941 (y := (.string x12939)) rfl Tryz.isAgg9)) ?_
            refine LV (R_assign (v := (.string x12939)) rfl) ?_
            refine LW_nil ?_
            refine sq_n ?_
            refine CW_seq ?_
            refine CW_region ?_
            refine LV (R_move (v := v12987) e13052) ?_
            refine LV (R_field fa83_1 e13054) ?_
            refine LV (R_load (v := (.agg (encRole x12026.Head).toArray)) rfl (load_boxA hST.has (.head _) (encRole x12026.Head) rfl Tryz.isAgg47 Tryz.sizeOf47)) ?_
            refine LV (R_move (v := (.string x12939)) rfl) ?_
            obtain ⟨r13062, hr13063, hm13049⟩ := bind_some hm13049
            refine LE (E_gives (args := [v12987, (.agg (encRole x12026.Head).toArray), (.string x12939)]) hST rfl Tryz.call36 (by exact args3 rfl rfl rfl) ((w_ref08_In v12987 l12988 x12026.Head x12939 _ _ (hs12989.sl lenFact (fun b o hq => hST.at_ (.tail _ (List.mem_append_left _ hq)))) hr13063)) (fun W13064 hST => ?_))
            refine LV (R_not (b := r13062) rfl) ?_
            refine LV (R_move (v := (.bool ((!r13062)))) rfl) ?_
            obtain ⟨s13094, hm13095, hm13096⟩ := bind_some hm13049
            refine LW_join (J := fun E W => ∃ (x13069 : Bool) (L13070 : List (Nat × Obj)), ST true NoF w W μ12 ((b12755, Obj.cells ((encCred x12026).toArray : Array Value) 83 (0, 0)) :: (R12990 ++ (R15 ++ (R7 ++ L13070)))) ∧ E 3 = v6 ∧ E 4 = v14 ∧ E 5 = v12987 ∧ E 6 = (.bool x12991) ∧ E 8 = (.pointer (some ⟨b12755, 0, none⟩)) ∧ E 10 = (.string x12939) ∧ E 15 = v6 ∧ E 16 = (.int .i64 ((r1.length : Int))) ∧ E 17 = (.int .i64 ((i12025 : Int))) ∧ E 21 = v14 ∧ E 22 = (.int .i64 ((r9.length : Int))) ∧ E 23 = (.int .i64 ((i12938 : Int))) ∧ E 39 = (.bool x13069) ∧ (if x13069 then (((appB 48 l12988 ([(⟨x12026.Head, x12939⟩ : Fact)]))).bind fun l13088 => (m_ref08_Of_L3 x12026 r9 xs12940 l13088 true)) else (m_ref08_Of_L3 x12026 r9 xs12940 l12988 x12991)) = some s12935) 6 ?_ (fun key13097 => ?_)
            · rintro E W ⟨x13069, L13070, hST, e13072, e13073, e13074, e13075, e13076, e13077, e13078, e13079, e13080, e13081, e13082, e13083, e13084, hm13071⟩
              refine LW_nil ?_
              refine sq_n ?_
              refine CW_if (b := x13069) e13084 (fun hb13085 => ?_) (fun hb13085 => ?_)
              · replace hm13071 := if_t hb13085 hm13071
                refine CW_seq ?_
                refine CW_region ?_
                refine LV (R_move (v := v12987) e13074) ?_
                refine LV (R_field fa83_1 e13076) ?_
                refine LV (R_load (v := (.agg (encRole x12026.Head).toArray)) rfl (load_boxA hST.has (.head _) (encRole x12026.Head) rfl Tryz.isAgg47 Tryz.sizeOf47)) ?_
                refine LV (R_move (v := (.string x12939)) e13077) ?_
                refine LV (R_build (qs := #[(0, (.agg (encRole x12026.Head).toArray)), (1, (.string x12939))]) (v := (.agg (encFact ((⟨x12026.Head, x12939⟩ : Fact))).toArray)) (parts2 rfl rfl) (run_build Tryz.zeroValue78 Tryz.underlying78 (pl78 _ Tryz.underlying78) (by kernel_rfl))) ?_
                refine LE (E_buildSlice (qs := #[(0, (.agg (encFact ((⟨x12026.Head, x12939⟩ : Fact))).toArray))]) (cs := (encFact ((⟨x12026.Head, x12939⟩ : Fact))).toArray) hST (parts1 rfl) (run_lit [(.agg (encFact ((⟨x12026.Head, x12939⟩ : Fact))).toArray)] Tryz.underlying53 Tryz.sizeOf78 Tryz.zeroValue78 (by decide) rfl (by intro v hv; simp only [List.mem_cons, List.not_mem_nil, or_false] at hv; rcases hv with rfl <;> rfl) rfl rfl) (fun W13087 b13086 hST => ?_))
                obtain ⟨l13088, hb13089, hm13071⟩ := bind_some hm13071
                refine LE (E_append (enc := encFact) (v := v12987) (vs := (.slice (some ⟨b13086, 0, none⟩) 1 1)) (R := R12990) [_, _] hST lenFact (by decide) oneFact Tryz.underlying53 info78.1 info78.2.1 rfl info78.2.2.1 info78.2.2.2 rfl rfl hs12989 (Sl.lit (enc := encFact) (l := [(⟨x12026.Head, x12939⟩ : Fact)]) lenFact rfl (Nat.le_of_ble_eq_true rfl) rfl (hST.at_ (.head _))) hb13089 (fun W13090 v13093 R13091 hST hR13092 => ?_))
                refine LV (R_assign (v := v13093) rfl) ?_
                refine LW_nil ?_
                refine sq_n ?_
                replace hST : ST true NoF w _ _ ((b13086, Obj.cells ((encFact ((⟨x12026.Head, x12939⟩ : Fact))).toArray : Array Value) 78 (0, 0)) :: ((b12755, Obj.cells ((encCred x12026).toArray : Array Value) 83 (0, 0)) :: (R13091 ++ (R15 ++ (R7 ++ L13070))))) := hST
                replace hST : ST true NoF w _ _ ((b12755, Obj.cells ((encCred x12026).toArray : Array Value) 83 (0, 0)) :: (R13091 ++ (R15 ++ (R7 ++ L13070)))) := hST.sublist (List.Sublist.cons _ (List.Sublist.refl _))
                refine CW_region ?_
                refine LV (R_assign (v := (.bool true)) rfl) ?_
                refine LW_nil ?_
                refine bq_n ?_
                refine sq_n ?_
                exact ⟨e13083, v13093, l13088, R13091, true, _, ⟨rfl, e13082⟩, (hST.sublist (List.Sublist.refl _)), e13072, e13073, rfl, rfl, e13076, e13078, e13079, e13080, e13081, hR13092, (by rw [hx12943]; exact hm13071)⟩
              · replace hm13071 := if_f hb13085 hm13071
                refine CW_skip ?_
                refine bq_n ?_
                refine sq_n ?_
                exact ⟨e13083, v12987, l12988, R12990, x12991, _, ⟨rfl, e13082⟩, (hST.sublist (List.Sublist.refl _)), e13072, e13073, e13074, e13075, e13076, e13078, e13079, e13080, e13081, hs12989, (by rw [hx12943]; exact hm13071)⟩
            · rcases bool_cases ((!r13062)) with hb13065 | hb13065
              · replace hm13095 := if_t hb13065 hm13095
                refine LW_v (.inr ⟨6, true, 33, rfl, rfl, by decide, (congrArg Value.bool hb13065)⟩) rfl (by decide) (R_move (v := v12987) e13052) ?_
                refine LW_v (.inr ⟨6, true, 33, rfl, rfl, by decide, (congrArg Value.bool hb13065)⟩) rfl (by decide) (R_load (v := (.agg (encCred x12026).toArray)) e13054 (load_boxA hST.has (.head _) (encCred x12026) rfl Tryz.isAgg83 Tryz.sizeOf83)) ?_
                refine LW_v (.inr ⟨6, true, 33, rfl, rfl, by decide, (congrArg Value.bool hb13065)⟩) rfl (by decide) (R_move (v := v14) e13051) ?_
                refine LW_v (.inr ⟨6, true, 33, rfl, rfl, by decide, (congrArg Value.bool hb13065)⟩) rfl (by decide) (R_move (v := (.string x12939)) rfl) ?_
                obtain ⟨r13098, hr13099, hm13095⟩ := bind_some hm13095
                refine LW_e (.inr ⟨6, true, 33, rfl, rfl, by decide, (congrArg Value.bool hb13065)⟩) rfl (by decide) (E_gives (args := [v12987, (.agg (encCred x12026).toArray), v14, (.string x12939)]) hST rfl Tryz.call89 (by exact args4 rfl rfl rfl rfl) ((w_ref08_Step v12987 l12988 x12026 v14 r9 x12939 _ _ (hs12989.sl lenFact (fun b o hq => hST.at_ (.tail _ (List.mem_append_left _ hq)))) (hR16.sl (fun _ => rfl) (fun b o hq => hST.at_ (.tail _ (List.mem_append_right _ (List.mem_append_left _ hq))))) hr13099)) (fun W13100 hST => ?_))
                refine LV (R_pickT (v := (.bool r13098)) (congrArg Value.bool hb13065) rfl) ?_
                replace hm13095 := Option.some.inj hm13095; subst hm13095
                exact key13097 _ _ ⟨r13098, _, (hST.sublist (List.Sublist.refl _)), e13050, e13051, e13052, e13053, e13054, rfl, e13055, e13056, e13057, e13058, eN, eI, rfl, hm13096⟩
              · replace hm13095 := if_f hb13065 hm13095
                refine LW_no rfl (by decide) rfl rfl (by decide) (congrArg Value.bool hb13065) ?_
                refine LW_no rfl (by decide) rfl rfl (by decide) (congrArg Value.bool hb13065) ?_
                refine LW_no rfl (by decide) rfl rfl (by decide) (congrArg Value.bool hb13065) ?_
                refine LW_no rfl (by decide) rfl rfl (by decide) (congrArg Value.bool hb13065) ?_
                refine LW_no rfl (by decide) rfl rfl (by decide) (congrArg Value.bool hb13065) ?_
                refine LV (R_pickF (v := (.bool false)) (congrArg Value.bool hb13065) rfl) ?_
                replace hm13095 := Option.some.inj hm13095; subst hm13095
                exact key13097 _ _ ⟨false, _, (hST.sublist (List.Sublist.refl _)), e13050, e13051, e13052, e13053, e13054, rfl, e13055, e13056, e13057, e13058, eN, eI, rfl, hm13096⟩
          · rintro E W ⟨v12987, l12988, R12990, x12991, L13048, ⟨eI, eN⟩, hST, e13050, e13051, e13052, e13053, e13054, e13055, e13056, e13057, e13058, hs12989, hm13049⟩
            rw [List.drop_length] at hm13049
            rw [m_ref08_Of_L3] at hm13049
            refine sq_n ?_
            replace hm13049 := Option.some.inj hm13049; subst hm13049
            exact ⟨v12987, l12988, R12990, x12991, _, (hST.sublist (List.Sublist.cons _ (List.Sublist.refl _))), e13050, e13051, e13052, e13053, e13055, e13056, e13057, hs12989, hm12937⟩
        · rintro E W ⟨v12921, l12922, R12924, x12925, L12926, hST, e12928, e12929, e12930, e12931, e12932, e12933, e12934, hs12923, hm12927⟩
          refine bq_n ?_
          refine sq_n ?_
          exact ⟨e12934, v12921, l12922, R12924, x12925, _, ⟨rfl, e12933⟩, (hST.sublist (List.Sublist.refl _)), e12928, e12929, e12930, e12931, e12932, hs12923, (by rw [hx12030]; exact hm12927)⟩
      · rintro E W ⟨v12381, l12382, R12384, x12385, L12745, ⟨eI, eN⟩, hST, e12747, e12748, e12749, e12750, e12751, hs12383, hm12746⟩
        rw [List.drop_length] at hm12746
        rw [m_ref08_Of_L2] at hm12746
        refine sq_n ?_
        replace hm12746 := Option.some.inj hm12746; subst hm12746
        exact ⟨v12381, l12382, R12384, x12385, _, (hST.sublist (List.Sublist.refl _)), e12747, e12748, e12749, e12750, hs12383, hm12024⟩
    · rintro E W ⟨v12002, l12003, R12005, x12006, L12007, hST, e12009, e12010, e12011, e12012, hs12004, hm12008⟩
      refine CW_seq ?_
      refine CW_region ?_
      refine LV (R_move (v := (.bool x12006)) e12012) ?_
      refine LV (R_not (b := x12006) rfl) ?_
      refine LW_nil ?_
      refine sq_n ?_
      refine CW_if (b := (!x12006)) rfl (fun hb12013 => ?_) (fun hb12013 => ?_)
      · replace hm12008 := if_t hb12013 hm12008
        refine CW_seq ?_
        refine CW_region ?_
        refine LV (R_move (v := v12002) e12011) ?_
        obtain ⟨r12014, hr12015, hm12008⟩ := bind_some hm12008
        refine LE (E_givesRow (args := [v12002]) [] _ hST rfl Tryz.call90 (by exact args1 rfl) ((w_ref08_Sorted v12002 l12003 _ _ (hs12004.sl lenFact (fun b o hq => hST.at_ (List.mem_append_left _ hq))) hr12015)) (fun W12016 v12019 μ12017 R12020 hST hle12018 hR12021 => ?_))
        refine LV (R_assign (v := v12019) rfl) ?_
        refine LW_nil ?_
        refine sq_n ?_
        replace hST : ST true NoF w _ _ (R12020 ++ (R12005 ++ (R15 ++ (R7 ++ L12007)))) := hST
        replace hST : ST true NoF w _ _ (R12020 ++ L12007) := hST.sublist (List.Sublist.append (List.Sublist.refl _) ((((List.Sublist.refl _).trans (List.sublist_append_right _ _)).trans (List.sublist_append_right _ _)).trans (List.sublist_append_right _ _)))
        refine CW_ret ?_
        refine bq_r (sq_r (bq_r (sq_r ?_)))
        replace hm12008 := Option.some.inj hm12008; subst hm12008
        refine retQ_1 (v := v12019) rfl rfl ?_
        exact ⟨_, R12020, rfl, hST.backRow (fun p hq => by simp [hq]) hR12021.nd, hR12021⟩
      · replace hm12008 := if_f hb12013 hm12008
        refine CW_skip ?_
        refine bq_n ?_
        refine sq_n ?_
        exact ⟨n10922, Nat.lt_succ_self _, v12002, l12003, R12005, _, (hST.sublist (List.Sublist.refl _)), e12009, e12010, e12011, hs12004, hm12008⟩
theorem w_ref09_Same (v_a0 : Value) (a0 : List Step) (v_a1 : Value) (a1 : List Step) (r : Bool) (w : World) (h_a0 : Sl (Pl encStep) 12 (hp w) v_a0 a0) (h_a1 : Sl (Pl encStep) 12 (hp w) v_a1 a1) (hm : m_ref09_Same a0 a1 = some r) :
    Gives true Tryz.prog 54 [v_a0, v_a1] w (.bool r) := by
  have hST := ST.start (dd := true) w
  unfold m_ref09_Same at hm
  refine calls_of_CW (n := 26) Tryz.func54 rfl rfl (Nat.le_of_ble_eq_true rfl) ?_
  refine CW_seq ?_
  refine CW_region ?_
  refine LV (R_assign (v := (.bool false)) rfl) ?_
  refine LW_nil ?_
  refine sq_n ?_
  refine CW_seq ?_
  refine CW_seq ?_
  refine CW_region ?_
  refine LV (R_move (v := v_a0) rfl) ?_
  refine LV (R_len Tryz.underlying79 rfl h_a0) ?_
  refine LV (R_move (v := v_a1) rfl) ?_
  refine LV (R_len Tryz.underlying79 rfl h_a1) ?_
  refine LV (R_int (k := .i64) (a := ((a0.length : Int))) (b := ((a1.length : Int))) (v := (.bool ((((a0.length : Int)) != ((a1.length : Int)))))) rfl rfl rfl) ?_
  refine LW_nil ?_
  refine sq_n ?_
  refine CW_if (b := (((a0.length : Int)) != ((a1.length : Int)))) rfl (fun hb1 => ?_) (fun hb1 => ?_)
  · replace hm := if_t hb1 hm
    refine CW_seq ?_
    refine CW_region ?_
    refine LV (R_assign (v := (.bool false)) rfl) ?_
    refine LW_nil ?_
    refine sq_n ?_
    refine CW_ret ?_
    refine sq_r ?_
    replace hm := Option.some.inj hm; subst hm
    refine retQ_1 (v := (.bool false)) rfl rfl ?_
    exact ⟨rfl, hST.ex⟩
  · replace hm := if_f hb1 hm
    refine CW_skip ?_
    refine sq_n ?_
    refine CW_seq ?_
    refine CW_seq ?_
    refine CW_region ?_
    refine LV (R_move (v := v_a0) rfl) ?_
    refine LV (R_len Tryz.underlying79 rfl h_a0) ?_
    refine LV (R_move (v := (.int .i64 0)) rfl) ?_
    refine LW_nil ?_
    refine sq_n ?_
    refine CW_range (fun i E W => ∃  (L149 : List (Nat × Obj)), (E 13 = .int .i64 (i : Nat) ∧ E 12 = .int .i64 (a0.length : Nat)) ∧ ST true NoF w W (hp w) L149 ∧ E 0 = v_a0 ∧ E 1 = v_a1 ∧ m_ref09_Same_L1 a1 (a0.drop i) i = some r) a0.length h_a0.len ⟨_, ⟨rfl, rfl⟩, (hST.sublist (List.Sublist.refl _)), rfl, rfl, hm⟩ (by decide) (by decide) (by decide) (fun _ _ _ h => by obtain ⟨_, eIN, _⟩ := h; exact eIN) ?_ ?_
    · rintro i90 E W hi96 ⟨L149, ⟨eI, eN⟩, hST, e151, e152, hm150⟩
      obtain ⟨x91, xs92, hx94, hx93, hx95⟩ := drop_cons hi96
      rw [hx94] at hm150
      rw [m_ref09_Same_L1] at hm150
      refine CW_block ?_
      refine CW_seq ?_
      refine CW_region ?_
      refine LV (R_move (v := (.int .i64 ((i90 : Int)))) eI) ?_
      refine LV (R_assign (v := (.int .i64 ((i90 : Int)))) rfl) ?_
      refine LW_nil ?_
      refine sq_n ?_
      refine CW_seq ?_
      refine PX_start (fun l W => Has (hp w) [] W) Tryz_mixed ?_
      replace hST := hST.drew
      have hS0 : Has (hp w) [] _ := hST.has.sub (Sub.refl _) (fun p hq => (absurd hq List.not_mem_nil))
      refine PV 0 rfl hS0 (R_move (v := v_a0) e151) ?_
      refine PV 1 rfl hS0 (R_move (v := (.int .i64 ((i90 : Int)))) rfl) ?_
      refine PX_q 2 rfl (by kernel_rfl) (.inl rfl) rfl (by decide) (fun _ _ h => h) hS0 (R_indexP (enc := encStep) (i := (i90 : Int)) (x0 := x91) Tryz.underlying79 Tryz.sizeOf89 rfl rfl h_a0 (Int.natCast_nonneg _) hx93) (fun p169 hp170 => ?_)
      refine PX_v 3 rfl (by kernel_rfl) (.inl rfl) rfl (by decide) (fun _ _ h => h) hS0 (fun l W hpd hs => have hS := hs; R_load rfl (load_atA hS hp170 Tryz.isAgg89 Tryz.sizeOf89)) ?_
      refine PV 4 rfl hS0 (R_move (v := v_a1) e152) ?_
      refine PV 5 rfl hS0 (R_move (v := (.int .i64 ((i90 : Int)))) rfl) ?_
      obtain ⟨x175, hx176, hm150⟩ := bind_some hm150
      refine PX_q 6 rfl (by kernel_rfl) (.inl rfl) rfl (by decide) (fun _ _ h => h) hS0 (R_indexP (enc := encStep) (i := (i90 : Int)) (x0 := x175) Tryz.underlying79 Tryz.sizeOf89 rfl rfl h_a1 (idx_nonneg hx176) (idx_get hx176)) (fun p172 hp173 => ?_)
      refine PX_v 7 rfl (by kernel_rfl) (.inl rfl) rfl (by decide) (fun _ _ h => h) hS0 (fun l W hpd hs => have hS := hs; R_load rfl (load_atA hS hp173 Tryz.isAgg89 Tryz.sizeOf89)) ?_
      refine PV 8 rfl hS0 (R_neq (a := (encStep x91).toArray) (b := (encStep x175).toArray) rfl rfl (guard_agg Tryz.eqGuardType89) (bin_neq (eqInStep _ x91 x175))) ?_
      refine PX_done (by kernel_rfl) ?_
      refine sq_n ?_
      refine CW_if (b := (!(beqStep x91 x175))) rfl (fun hb177 => ?_) (fun hb177 => ?_)
      · replace hm150 := if_t hb177 hm150
        refine CW_seq ?_
        refine CW_region ?_
        refine LV (R_assign (v := (.bool false)) rfl) ?_
        refine LW_nil ?_
        refine sq_n ?_
        refine CW_ret ?_
        refine bq_r (sq_r (bq_r (sq_r ?_)))
        replace hm150 := Option.some.inj hm150; subst hm150
        refine retQ_1 (v := (.bool false)) rfl rfl ?_
        exact ⟨rfl, hST.ex⟩
      · replace hm150 := if_f hb177 hm150
        refine CW_skip ?_
        refine bq_n ?_
        refine sq_n ?_
        exact ⟨eI, _, ⟨rfl, eN⟩, (hST.sublist (List.Sublist.refl _)), e151, e152, (by rw [hx95]; exact hm150)⟩
    · rintro E W ⟨L149, ⟨eI, eN⟩, hST, e151, e152, hm150⟩
      rw [List.drop_length] at hm150
      rw [m_ref09_Same_L1] at hm150
      refine sq_n ?_
      refine CW_seq ?_
      refine CW_region ?_
      refine LV (R_assign (v := (.bool true)) rfl) ?_
      refine LW_nil ?_
      refine sq_n ?_
      refine CW_ret ?_
      replace hm150 := Option.some.inj hm150; subst hm150
      refine retQ_1 (v := (.bool true)) rfl rfl ?_
      exact ⟨rfl, hST.ex⟩
theorem w_ref05_Has (v_a0 : Value) (a0 : List Cred) (a1 : Cred) (r : Bool) (w : World) (h_a0 : Sl (Pl encCred) 9 (hp w) v_a0 a0) (hm : m_ref05_Has a0 a1 = some r) :
    Gives true Tryz.prog 73 [v_a0, (.agg (encCred a1).toArray)] w (.bool r) := by
  have hST := ST.start (dd := true) w
  unfold m_ref05_Has at hm
  refine calls_of_CW (n := 17) Tryz.func73 rfl rfl (Nat.le_of_ble_eq_true rfl) ?_
  refine CW_seq ?_
  refine CW_region ?_
  refine LE (E_box (v := (.agg (encCred a1).toArray)) hST rfl (fun W2 b1 hST => ?_))
  refine LV (R_assign (v := (.bool false)) rfl) ?_
  refine LW_nil ?_
  refine sq_n ?_
  refine CW_seq ?_
  refine CW_seq ?_
  refine CW_region ?_
  refine LV (R_move (v := v_a0) rfl) ?_
  refine LV (R_len Tryz.underlying22 rfl h_a0) ?_
  refine LV (R_move (v := (.int .i64 0)) rfl) ?_
  refine LW_nil ?_
  refine sq_n ?_
  refine CW_range (fun i E W => ∃  (L60 : List (Nat × Obj)), (E 9 = .int .i64 (i : Nat) ∧ E 8 = .int .i64 (a0.length : Nat)) ∧ ST true NoF w W (hp w) ((b1, Obj.cells ((encCred a1).toArray : Array Value) 83 (0, 0)) :: L60) ∧ E 3 = (.pointer (some ⟨b1, 0, none⟩)) ∧ E 7 = v_a0 ∧ m_ref05_Has_L1 a1 (a0.drop i) = some r) a0.length h_a0.len ⟨_, ⟨rfl, rfl⟩, (hST.sublist (List.Sublist.refl _)), rfl, rfl, hm⟩ (by decide) (by decide) (by decide) (fun _ _ _ h => by obtain ⟨_, eIN, _⟩ := h; exact eIN) ?_ ?_
  · rintro i37 E W hi43 ⟨L60, ⟨eI, eN⟩, hST, e62, e63, hm61⟩
    obtain ⟨x38, xs39, hx41, hx40, hx42⟩ := drop_cons hi43
    rw [hx41] at hm61
    rw [m_ref05_Has_L1] at hm61
    refine CW_block ?_
    refine CW_seq ?_
    refine CW_region ?_
    refine LQ (R_indexP (enc := encCred) (i := (i37 : Int)) (x0 := x38) Tryz.underlying22 Tryz.sizeOf83 e63 eI h_a0 (Int.natCast_nonneg _) hx40) (fun p64 hp65 => ?_)
    refine LV (R_load rfl (load_atA hST.has hp65 Tryz.isAgg83 Tryz.sizeOf83)) ?_
    refine LE (E_alloc hST Tryz.zeroValue83 (fun W68 b67 hST => ?_))
    refine LW_e0 (.inl rfl) rfl (E_store [] (.agg (encCred x38).toArray) ((encCred x38).toArray) hST rfl rfl Tryz.sizeOf83 (oneCred x38) (Nat.le_of_ble_eq_true rfl) rfl (fun W69 hST => ?_))
    refine LW_nil ?_
    refine sq_n ?_
    refine CW_seq ?_
    refine CW_region ?_
    refine LV (R_load (v := (.agg (encCred x38).toArray)) rfl (load_boxA hST.has (.head _) (encCred x38) rfl Tryz.isAgg83 Tryz.sizeOf83)) ?_
    refine LV (R_load (v := (.agg (encCred a1).toArray)) e62 (load_boxA hST.has (.tail _ (.head _)) (encCred a1) rfl Tryz.isAgg83 Tryz.sizeOf83)) ?_
    refine LV (R_eql (a := (encCred x38).toArray) (b := (encCred a1).toArray) rfl rfl (guard_agg Tryz.eqGuardType83) (bin_eql (eqInCred _ x38 a1))) ?_
    refine LW_nil ?_
    refine sq_n ?_
    replace hST : ST true NoF w _ _ ((b67, Obj.cells ((encCred x38).toArray : Array Value) 83 (0, 0)) :: ((b1, Obj.cells ((encCred a1).toArray : Array Value) 83 (0, 0)) :: L60)) := hST
    replace hST : ST true NoF w _ _ ((b1, Obj.cells ((encCred a1).toArray : Array Value) 83 (0, 0)) :: L60) := hST.sublist (List.Sublist.cons _ (List.Sublist.refl _))
    refine CW_if (b := (beqCred x38 a1)) rfl (fun hb70 => ?_) (fun hb70 => ?_)
    · replace hm61 := if_t hb70 hm61
      refine CW_seq ?_
      refine CW_region ?_
      refine LV (R_assign (v := (.bool true)) rfl) ?_
      refine LW_nil ?_
      refine sq_n ?_
      replace hST : ST true NoF w _ _ L60 := hST.sublist (List.Sublist.cons _ (List.Sublist.refl _))
      refine CW_ret ?_
      refine bq_r (sq_r (bq_r (sq_r ?_)))
      replace hm61 := Option.some.inj hm61; subst hm61
      refine retQ_1 (v := (.bool true)) rfl rfl ?_
      exact ⟨rfl, hST.ex⟩
    · replace hm61 := if_f hb70 hm61
      refine CW_skip ?_
      refine bq_n ?_
      refine sq_n ?_
      exact ⟨eI, _, ⟨rfl, eN⟩, (hST.sublist (List.Sublist.refl _)), e62, e63, (by rw [hx42]; exact hm61)⟩
  · rintro E W ⟨L60, ⟨eI, eN⟩, hST, e62, e63, hm61⟩
    rw [List.drop_length] at hm61
    rw [m_ref05_Has_L1] at hm61
    refine sq_n ?_
    replace hST : ST true NoF w _ _ L60 := hST.sublist (List.Sublist.cons _ (List.Sublist.refl _))
    refine CW_seq ?_
    refine CW_region ?_
    refine LV (R_assign (v := (.bool false)) rfl) ?_
    refine LW_nil ?_
    refine sq_n ?_
    refine CW_ret ?_
    replace hm61 := Option.some.inj hm61; subst hm61
    refine retQ_1 (v := (.bool false)) rfl rfl ?_
    exact ⟨rfl, hST.ex⟩
theorem w_ref09_Facts (v_a0 : Value) (a0 : List Step) (r : List Fact) (w : World) (h_a0 : Sl (Pl encStep) 12 (hp w) v_a0 a0) (hm : m_ref09_Facts a0 = some r) :
    GivesRow true Tryz.prog 112 [v_a0] w 78 encFact 3 r := by
  have hST := ST.start (dd := true) w
  unfold m_ref09_Facts at hm
  refine calls_of_CW (n := 19) Tryz.func112 rfl rfl (Nat.le_of_ble_eq_true rfl) ?_
  refine CW_seq ?_
  refine CW_region ?_
  refine LV (R_assign (v := (.slice none 0 0)) rfl) ?_
  refine LW_nil ?_
  refine sq_n ?_
  refine CW_seq ?_
  refine CW_region ?_
  refine LV (R_assign (v := (.slice none 0 0)) rfl) ?_
  refine LW_nil ?_
  refine sq_n ?_
  refine CW_seq ?_
  refine CW_seq ?_
  refine CW_region ?_
  refine LV (R_move (v := v_a0) rfl) ?_
  refine LV (R_len Tryz.underlying79 rfl h_a0) ?_
  refine LV (R_move (v := (.int .i64 0)) rfl) ?_
  refine LW_nil ?_
  refine sq_n ?_
  refine CW_range (fun i E W => ∃ (v85 : Value) (l86 : List Fact) (R88 : List (Nat × Obj)) (L109 : List (Nat × Obj)), (E 8 = .int .i64 (i : Nat) ∧ E 7 = .int .i64 (a0.length : Nat)) ∧ ST true NoF w W (hp w) (R88 ++ L109) ∧ E 3 = v85 ∧ E 6 = v_a0 ∧ Row 78 encFact 3 v85 l86 R88 ∧ m_ref09_Facts_L1 (a0.drop i) l86 = some r) a0.length h_a0.len ⟨(.slice none 0 0), ([]), [], _, ⟨rfl, rfl⟩, (hST.sublist (List.Sublist.refl _)), rfl, rfl, (Row.nil _ _ _), hm⟩ (by decide) (by decide) (by decide) (fun _ _ _ h => by obtain ⟨_, _, _, _, eIN, _⟩ := h; exact eIN) ?_ ?_
  · rintro i64 E W hi70 ⟨v85, l86, R88, L109, ⟨eI, eN⟩, hST, e111, e112, hs87, hm110⟩
    obtain ⟨x65, xs66, hx68, hx67, hx69⟩ := drop_cons hi70
    rw [hx68] at hm110
    rw [m_ref09_Facts_L1] at hm110
    refine CW_block ?_
    refine CW_seq ?_
    refine CW_region ?_
    refine LQ (R_indexP (enc := encStep) (i := (i64 : Int)) (x0 := x65) Tryz.underlying79 Tryz.sizeOf89 e112 eI h_a0 (Int.natCast_nonneg _) hx67) (fun p113 hp114 => ?_)
    refine LV (R_load rfl (load_atA hST.has hp114 Tryz.isAgg89 Tryz.sizeOf89)) ?_
    refine LE (E_alloc hST Tryz.zeroValue89 (fun W117 b116 hST => ?_))
    refine LW_e0 (.inl rfl) rfl (E_store [] (.agg (encStep x65).toArray) ((encStep x65).toArray) hST rfl rfl Tryz.sizeOf89 (oneStep x65) (Nat.le_of_ble_eq_true rfl) rfl (fun W118 hST => ?_))
    refine LW_nil ?_
    refine sq_n ?_
    refine CW_region ?_
    refine LV (R_move (v := v85) e111) ?_
    refine LV (R_field fa89_1 rfl) ?_
    refine LV (R_load (v := (.agg (encFact x65.Fact).toArray)) rfl (load_boxA hST.has (.head _) (encFact x65.Fact) rfl Tryz.isAgg78 Tryz.sizeOf78)) ?_
    refine LE (E_buildSlice (qs := #[(0, (.agg (encFact x65.Fact).toArray))]) (cs := (encFact x65.Fact).toArray) hST (parts1 rfl) (run_lit [(.agg (encFact x65.Fact).toArray)] Tryz.underlying53 Tryz.sizeOf78 Tryz.zeroValue78 (by decide) rfl (by intro v hv; simp only [List.mem_cons, List.not_mem_nil, or_false] at hv; rcases hv with rfl <;> rfl) rfl rfl) (fun W120 b119 hST => ?_))
    replace hST : ST true NoF w _ _ ((b119, Obj.cells ((encFact x65.Fact).toArray : Array Value) 78 (0, 0)) :: ((b116, Obj.cells ((encStep x65).toArray : Array Value) 89 (0, 0)) :: (R88 ++ L109))) := hST
    obtain ⟨l121, hb122, hm110⟩ := bind_some hm110
    refine LE (E_append (enc := encFact) (v := v85) (vs := (.slice (some ⟨b119, 0, none⟩) 1 1)) (R := R88) [_, _] hST lenFact (by decide) oneFact Tryz.underlying53 info78.1 info78.2.1 rfl info78.2.2.1 info78.2.2.2 rfl rfl hs87 (Sl.lit (enc := encFact) (l := [x65.Fact]) lenFact rfl (Nat.le_of_ble_eq_true rfl) rfl (hST.at_ (.head _))) hb122 (fun W123 v126 R124 hST hR125 => ?_))
    refine LV (R_assign (v := v126) rfl) ?_
    refine LW_nil ?_
    refine bq_n ?_
    refine sq_n ?_
    replace hST : ST true NoF w _ _ ((b119, Obj.cells ((encFact x65.Fact).toArray : Array Value) 78 (0, 0)) :: ((b116, Obj.cells ((encStep x65).toArray : Array Value) 89 (0, 0)) :: (R124 ++ L109))) := hST
    replace hST : ST true NoF w _ _ (R124 ++ L109) := hST.sublist (List.Sublist.cons _ (List.Sublist.cons _ (List.Sublist.refl _)))
    exact ⟨eI, v126, l121, R124, _, ⟨rfl, eN⟩, (hST.sublist (List.Sublist.refl _)), rfl, e112, hR125, (by rw [hx69]; exact hm110)⟩
  · rintro E W ⟨v85, l86, R88, L109, ⟨eI, eN⟩, hST, e111, e112, hs87, hm110⟩
    rw [List.drop_length] at hm110
    rw [m_ref09_Facts_L1] at hm110
    refine sq_n ?_
    refine CW_seq ?_
    refine CW_region ?_
    refine LV (R_move (v := v85) e111) ?_
    refine LV (R_assign (v := v85) rfl) ?_
    refine LW_nil ?_
    refine sq_n ?_
    refine CW_ret ?_
    replace hm110 := Option.some.inj hm110; subst hm110
    refine retQ_1 (v := v85) rfl rfl ?_
    exact ⟨_, R88, rfl, hST.backRow (fun p hq => by simp [hq]) hs87.nd, hs87⟩
theorem w_ref09_names (v_a0 : Value) (a0 : List Fact) (r : List ByteArray) (w : World) (h_a0 : Sl (Pl encFact) 3 (hp w) v_a0 a0) (hm : m_ref09_names a0 = some r) :
    GivesRow true Tryz.prog 159 [v_a0] w 9 encSk 1 r := by
  have hST := ST.start (dd := true) w
  unfold m_ref09_names at hm
  refine calls_of_CW (n := 19) Tryz.func159 rfl rfl (Nat.le_of_ble_eq_true rfl) ?_
  refine CW_seq ?_
  refine CW_region ?_
  refine LV (R_assign (v := (.slice none 0 0)) rfl) ?_
  refine LW_nil ?_
  refine sq_n ?_
  refine CW_seq ?_
  refine CW_region ?_
  refine LV (R_assign (v := (.slice none 0 0)) rfl) ?_
  refine LW_nil ?_
  refine sq_n ?_
  refine CW_seq ?_
  refine CW_seq ?_
  refine CW_region ?_
  refine LV (R_move (v := v_a0) rfl) ?_
  refine LV (R_len Tryz.underlying53 rfl h_a0) ?_
  refine LV (R_move (v := (.int .i64 0)) rfl) ?_
  refine LW_nil ?_
  refine sq_n ?_
  refine CW_range (fun i E W => ∃ (v85 : Value) (l86 : List ByteArray) (R88 : List (Nat × Obj)) (L109 : List (Nat × Obj)), (E 8 = .int .i64 (i : Nat) ∧ E 7 = .int .i64 (a0.length : Nat)) ∧ ST true NoF w W (hp w) (R88 ++ L109) ∧ E 3 = v85 ∧ E 6 = v_a0 ∧ Row 9 encSk 1 v85 l86 R88 ∧ m_ref09_names_L1 (a0.drop i) l86 = some r) a0.length h_a0.len ⟨(.slice none 0 0), ([]), [], _, ⟨rfl, rfl⟩, (hST.sublist (List.Sublist.refl _)), rfl, rfl, (Row.nil _ _ _), hm⟩ (by decide) (by decide) (by decide) (fun _ _ _ h => by obtain ⟨_, _, _, _, eIN, _⟩ := h; exact eIN) ?_ ?_
  · rintro i64 E W hi70 ⟨v85, l86, R88, L109, ⟨eI, eN⟩, hST, e111, e112, hs87, hm110⟩
    obtain ⟨x65, xs66, hx68, hx67, hx69⟩ := drop_cons hi70
    rw [hx68] at hm110
    rw [m_ref09_names_L1] at hm110
    refine CW_block ?_
    refine CW_seq ?_
    refine CW_region ?_
    refine LQ (R_indexP (enc := encFact) (i := (i64 : Int)) (x0 := x65) Tryz.underlying53 Tryz.sizeOf78 e112 eI h_a0 (Int.natCast_nonneg _) hx67) (fun p113 hp114 => ?_)
    refine LV (R_load rfl (load_atA hST.has hp114 Tryz.isAgg78 Tryz.sizeOf78)) ?_
    refine LE (E_alloc hST Tryz.zeroValue78 (fun W117 b116 hST => ?_))
    refine LW_e0 (.inl rfl) rfl (E_store [] (.agg (encFact x65).toArray) ((encFact x65).toArray) hST rfl rfl Tryz.sizeOf78 (oneFact x65) (Nat.le_of_ble_eq_true rfl) rfl (fun W118 hST => ?_))
    refine LW_nil ?_
    refine sq_n ?_
    refine CW_region ?_
    refine LV (R_move (v := v85) e111) ?_
    refine LV (R_field fa78_1 rfl) ?_
    refine LV (R_load (v := (.string x65.Who)) rfl (load_box1 hST.has (.head _) rfl Tryz.isAgg9)) ?_
    refine LE (E_buildSlice (qs := #[(0, (.string x65.Who))]) (cs := [(.string x65.Who)].toArray) hST (parts1 rfl) (run_lit [(.string x65.Who)] Tryz.underlying27 Tryz.sizeOf9 Tryz.zeroValue9 (by decide) rfl (by intro v hv; simp only [List.mem_cons, List.not_mem_nil, or_false] at hv; rcases hv with rfl <;> rfl) rfl rfl) (fun W120 b119 hST => ?_))
    replace hST : ST true NoF w _ _ ((b119, Obj.cells ([(.string x65.Who)].toArray : Array Value) 9 (0, 0)) :: ((b116, Obj.cells ((encFact x65).toArray : Array Value) 78 (0, 0)) :: (R88 ++ L109))) := hST
    obtain ⟨l121, hb122, hm110⟩ := bind_some hm110
    refine LE (E_append (enc := encSk) (v := v85) (vs := (.slice (some ⟨b119, 0, none⟩) 1 1)) (R := R88) [_, _] hST (fun _ => rfl) (by decide) oneS Tryz.underlying27 info9.1 info9.2.1 rfl info9.2.2.1 info9.2.2.2 rfl rfl hs87 (Sl.lit (enc := encSk) (l := [x65.Who]) (fun _ => rfl) rfl (Nat.le_of_ble_eq_true rfl) rfl (hST.at_ (.head _))) hb122 (fun W123 v126 R124 hST hR125 => ?_))
    refine LV (R_assign (v := v126) rfl) ?_
    refine LW_nil ?_
    refine bq_n ?_
    refine sq_n ?_
    replace hST : ST true NoF w _ _ ((b119, Obj.cells ([(.string x65.Who)].toArray : Array Value) 9 (0, 0)) :: ((b116, Obj.cells ((encFact x65).toArray : Array Value) 78 (0, 0)) :: (R124 ++ L109))) := hST
    replace hST : ST true NoF w _ _ (R124 ++ L109) := hST.sublist (List.Sublist.cons _ (List.Sublist.cons _ (List.Sublist.refl _)))
    exact ⟨eI, v126, l121, R124, _, ⟨rfl, eN⟩, (hST.sublist (List.Sublist.refl _)), rfl, e112, hR125, (by rw [hx69]; exact hm110)⟩
  · rintro E W ⟨v85, l86, R88, L109, ⟨eI, eN⟩, hST, e111, e112, hs87, hm110⟩
    rw [List.drop_length] at hm110
    rw [m_ref09_names_L1] at hm110
    refine sq_n ?_
    refine CW_seq ?_
    refine CW_region ?_
    refine LV (R_move (v := v85) e111) ?_
    refine LV (R_assign (v := v85) rfl) ?_
    refine LW_nil ?_
    refine sq_n ?_
    refine CW_ret ?_
    replace hm110 := Option.some.inj hm110; subst hm110
    refine retQ_1 (v := v85) rfl rfl ?_
    exact ⟨_, R88, rfl, hST.backRow (fun p hq => by simp [hq]) hs87.nd, hs87⟩
theorem w_ref09_Follows (a0 : Step) (v_a1 : Value) (a1 : List Fact) (r : Bool) (w : World) (h_a1 : Sl (Pl encFact) 3 (hp w) v_a1 a1) (hm : m_ref09_Follows a0 a1 = some r) :
    Gives true Tryz.prog 111 [(.agg (encStep a0).toArray), v_a1] w (.bool r) := by
  have hST := ST.start (dd := true) w
  unfold m_ref09_Follows at hm
  refine calls_of_CW (n := 28) Tryz.func111 rfl rfl (Nat.le_of_ble_eq_true rfl) ?_
  refine CW_seq ?_
  refine CW_region ?_
  refine LE (E_box (v := (.agg (encStep a0).toArray)) hST rfl (fun W2 b1 hST => ?_))
  refine LV (R_assign (v := (.bool false)) rfl) ?_
  refine LW_nil ?_
  refine sq_n ?_
  refine CW_seq ?_
  refine PX_start (fun l W => Has (hp w) ((b1, Obj.cells ((encStep a0).toArray : Array Value) 89 (0, 0)) :: []) W) Tryz_mixed ?_
  replace hST := hST.drew
  have hS0 : Has (hp w) ((b1, Obj.cells ((encStep a0).toArray : Array Value) 89 (0, 0)) :: []) _ := hST.has.sub (Sub.refl _) (fun p hq => ((List.mem_cons.1 hq).elim (fun hq => by rw [hq]; exact (.head _)) (fun hq => (absurd hq List.not_mem_nil))))
  refine PV 0 rfl hS0 (R_field fa89_0 rfl) ?_
  refine PX_v 1 rfl (by kernel_rfl) (.inl rfl) rfl (by decide) (fun _ _ h => h) hS0 (fun l W hpd hs => have hS := hs; R_load (v := (.agg (encCred a0.Cred).toArray)) rfl (load_boxA hS (.head _) (encCred a0.Cred) rfl Tryz.isAgg83 Tryz.sizeOf83)) ?_
  obtain ⟨r101, hr102, hm⟩ := bind_some hm
  refine PX_e 2 rfl (by kernel_rfl) (.inl rfl) rfl (by decide) (E_gives (args := [(.agg (encCred a0.Cred).toArray)]) hST rfl Tryz.call106 (by exact args1 rfl) ((w_ref05_Right a0.Cred _ _  hr102)) (fun W103 hST => ?_))
  have hS0 : Has (hp w) ((b1, Obj.cells ((encStep a0).toArray : Array Value) 89 (0, 0)) :: []) _ := hST.has.sub (Sub.refl _) (fun p hq => ((List.mem_cons.1 hq).elim (fun hq => by rw [hq]; exact (.head _)) (fun hq => (absurd hq List.not_mem_nil))))
  refine ⟨hS0, ?_⟩
  refine PV 3 rfl hS0 (R_move (v := (.bool r101)) rfl) ?_
  obtain ⟨s146, hm147, hm148⟩ := bind_some hm
  refine PX_join (J := fun E W => ∃ (x105 : Bool) (L106 : List (Nat × Obj)), ST true NoF w W (hp w) ((b1, Obj.cells ((encStep a0).toArray : Array Value) 89 (0, 0)) :: L106) ∧ E 1 = v_a1 ∧ E 2 = (.pointer (some ⟨b1, 0, none⟩)) ∧ E 4 = (.bool false) ∧ E 16 = (.bool x105) ∧ (((if x105 then (((m_ref09_names a1)).bind fun r135 => (((m_ref08_Step a1 a0.Cred r135 a0.Fact.Who)).bind fun r143 => some r143)) else some false) : Option Bool).bind fun x125 => some x125) = some r) #[true, true, true, true, true, true, true, true, true, true, true, true, false, false, false, false, false, false, false, false, false, false, false, false] 12 ?_ (fun key149 => ?_)
  · rintro E W ⟨x105, L106, hST, e108, e109, e110, e111, hm107⟩
    have hS0 : Has (hp w) ((b1, Obj.cells ((encStep a0).toArray : Array Value) 89 (0, 0)) :: []) _ := hST.has.sub (Sub.refl _) (fun p hq => ((List.mem_cons.1 hq).elim (fun hq => by rw [hq]; exact (.head _)) (fun hq => (absurd hq List.not_mem_nil))))
    refine PV 12 rfl hS0 (R_move (v := (.bool x105)) e111) ?_
    obtain ⟨s131, hm132, hm133⟩ := bind_some hm107
    refine PX_join (J := fun E W => ∃ (x125 : Bool) (μ124 : Mem) (L126 : List (Nat × Obj)), Sub (hp w) μ124 ∧ ST true NoF w W μ124 ((b1, Obj.cells ((encStep a0).toArray : Array Value) 89 (0, 0)) :: L126) ∧ E 4 = (.bool false) ∧ E 27 = (.bool x125) ∧ some x125 = some r) #[true, true, true, true, true, true, true, true, true, true, true, true, true, true, true, true, true, true, true, true, true, true, true, false] 1 ?_ (fun key134 => ?_)
    · rintro E W ⟨x125, μ124, L126, hle128, hST, e129, e130, hm127⟩
      have hS0 : Has (hp w) ((b1, Obj.cells ((encStep a0).toArray : Array Value) 89 (0, 0)) :: []) _ := hST.has.sub hle128 (fun p hq => ((List.mem_cons.1 hq).elim (fun hq => by rw [hq]; exact (.head _)) (fun hq => (absurd hq List.not_mem_nil))))
      refine PV 23 rfl hS0 (R_assign (v := (.bool x125)) e130) ?_
      refine PX_done (by kernel_rfl) ?_
      refine sq_n ?_
      replace hST : ST true NoF w _ _ L126 := hST.sublist (List.Sublist.cons _ (List.Sublist.refl _))
      refine CW_ret ?_
      replace hm127 := Option.some.inj hm127; subst hm127
      refine retQ_1 (v := (.bool x125)) rfl rfl ?_
      exact ⟨rfl, hST.ex⟩
    · rcases bool_cases x105 with hb112 | hb112
      · replace hm132 := if_t hb112 hm132
        refine PX_v 13 rfl (by kernel_rfl) (.inr ⟨12, true, 17, rfl, rfl, by decide, (congrArg Value.bool hb112)⟩) rfl (by decide) (fun _ _ h => h) hS0 (fun _ _ _ _ => R_move (v := v_a1) e108) ?_
        refine PX_v 14 rfl (by kernel_rfl) (.inr ⟨12, true, 17, rfl, rfl, by decide, (congrArg Value.bool hb112)⟩) rfl (by decide) (fun _ _ h => h) hS0 (fun _ _ _ _ => R_field fa89_0 e109) ?_
        refine PX_v 15 rfl (by kernel_rfl) (.inr ⟨12, true, 17, rfl, rfl, by decide, (congrArg Value.bool hb112)⟩) rfl (by decide) (fun _ _ h => h) hS0 (fun l W hpd hs => have hS := hs; R_load (v := (.agg (encCred a0.Cred).toArray)) rfl (load_boxA hS (.head _) (encCred a0.Cred) rfl Tryz.isAgg83 Tryz.sizeOf83)) ?_
        refine PX_v 16 rfl (by kernel_rfl) (.inr ⟨12, true, 17, rfl, rfl, by decide, (congrArg Value.bool hb112)⟩) rfl (by decide) (fun _ _ h => h) hS0 (fun _ _ _ _ => R_move (v := v_a1) e108) ?_
        refine PX_v 18 rfl (by kernel_rfl) (.inr ⟨12, true, 17, rfl, rfl, by decide, (congrArg Value.bool hb112)⟩) rfl (by decide) (fun _ _ h => h) hS0 (fun _ _ _ _ => R_field fa89_1 e109) ?_
        refine PX_v 19 rfl (by kernel_rfl) (.inr ⟨12, true, 17, rfl, rfl, by decide, (congrArg Value.bool hb112)⟩) rfl (by decide) (fun _ _ h => h) hS0 (fun _ _ _ _ => R_field fa78_1 rfl) ?_
        refine PX_v 20 rfl (by kernel_rfl) (.inr ⟨12, true, 17, rfl, rfl, by decide, (congrArg Value.bool hb112)⟩) rfl (by decide) (fun _ _ h => h) hS0 (fun l W hpd hs => have hS := hs; R_load (v := (.string a0.Fact.Who)) rfl (load_box1 hS (.head _) rfl Tryz.isAgg9)) ?_
        obtain ⟨r135, hr136, hm132⟩ := bind_some hm132
        refine PX_e 17 rfl (by kernel_rfl) (.inr ⟨12, true, 17, rfl, rfl, by decide, (congrArg Value.bool hb112)⟩) rfl (by decide) (E_givesRow (args := [v_a1]) [_] _ hST rfl Tryz.call159 (by exact args1 rfl) ((w_ref09_names v_a1 a1 _ _ (h_a1.mono (Pl.mono _) hST.sub_hp) hr136)) (fun W137 v140 μ138 R141 hST hle139 hR142 => ?_))
        replace hST : ST true NoF w _ _ ((b1, Obj.cells ((encStep a0).toArray : Array Value) 89 (0, 0)) :: (R141 ++ L106)) := hST
        have hS0 : Has (hp w) ((b1, Obj.cells ((encStep a0).toArray : Array Value) 89 (0, 0)) :: []) _ := hST.has.sub hle139 (fun p hq => ((List.mem_cons.1 hq).elim (fun hq => by rw [hq]; exact (.head _)) (fun hq => (absurd hq List.not_mem_nil))))
        refine ⟨hS0, ?_⟩
        obtain ⟨r143, hr144, hm132⟩ := bind_some hm132
        refine PX_e 21 rfl (by kernel_rfl) (.inr ⟨12, true, 17, rfl, rfl, by decide, (congrArg Value.bool hb112)⟩) rfl (by decide) (E_gives (args := [v_a1, (.agg (encCred a0.Cred).toArray), v140, (.string a0.Fact.Who)]) hST rfl Tryz.call89 (by exact args4 rfl rfl rfl rfl) ((w_ref08_Step v_a1 a1 a0.Cred v140 r135 a0.Fact.Who _ _ (h_a1.mono (Pl.mono _) (hle139.trans hST.sub_hp)) (hR142.sl (fun _ => rfl) (fun b o hq => hST.at_ (.tail _ (List.mem_append_left _ hq)))) hr144)) (fun W145 hST => ?_))
        have hS0 : Has (hp w) ((b1, Obj.cells ((encStep a0).toArray : Array Value) 89 (0, 0)) :: []) _ := hST.has.sub hle139 (fun p hq => ((List.mem_cons.1 hq).elim (fun hq => by rw [hq]; exact (.head _)) (fun hq => (absurd hq List.not_mem_nil))))
        refine ⟨hS0, ?_⟩
        refine PV 22 rfl hS0 (R_pickT (v := (.bool r143)) (congrArg Value.bool hb112) rfl) ?_
        replace hm132 := Option.some.inj hm132; subst hm132
        refine PX_at (by kernel_rfl) (key134 _ _ ⟨r143, μ138, _, hle139, (hST.sublist (List.Sublist.cons_cons _ ((List.Sublist.refl _).trans (List.sublist_append_right _ _)))), e110, rfl, hm133⟩)
      · replace hm132 := if_f hb112 hm132
        refine PX_no 13 rfl (by kernel_rfl) rfl rfl (by decide) (congrArg Value.bool hb112) rfl (by decide) (fun _ _ h => h) hS0 ?_
        refine PX_no 14 rfl (by kernel_rfl) rfl rfl (by decide) (congrArg Value.bool hb112) rfl (by decide) (fun _ _ h => h) hS0 ?_
        refine PX_no 15 rfl (by kernel_rfl) rfl rfl (by decide) (congrArg Value.bool hb112) rfl (by decide) (fun _ _ h => h) hS0 ?_
        refine PX_no 16 rfl (by kernel_rfl) rfl rfl (by decide) (congrArg Value.bool hb112) rfl (by decide) (fun _ _ h => h) hS0 ?_
        refine PX_no 17 rfl (by kernel_rfl) rfl rfl (by decide) (congrArg Value.bool hb112) rfl (by decide) (fun _ _ h => h) hS0 ?_
        refine PX_no 18 rfl (by kernel_rfl) rfl rfl (by decide) (congrArg Value.bool hb112) rfl (by decide) (fun _ _ h => h) hS0 ?_
        refine PX_no 19 rfl (by kernel_rfl) rfl rfl (by decide) (congrArg Value.bool hb112) rfl (by decide) (fun _ _ h => h) hS0 ?_
        refine PX_no 20 rfl (by kernel_rfl) rfl rfl (by decide) (congrArg Value.bool hb112) rfl (by decide) (fun _ _ h => h) hS0 ?_
        refine PX_no 21 rfl (by kernel_rfl) rfl rfl (by decide) (congrArg Value.bool hb112) rfl (by decide) (fun _ _ h => h) hS0 ?_
        refine PV 22 rfl hS0 (R_pickF (v := (.bool false)) (congrArg Value.bool hb112) rfl) ?_
        replace hm132 := Option.some.inj hm132; subst hm132
        refine PX_at (by kernel_rfl) (key134 _ _ ⟨false, (hp w), _, (Sub.refl _), (hST.sublist (List.Sublist.refl _)), e110, rfl, hm133⟩)
  · rcases bool_cases r101 with hb104 | hb104
    · replace hm147 := if_t hb104 hm147
      refine PX_v 4 rfl (by kernel_rfl) (.inr ⟨3, true, 8, rfl, rfl, by decide, (congrArg Value.bool hb104)⟩) rfl (by decide) (fun _ _ h => h) hS0 (fun _ _ _ _ => R_field fa89_1 rfl) ?_
      refine PX_v 5 rfl (by kernel_rfl) (.inr ⟨3, true, 8, rfl, rfl, by decide, (congrArg Value.bool hb104)⟩) rfl (by decide) (fun _ _ h => h) hS0 (fun _ _ _ _ => R_field fa78_0 rfl) ?_
      refine PX_v 6 rfl (by kernel_rfl) (.inr ⟨3, true, 8, rfl, rfl, by decide, (congrArg Value.bool hb104)⟩) rfl (by decide) (fun _ _ h => h) hS0 (fun l W hpd hs => have hS := hs; R_load (v := (.agg (encRole a0.Fact.Role).toArray)) rfl (load_boxA hS (.head _) (encRole a0.Fact.Role) rfl Tryz.isAgg47 Tryz.sizeOf47)) ?_
      refine PX_v 7 rfl (by kernel_rfl) (.inr ⟨3, true, 8, rfl, rfl, by decide, (congrArg Value.bool hb104)⟩) rfl (by decide) (fun _ _ h => h) hS0 (fun _ _ _ _ => R_field fa89_0 rfl) ?_
      refine PX_v 8 rfl (by kernel_rfl) (.inr ⟨3, true, 8, rfl, rfl, by decide, (congrArg Value.bool hb104)⟩) rfl (by decide) (fun _ _ h => h) hS0 (fun _ _ _ _ => R_field fa83_1 rfl) ?_
      refine PX_v 9 rfl (by kernel_rfl) (.inr ⟨3, true, 8, rfl, rfl, by decide, (congrArg Value.bool hb104)⟩) rfl (by decide) (fun _ _ h => h) hS0 (fun l W hpd hs => have hS := hs; R_load (v := (.agg (encRole a0.Cred.Head).toArray)) rfl (load_boxA hS (.head _) (encRole a0.Cred.Head) rfl Tryz.isAgg47 Tryz.sizeOf47)) ?_
      refine PX_v 10 rfl (by kernel_rfl) (.inr ⟨3, true, 8, rfl, rfl, by decide, (congrArg Value.bool hb104)⟩) rfl (by decide) (fun _ _ h => h) hS0 (fun _ _ _ _ => R_eql (a := (encRole a0.Fact.Role).toArray) (b := (encRole a0.Cred.Head).toArray) rfl rfl (guard_agg Tryz.eqGuardType47) (bin_eql (eqInRole _ a0.Fact.Role a0.Cred.Head))) ?_
      refine PV 11 rfl hS0 (R_pickT (v := (.bool ((beqRole a0.Fact.Role a0.Cred.Head)))) (congrArg Value.bool hb104) rfl) ?_
      replace hm147 := Option.some.inj hm147; subst hm147
      refine PX_at (by kernel_rfl) (key149 _ _ ⟨((beqRole a0.Fact.Role a0.Cred.Head)), _, (hST.sublist (List.Sublist.refl _)), rfl, rfl, rfl, rfl, hm148⟩)
    · replace hm147 := if_f hb104 hm147
      refine PX_no 4 rfl (by kernel_rfl) rfl rfl (by decide) (congrArg Value.bool hb104) rfl (by decide) (fun _ _ h => h) hS0 ?_
      refine PX_no 5 rfl (by kernel_rfl) rfl rfl (by decide) (congrArg Value.bool hb104) rfl (by decide) (fun _ _ h => h) hS0 ?_
      refine PX_no 6 rfl (by kernel_rfl) rfl rfl (by decide) (congrArg Value.bool hb104) rfl (by decide) (fun _ _ h => h) hS0 ?_
      refine PX_no 7 rfl (by kernel_rfl) rfl rfl (by decide) (congrArg Value.bool hb104) rfl (by decide) (fun _ _ h => h) hS0 ?_
      refine PX_no 8 rfl (by kernel_rfl) rfl rfl (by decide) (congrArg Value.bool hb104) rfl (by decide) (fun _ _ h => h) hS0 ?_
      refine PX_no 9 rfl (by kernel_rfl) rfl rfl (by decide) (congrArg Value.bool hb104) rfl (by decide) (fun _ _ h => h) hS0 ?_
      refine PX_no 10 rfl (by kernel_rfl) rfl rfl (by decide) (congrArg Value.bool hb104) rfl (by decide) (fun _ _ h => h) hS0 ?_
      refine PV 11 rfl hS0 (R_pickF (v := (.bool false)) (congrArg Value.bool hb104) rfl) ?_
      replace hm147 := Option.some.inj hm147; subst hm147
      refine PX_at (by kernel_rfl) (key149 _ _ ⟨false, _, (hST.sublist (List.Sublist.refl _)), rfl, rfl, rfl, rfl, hm148⟩)
theorem w_ref09_Check (v_a0 : Value) (a0 : List Step) (v_a1 : Value) (a1 : List Cred) (a2 : Fact) (r : (Int × Int)) (w : World) (h_a0 : Sl (Pl encStep) 12 (hp w) v_a0 a0) (h_a1 : Sl (Pl encCred) 9 (hp w) v_a1 a1) (hm : m_ref09_Check a0 a1 a2 = some r) :
    Gives true Tryz.prog 55 [v_a0, v_a1, (.agg (encFact a2).toArray)] w (.tuple #[(.int .i64 r.1), (.int .i64 r.2)]) := by
  have hST := ST.start (dd := true) w
  unfold m_ref09_Check at hm
  refine calls_of_CW (n := 45) Tryz.func55 rfl rfl (Nat.le_of_ble_eq_true rfl) ?_
  refine CW_seq ?_
  refine CW_region ?_
  refine LE (E_box (v := (.agg (encFact a2).toArray)) hST rfl (fun W2 b1 hST => ?_))
  refine LV (R_assign (v := (.int .i64 0)) rfl) ?_
  refine LV (R_assign (v := (.int .i64 0)) rfl) ?_
  refine LW_nil ?_
  refine sq_n ?_
  refine CW_seq ?_
  refine CW_seq ?_
  refine CW_region ?_
  refine LV (R_move (v := v_a0) rfl) ?_
  refine LV (R_len Tryz.underlying79 rfl h_a0) ?_
  refine LV (R_move (v := (.int .i64 0)) rfl) ?_
  refine LW_nil ?_
  refine sq_n ?_
  refine CW_range (fun i E W => ∃  (μ647 : Mem) (L808 : List (Nat × Obj)), (E 12 = .int .i64 (i : Nat) ∧ E 11 = .int .i64 (a0.length : Nat)) ∧ Sub (hp w) μ647 ∧ ST true NoF w W μ647 ((b1, Obj.cells ((encFact a2).toArray : Array Value) 78 (0, 0)) :: L808) ∧ E 0 = v_a0 ∧ E 1 = v_a1 ∧ E 5 = (.pointer (some ⟨b1, 0, none⟩)) ∧ E 10 = v_a0 ∧ m_ref09_Check_L1 a1 a0 a2 (a0.drop i) i = some r) a0.length h_a0.len ⟨(hp w), _, ⟨rfl, rfl⟩, (Sub.refl _), (hST.sublist (List.Sublist.refl _)), rfl, rfl, rfl, rfl, hm⟩ (by decide) (by decide) (by decide) (fun _ _ _ h => by obtain ⟨_, _, eIN, _⟩ := h; exact eIN) ?_ ?_
  · rintro i486 E W hi492 ⟨μ647, L808, ⟨eI, eN⟩, hle810, hST, e811, e812, e813, e814, hm809⟩
    obtain ⟨x487, xs488, hx490, hx489, hx491⟩ := drop_cons hi492
    rw [hx490] at hm809
    rw [m_ref09_Check_L1] at hm809
    refine CW_block ?_
    refine CW_seq ?_
    refine CW_region ?_
    refine LV (R_move (v := (.int .i64 ((i486 : Int)))) eI) ?_
    refine LQ (R_indexP (enc := encStep) (i := (i486 : Int)) (x0 := x487) Tryz.underlying79 Tryz.sizeOf89 e814 eI (h_a0.mono (Pl.mono _) hle810) (Int.natCast_nonneg _) hx489) (fun p815 hp816 => ?_)
    refine LV (R_load rfl (load_atA hST.has hp816 Tryz.isAgg89 Tryz.sizeOf89)) ?_
    refine LE (E_alloc hST Tryz.zeroValue89 (fun W819 b818 hST => ?_))
    refine LV (R_assign (v := (.int .i64 ((i486 : Int)))) rfl) ?_
    refine LW_e0 (.inl rfl) rfl (E_store [] (.agg (encStep x487).toArray) ((encStep x487).toArray) hST rfl rfl Tryz.sizeOf89 (oneStep x487) (Nat.le_of_ble_eq_true rfl) rfl (fun W820 hST => ?_))
    refine LW_nil ?_
    refine sq_n ?_
    refine CW_seq ?_
    refine PX_start (fun l W => Has μ647 ((b818, Obj.cells ((encStep x487).toArray : Array Value) 89 (0, 0)) :: []) W) Tryz_mixed ?_
    replace hST := hST.drew
    replace hST : ST true NoF w _ _ ((b818, Obj.cells ((encStep x487).toArray : Array Value) 89 (0, 0)) :: ((b1, Obj.cells ((encFact a2).toArray : Array Value) 78 (0, 0)) :: L808)) := hST
    have hS0 : Has μ647 ((b818, Obj.cells ((encStep x487).toArray : Array Value) 89 (0, 0)) :: []) _ := hST.has.sub (Sub.refl _) (fun p hq => ((List.mem_cons.1 hq).elim (fun hq => by rw [hq]; exact (.head _)) (fun hq => (absurd hq List.not_mem_nil))))
    refine PV 0 rfl hS0 (R_move (v := v_a1) e812) ?_
    refine PV 1 rfl hS0 (R_field fa89_0 rfl) ?_
    refine PX_v 2 rfl (by kernel_rfl) (.inl rfl) rfl (by decide) (fun _ _ h => h) hS0 (fun l W hpd hs => have hS := hs; R_load (v := (.agg (encCred x487.Cred).toArray)) rfl (load_boxA hS (.head _) (encCred x487.Cred) rfl Tryz.isAgg83 Tryz.sizeOf83)) ?_
    obtain ⟨r919, hr920, hm809⟩ := bind_some hm809
    refine PX_e 3 rfl (by kernel_rfl) (.inl rfl) rfl (by decide) (E_gives (args := [v_a1, (.agg (encCred x487.Cred).toArray)]) hST rfl Tryz.call73 (by exact args2 rfl rfl) ((w_ref05_Has v_a1 a1 x487.Cred _ _ (h_a1.mono (Pl.mono _) (hle810.trans hST.sub_hp)) hr920)) (fun W921 hST => ?_))
    have hS0 : Has μ647 ((b818, Obj.cells ((encStep x487).toArray : Array Value) 89 (0, 0)) :: []) _ := hST.has.sub (Sub.refl _) (fun p hq => ((List.mem_cons.1 hq).elim (fun hq => by rw [hq]; exact (.head _)) (fun hq => (absurd hq List.not_mem_nil))))
    refine ⟨hS0, ?_⟩
    refine PV 4 rfl hS0 (R_not (b := r919) rfl) ?_
    refine PV 5 rfl hS0 (R_move (v := (.bool ((!r919)))) rfl) ?_
    obtain ⟨s951, hm952, hm953⟩ := bind_some hm809
    refine PX_join (J := fun E W => ∃ (x938 : Bool) (μ937 : Mem) (L939 : List (Nat × Obj)), Sub μ647 μ937 ∧ ST true NoF w W μ937 ((b818, Obj.cells ((encStep x487).toArray : Array Value) 89 (0, 0)) :: ((b1, Obj.cells ((encFact a2).toArray : Array Value) 78 (0, 0)) :: L939)) ∧ E 0 = v_a0 ∧ E 1 = v_a1 ∧ E 5 = (.pointer (some ⟨b1, 0, none⟩)) ∧ E 8 = (.int .i64 ((i486 : Int))) ∧ E 10 = v_a0 ∧ E 11 = (.int .i64 ((a0.length : Int))) ∧ E 12 = (.int .i64 ((i486 : Int))) ∧ E 30 = (.bool x938) ∧ (if x938 then some ((i486 : Int), 50) else (m_ref09_Check_L1 a1 a0 a2 xs488 (i486 + 1))) = some r) #[true, true, true, true, true, true, true, true, true, true, true, true, true, true] 0 ?_ (fun key954 => ?_)
    · rintro E W ⟨x938, μ937, L939, hle941, hST, e942, e943, e944, e945, e946, e947, e948, e949, hm940⟩
      have hS0 : Has μ647 ((b818, Obj.cells ((encStep x487).toArray : Array Value) 89 (0, 0)) :: []) _ := hST.has.sub hle941 (fun p hq => ((List.mem_cons.1 hq).elim (fun hq => by rw [hq]; exact (.head _)) (fun hq => (absurd hq List.not_mem_nil))))
      refine PX_done (by kernel_rfl) ?_
      refine sq_n ?_
      replace hST : ST true NoF w _ _ ((b1, Obj.cells ((encFact a2).toArray : Array Value) 78 (0, 0)) :: L939) := hST.sublist (List.Sublist.cons _ (List.Sublist.refl _))
      refine CW_if (b := x938) e949 (fun hb950 => ?_) (fun hb950 => ?_)
      · replace hm940 := if_t hb950 hm940
        refine CW_seq ?_
        refine CW_region ?_
        refine LV (R_move (v := (.int .i64 ((i486 : Int)))) e945) ?_
        refine LV (R_assign (v := (.int .i64 ((i486 : Int)))) rfl) ?_
        refine LV (R_assign (v := (.int .i64 50)) rfl) ?_
        refine LW_nil ?_
        refine sq_n ?_
        replace hST : ST true NoF w _ _ L939 := hST.sublist (List.Sublist.cons _ (List.Sublist.refl _))
        refine CW_ret ?_
        refine bq_r (sq_r (bq_r (sq_r ?_)))
        replace hm940 := Option.some.inj hm940; subst hm940
        refine retQ_2 (v := (.int .i64 ((i486 : Int)))) (u := (.int .i64 50)) rfl rfl rfl ?_
        exact ⟨rfl, hST.ex⟩
      · replace hm940 := if_f hb950 hm940
        refine CW_skip ?_
        refine bq_n ?_
        refine sq_n ?_
        exact ⟨e948, μ937, _, ⟨rfl, e947⟩, (hle810.trans hle941), (hST.sublist (List.Sublist.refl _)), e942, e943, e944, e946, (by rw [hx491]; exact hm940)⟩
    · rcases bool_cases ((!r919)) with hb922 | hb922
      · replace hm952 := if_t hb922 hm952
        refine PX_no 6 rfl (by kernel_rfl) rfl rfl (by decide) (congrArg Value.bool hb922) rfl (by decide) (fun _ _ h => h) hS0 ?_
        refine PX_no 7 rfl (by kernel_rfl) rfl rfl (by decide) (congrArg Value.bool hb922) rfl (by decide) (fun _ _ h => h) hS0 ?_
        refine PX_no 8 rfl (by kernel_rfl) rfl rfl (by decide) (congrArg Value.bool hb922) rfl (by decide) (fun _ _ h => h) hS0 ?_
        refine PX_no 9 rfl (by kernel_rfl) rfl rfl (by decide) (congrArg Value.bool hb922) rfl (by decide) (fun _ _ h => h) hS0 ?_
        refine PX_no 10 rfl (by kernel_rfl) rfl rfl (by decide) (congrArg Value.bool hb922) rfl (by decide) (fun _ _ h => h) hS0 ?_
        refine PX_no 11 rfl (by kernel_rfl) rfl rfl (by decide) (congrArg Value.bool hb922) rfl (by decide) (fun _ _ h => h) hS0 ?_
        refine PX_no 12 rfl (by kernel_rfl) rfl rfl (by decide) (congrArg Value.bool hb922) rfl (by decide) (fun _ _ h => h) hS0 ?_
        refine PV 13 rfl hS0 (R_pickT (v := (.bool true)) (congrArg Value.bool hb922) rfl) ?_
        replace hm952 := Option.some.inj hm952; subst hm952
        refine PX_at (by kernel_rfl) (key954 _ _ ⟨true, μ647, _, (Sub.refl _), (hST.sublist (List.Sublist.refl _)), e811, e812, e813, rfl, e814, eN, eI, rfl, hm953⟩)
      · replace hm952 := if_f hb922 hm952
        refine PX_v 6 rfl (by kernel_rfl) (.inr ⟨5, false, 22, rfl, rfl, by decide, (congrArg Value.bool hb922)⟩) rfl (by decide) (fun _ _ h => h) hS0 (fun l W hpd hs => have hS := hs; R_load (v := (.agg (encStep x487).toArray)) rfl (load_boxA hS (.head _) (encStep x487) rfl Tryz.isAgg89 Tryz.sizeOf89)) ?_
        refine PX_v 7 rfl (by kernel_rfl) (.inr ⟨5, false, 22, rfl, rfl, by decide, (congrArg Value.bool hb922)⟩) rfl (by decide) (fun _ _ h => h) hS0 (fun _ _ _ _ => R_move (v := v_a0) e811) ?_
        refine PX_v 8 rfl (by kernel_rfl) (.inr ⟨5, false, 22, rfl, rfl, by decide, (congrArg Value.bool hb922)⟩) rfl (by decide) (fun _ _ h => h) hS0 (fun _ _ _ _ => R_move (v := (.int .i64 ((i486 : Int)))) rfl) ?_
        obtain ⟨_, hg957, hm952⟩ := bind_some hm952
        refine PX_q 9 rfl (by kernel_rfl) (.inr ⟨5, false, 22, rfl, rfl, by decide, (congrArg Value.bool hb922)⟩) rfl (by decide) (fun _ _ h => h) hS0 (R_sliceSl0 (j := (i486 : Int)) Tryz.underlying79 Tryz.sizeOf89 rfl rfl (h_a0.mono (Pl.mono _) hle810) (chk_1 hg957) (chk_2 hg957)) (fun v955 hs956 => ?_)
        obtain ⟨r958, hr959, hm952⟩ := bind_some hm952
        refine PX_e 10 rfl (by kernel_rfl) (.inr ⟨5, false, 22, rfl, rfl, by decide, (congrArg Value.bool hb922)⟩) rfl (by decide) (E_givesRow (args := [v955]) [_, _] _ hST rfl Tryz.call112 (by exact args1 rfl) ((w_ref09_Facts v955 ((a0.take (Int.toNat ((i486 : Int))))) _ _ (hs956.1.mono (Pl.mono _) hST.sub_hp) hr959)) (fun W960 v963 μ961 R964 hST hle962 hR965 => ?_))
        replace hST : ST true NoF w _ _ ((b818, Obj.cells ((encStep x487).toArray : Array Value) 89 (0, 0)) :: ((b1, Obj.cells ((encFact a2).toArray : Array Value) 78 (0, 0)) :: (R964 ++ L808))) := hST
        have hS0 : Has μ647 ((b818, Obj.cells ((encStep x487).toArray : Array Value) 89 (0, 0)) :: []) _ := hST.has.sub hle962 (fun p hq => ((List.mem_cons.1 hq).elim (fun hq => by rw [hq]; exact (.head _)) (fun hq => (absurd hq List.not_mem_nil))))
        refine ⟨hS0, ?_⟩
        obtain ⟨r966, hr967, hm952⟩ := bind_some hm952
        refine PX_e 11 rfl (by kernel_rfl) (.inr ⟨5, false, 22, rfl, rfl, by decide, (congrArg Value.bool hb922)⟩) rfl (by decide) (E_gives (args := [(.agg (encStep x487).toArray), v963]) hST rfl Tryz.call111 (by exact args2 rfl rfl) ((w_ref09_Follows x487 v963 r958 _ _ (hR965.sl lenFact (fun b o hq => hST.at_ (.tail _ (.tail _ (List.mem_append_left _ hq))))) hr967)) (fun W968 hST => ?_))
        have hS0 : Has μ647 ((b818, Obj.cells ((encStep x487).toArray : Array Value) 89 (0, 0)) :: []) _ := hST.has.sub hle962 (fun p hq => ((List.mem_cons.1 hq).elim (fun hq => by rw [hq]; exact (.head _)) (fun hq => (absurd hq List.not_mem_nil))))
        refine ⟨hS0, ?_⟩
        refine PX_v 12 rfl (by kernel_rfl) (.inr ⟨5, false, 22, rfl, rfl, by decide, (congrArg Value.bool hb922)⟩) rfl (by decide) (fun _ _ h => h) hS0 (fun _ _ _ _ => R_not (b := r966) rfl) ?_
        refine PV 13 rfl hS0 (R_pickF (v := (.bool ((!r966)))) (congrArg Value.bool hb922) rfl) ?_
        replace hm952 := Option.some.inj hm952; subst hm952
        refine PX_at (by kernel_rfl) (key954 _ _ ⟨((!r966)), μ961, _, hle962, (hST.sublist (List.Sublist.cons_cons _ (List.Sublist.cons_cons _ ((List.Sublist.refl _).trans (List.sublist_append_right _ _))))), e811, e812, e813, rfl, e814, eN, eI, rfl, hm953⟩)
  · rintro E W ⟨μ647, L808, ⟨eI, eN⟩, hle810, hST, e811, e812, e813, e814, hm809⟩
    rw [List.drop_length] at hm809
    rw [m_ref09_Check_L1] at hm809
    refine sq_n ?_
    refine CW_seq ?_
    refine CW_seq ?_
    refine PX_start (fun l W => Has μ647 ((b1, Obj.cells ((encFact a2).toArray : Array Value) 78 (0, 0)) :: []) W) Tryz_mixed ?_
    replace hST := hST.drew
    have hS0 : Has μ647 ((b1, Obj.cells ((encFact a2).toArray : Array Value) 78 (0, 0)) :: []) _ := hST.has.sub (Sub.refl _) (fun p hq => ((List.mem_cons.1 hq).elim (fun hq => by rw [hq]; exact (.head _)) (fun hq => (absurd hq List.not_mem_nil))))
    refine PV 0 rfl hS0 (R_move (v := v_a0) e811) ?_
    refine PV 2 rfl hS0 (R_field fa78_0 e813) ?_
    refine PX_v 3 rfl (by kernel_rfl) (.inl rfl) rfl (by decide) (fun _ _ h => h) hS0 (fun l W hpd hs => have hS := hs; R_load (v := (.agg (encRole a2.Role).toArray)) rfl (load_boxA hS (.head _) (encRole a2.Role) rfl Tryz.isAgg47 Tryz.sizeOf47)) ?_
    refine PV 4 rfl hS0 (R_field fa78_1 e813) ?_
    refine PX_v 5 rfl (by kernel_rfl) (.inl rfl) rfl (by decide) (fun _ _ h => h) hS0 (fun l W hpd hs => have hS := hs; R_load (v := (.string a2.Who)) rfl (load_box1 hS (.head _) rfl Tryz.isAgg9)) ?_
    obtain ⟨r991, hr992, hm809⟩ := bind_some hm809
    refine PX_e 1 rfl (by kernel_rfl) (.inl rfl) rfl (by decide) (E_givesRow (args := [v_a0]) [_] _ hST rfl Tryz.call112 (by exact args1 rfl) ((w_ref09_Facts v_a0 a0 _ _ (h_a0.mono (Pl.mono _) (hle810.trans hST.sub_hp)) hr992)) (fun W993 v996 μ994 R997 hST hle995 hR998 => ?_))
    replace hST : ST true NoF w _ _ ((b1, Obj.cells ((encFact a2).toArray : Array Value) 78 (0, 0)) :: (R997 ++ L808)) := hST
    have hS0 : Has μ647 ((b1, Obj.cells ((encFact a2).toArray : Array Value) 78 (0, 0)) :: []) _ := hST.has.sub hle995 (fun p hq => ((List.mem_cons.1 hq).elim (fun hq => by rw [hq]; exact (.head _)) (fun hq => (absurd hq List.not_mem_nil))))
    refine ⟨hS0, ?_⟩
    obtain ⟨r999, hr1000, hm809⟩ := bind_some hm809
    refine PX_e 6 rfl (by kernel_rfl) (.inl rfl) rfl (by decide) (E_gives (args := [v996, (.agg (encRole a2.Role).toArray), (.string a2.Who)]) hST rfl Tryz.call36 (by exact args3 rfl rfl rfl) ((w_ref08_In v996 r991 a2.Role a2.Who _ _ (hR998.sl lenFact (fun b o hq => hST.at_ (.tail _ (List.mem_append_left _ hq)))) hr1000)) (fun W1001 hST => ?_))
    have hS0 : Has μ647 ((b1, Obj.cells ((encFact a2).toArray : Array Value) 78 (0, 0)) :: []) _ := hST.has.sub hle995 (fun p hq => ((List.mem_cons.1 hq).elim (fun hq => by rw [hq]; exact (.head _)) (fun hq => (absurd hq List.not_mem_nil))))
    refine ⟨hS0, ?_⟩
    refine PV 7 rfl hS0 (R_not (b := r999) rfl) ?_
    refine PX_done (by kernel_rfl) ?_
    refine sq_n ?_
    replace hST : ST true NoF w _ _ L808 := hST.sublist (List.Sublist.cons _ ((List.Sublist.refl _).trans (List.sublist_append_right _ _)))
    refine CW_if (b := (!r999)) rfl (fun hb1002 => ?_) (fun hb1002 => ?_)
    · replace hm809 := if_t hb1002 hm809
      refine CW_seq ?_
      refine CW_region ?_
      refine LV (R_move (v := v_a0) e811) ?_
      refine LV (R_len Tryz.underlying79 rfl h_a0) ?_
      refine LV (R_assign (v := (.int .i64 ((a0.length : Int)))) rfl) ?_
      refine LV (R_assign (v := (.int .i64 42)) rfl) ?_
      refine LW_nil ?_
      refine sq_n ?_
      refine CW_ret ?_
      refine sq_r ?_
      replace hm809 := Option.some.inj hm809; subst hm809
      refine retQ_2 (v := (.int .i64 ((a0.length : Int)))) (u := (.int .i64 42)) rfl rfl rfl ?_
      exact ⟨rfl, hST.ex⟩
    · replace hm809 := if_f hb1002 hm809
      refine CW_skip ?_
      refine sq_n ?_
      refine CW_seq ?_
      refine CW_region ?_
      refine LV (R_move (v := v_a0) e811) ?_
      refine LV (R_len Tryz.underlying79 rfl h_a0) ?_
      refine LV (R_assign (v := (.int .i64 ((a0.length : Int)))) rfl) ?_
      refine LV (R_assign (v := (.int .i64 0)) rfl) ?_
      refine LW_nil ?_
      refine sq_n ?_
      refine CW_ret ?_
      replace hm809 := Option.some.inj hm809; subst hm809
      refine retQ_2 (v := (.int .i64 ((a0.length : Int)))) (u := (.int .i64 0)) rfl rfl rfl ?_
      exact ⟨rfl, hST.ex⟩
theorem w_ref09_stands (v_a0 : Value) (a0 : List Step) (r : Bool) (w : World) (h_a0 : Sl (Pl encStep) 12 (hp w) v_a0 a0) (hm : m_ref09_stands a0 = some r) :
    Gives true Tryz.prog 113 [v_a0] w (.bool r) := by
  have hST := ST.start (dd := true) w
  unfold m_ref09_stands at hm
  refine calls_of_CW (n := 20) Tryz.func113 rfl rfl (Nat.le_of_ble_eq_true rfl) ?_
  refine CW_seq ?_
  refine CW_region ?_
  refine LV (R_assign (v := (.bool false)) rfl) ?_
  refine LW_nil ?_
  refine sq_n ?_
  refine CW_seq ?_
  refine CW_seq ?_
  refine CW_region ?_
  refine LV (R_move (v := v_a0) rfl) ?_
  refine LV (R_len Tryz.underlying79 rfl h_a0) ?_
  refine LV (R_move (v := (.int .i64 0)) rfl) ?_
  refine LW_nil ?_
  refine sq_n ?_
  refine CW_range (fun i E W => ∃  (μ221 : Mem) (L275 : List (Nat × Obj)), (E 7 = .int .i64 (i : Nat) ∧ E 6 = .int .i64 (a0.length : Nat)) ∧ Sub (hp w) μ221 ∧ ST true NoF w W μ221 L275 ∧ E 0 = v_a0 ∧ E 5 = v_a0 ∧ m_ref09_stands_L1 a0 (a0.drop i) i = some r) a0.length h_a0.len ⟨(hp w), _, ⟨rfl, rfl⟩, (Sub.refl _), (hST.sublist (List.Sublist.refl _)), rfl, rfl, hm⟩ (by decide) (by decide) (by decide) (fun _ _ _ h => by obtain ⟨_, _, eIN, _⟩ := h; exact eIN) ?_ ?_
  · rintro i165 E W hi171 ⟨μ221, L275, ⟨eI, eN⟩, hle277, hST, e278, e279, hm276⟩
    obtain ⟨x166, xs167, hx169, hx168, hx170⟩ := drop_cons hi171
    rw [hx169] at hm276
    rw [m_ref09_stands_L1] at hm276
    refine CW_block ?_
    refine CW_seq ?_
    refine CW_region ?_
    refine LV (R_move (v := (.int .i64 ((i165 : Int)))) eI) ?_
    refine LQ (R_indexP (enc := encStep) (i := (i165 : Int)) (x0 := x166) Tryz.underlying79 Tryz.sizeOf89 e279 eI (h_a0.mono (Pl.mono _) hle277) (Int.natCast_nonneg _) hx168) (fun p280 hp281 => ?_)
    refine LV (R_load rfl (load_atA hST.has hp281 Tryz.isAgg89 Tryz.sizeOf89)) ?_
    refine LE (E_alloc hST Tryz.zeroValue89 (fun W284 b283 hST => ?_))
    refine LV (R_assign (v := (.int .i64 ((i165 : Int)))) rfl) ?_
    refine LW_e0 (.inl rfl) rfl (E_store [] (.agg (encStep x166).toArray) ((encStep x166).toArray) hST rfl rfl Tryz.sizeOf89 (oneStep x166) (Nat.le_of_ble_eq_true rfl) rfl (fun W285 hST => ?_))
    refine LW_nil ?_
    refine sq_n ?_
    refine CW_seq ?_
    refine PX_start (fun l W => Has μ221 ((b283, Obj.cells ((encStep x166).toArray : Array Value) 89 (0, 0)) :: []) W) Tryz_mixed ?_
    replace hST := hST.drew
    replace hST : ST true NoF w _ _ ((b283, Obj.cells ((encStep x166).toArray : Array Value) 89 (0, 0)) :: L275) := hST
    have hS0 : Has μ221 ((b283, Obj.cells ((encStep x166).toArray : Array Value) 89 (0, 0)) :: []) _ := hST.has.sub (Sub.refl _) (fun p hq => ((List.mem_cons.1 hq).elim (fun hq => by rw [hq]; exact (.head _)) (fun hq => (absurd hq List.not_mem_nil))))
    refine PX_v 0 rfl (by kernel_rfl) (.inl rfl) rfl (by decide) (fun _ _ h => h) hS0 (fun l W hpd hs => have hS := hs; R_load (v := (.agg (encStep x166).toArray)) rfl (load_boxA hS (.head _) (encStep x166) rfl Tryz.isAgg89 Tryz.sizeOf89)) ?_
    refine PV 1 rfl hS0 (R_move (v := v_a0) e278) ?_
    refine PV 2 rfl hS0 (R_move (v := (.int .i64 ((i165 : Int)))) rfl) ?_
    obtain ⟨_, hg316, hm276⟩ := bind_some hm276
    refine PX_q 3 rfl (by kernel_rfl) (.inl rfl) rfl (by decide) (fun _ _ h => h) hS0 (R_sliceSl0 (j := (i165 : Int)) Tryz.underlying79 Tryz.sizeOf89 rfl rfl (h_a0.mono (Pl.mono _) hle277) (chk_1 hg316) (chk_2 hg316)) (fun v314 hs315 => ?_)
    obtain ⟨r317, hr318, hm276⟩ := bind_some hm276
    refine PX_e 4 rfl (by kernel_rfl) (.inl rfl) rfl (by decide) (E_givesRow (args := [v314]) [_] _ hST rfl Tryz.call112 (by exact args1 rfl) ((w_ref09_Facts v314 ((a0.take (Int.toNat ((i165 : Int))))) _ _ (hs315.1.mono (Pl.mono _) hST.sub_hp) hr318)) (fun W319 v322 μ320 R323 hST hle321 hR324 => ?_))
    replace hST : ST true NoF w _ _ ((b283, Obj.cells ((encStep x166).toArray : Array Value) 89 (0, 0)) :: (R323 ++ L275)) := hST
    have hS0 : Has μ221 ((b283, Obj.cells ((encStep x166).toArray : Array Value) 89 (0, 0)) :: []) _ := hST.has.sub hle321 (fun p hq => ((List.mem_cons.1 hq).elim (fun hq => by rw [hq]; exact (.head _)) (fun hq => (absurd hq List.not_mem_nil))))
    refine ⟨hS0, ?_⟩
    obtain ⟨r325, hr326, hm276⟩ := bind_some hm276
    refine PX_e 5 rfl (by kernel_rfl) (.inl rfl) rfl (by decide) (E_gives (args := [(.agg (encStep x166).toArray), v322]) hST rfl Tryz.call111 (by exact args2 rfl rfl) ((w_ref09_Follows x166 v322 r317 _ _ (hR324.sl lenFact (fun b o hq => hST.at_ (.tail _ (List.mem_append_left _ hq)))) hr326)) (fun W327 hST => ?_))
    have hS0 : Has μ221 ((b283, Obj.cells ((encStep x166).toArray : Array Value) 89 (0, 0)) :: []) _ := hST.has.sub hle321 (fun p hq => ((List.mem_cons.1 hq).elim (fun hq => by rw [hq]; exact (.head _)) (fun hq => (absurd hq List.not_mem_nil))))
    refine ⟨hS0, ?_⟩
    refine PV 6 rfl hS0 (R_not (b := r325) rfl) ?_
    refine PX_done (by kernel_rfl) ?_
    refine sq_n ?_
    replace hST : ST true NoF w _ _ L275 := hST.sublist (List.Sublist.cons _ ((List.Sublist.refl _).trans (List.sublist_append_right _ _)))
    refine CW_if (b := (!r325)) rfl (fun hb328 => ?_) (fun hb328 => ?_)
    · replace hm276 := if_t hb328 hm276
      refine CW_seq ?_
      refine CW_region ?_
      refine LV (R_assign (v := (.bool false)) rfl) ?_
      refine LW_nil ?_
      refine sq_n ?_
      refine CW_ret ?_
      refine bq_r (sq_r (bq_r (sq_r ?_)))
      replace hm276 := Option.some.inj hm276; subst hm276
      refine retQ_1 (v := (.bool false)) rfl rfl ?_
      exact ⟨rfl, hST.ex⟩
    · replace hm276 := if_f hb328 hm276
      refine CW_skip ?_
      refine bq_n ?_
      refine sq_n ?_
      exact ⟨eI, μ320, _, ⟨rfl, eN⟩, (hle277.trans hle321), (hST.sublist (List.Sublist.refl _)), e278, e279, (by rw [hx170]; exact hm276)⟩
  · rintro E W ⟨μ221, L275, ⟨eI, eN⟩, hle277, hST, e278, e279, hm276⟩
    rw [List.drop_length] at hm276
    rw [m_ref09_stands_L1] at hm276
    refine sq_n ?_
    refine CW_seq ?_
    refine CW_region ?_
    refine LV (R_assign (v := (.bool true)) rfl) ?_
    refine LW_nil ?_
    refine sq_n ?_
    refine CW_ret ?_
    replace hm276 := Option.some.inj hm276; subst hm276
    refine retQ_1 (v := (.bool true)) rfl rfl ?_
    exact ⟨rfl, hST.ex⟩
theorem w_ref09_Tight (v_a0 : Value) (a0 : List Step) (r : Bool) (w : World) (h_a0 : Sl (Pl encStep) 12 (hp w) v_a0 a0) (hm : m_ref09_Tight a0 = some r) :
    Gives true Tryz.prog 56 [v_a0] w (.bool r) := by
  have hST := ST.start (dd := true) w
  unfold m_ref09_Tight at hm
  refine calls_of_CW (n := 51) Tryz.func56 rfl rfl (Nat.le_of_ble_eq_true rfl) ?_
  refine CW_seq ?_
  refine CW_region ?_
  refine LV (R_assign (v := (.bool false)) rfl) ?_
  refine LW_nil ?_
  refine sq_n ?_
  refine CW_seq ?_
  refine CW_seq ?_
  refine CW_region ?_
  refine LV (R_move (v := v_a0) rfl) ?_
  refine LV (R_len Tryz.underlying79 rfl h_a0) ?_
  refine LV (R_move (v := (.int .i64 0)) rfl) ?_
  refine LW_nil ?_
  refine sq_n ?_
  refine CW_range (fun i E W => ∃  (L1535 : List (Nat × Obj)), (E 9 = .int .i64 (i : Nat) ∧ E 8 = .int .i64 (a0.length : Nat)) ∧ ST true NoF w W (hp w) L1535 ∧ E 0 = v_a0 ∧ m_ref09_Tight_L1 a0 (a0.drop i) i = some r) a0.length h_a0.len ⟨_, ⟨rfl, rfl⟩, (hST.sublist (List.Sublist.refl _)), rfl, hm⟩ (by decide) (by decide) (by decide) (fun _ _ _ h => by obtain ⟨_, eIN, _⟩ := h; exact eIN) ?_ ?_
  · rintro i921 E W hi927 ⟨L1535, ⟨eI, eN⟩, hST, e1537, hm1536⟩
    obtain ⟨x922, xs923, hx925, hx924, hx926⟩ := drop_cons hi927
    rw [hx925] at hm1536
    rw [m_ref09_Tight_L1] at hm1536
    refine CW_block ?_
    refine CW_seq ?_
    refine CW_region ?_
    refine LV (R_move (v := (.int .i64 ((i921 : Int)))) eI) ?_
    refine LV (R_assign (v := (.int .i64 ((i921 : Int)))) rfl) ?_
    refine LW_nil ?_
    refine sq_n ?_
    refine CW_seq ?_
    refine CW_region ?_
    refine LV (R_assign (v := (.int .i64 0)) rfl) ?_
    refine LW_nil ?_
    refine sq_n ?_
    refine CW_tail ?_
    obtain ⟨s1690, hm1691, hm1692⟩ := bind_some hm1536
    refine CW_cut (fun E W => ∃  (L1685 : List (Nat × Obj)), ST true NoF w W (hp w) L1685 ∧ E 0 = v_a0 ∧ E 8 = (.int .i64 ((a0.length : Int))) ∧ E 9 = (.int .i64 ((i921 : Int))) ∧ (m_ref09_Tight_L1 a0 xs923 (i921 + 1)) = some r) ?_ ?_
    · refine CW_block (CW_loop (fun m E W => ∃ (x1737 : Int) (L1788 : List (Nat × Obj)), ST true NoF w W (hp w) L1788 ∧ E 0 = v_a0 ∧ E 3 = (.int .i64 ((i921 : Int))) ∧ E 4 = (.int .i64 x1737) ∧ E 8 = (.int .i64 ((a0.length : Int))) ∧ E 9 = (.int .i64 ((i921 : Int))) ∧ m_ref09_Tight_L2 i921 a0 x922 m x1737 = some s1690) FUEL ⟨0, _, (hST.sublist (List.Sublist.refl _)), e1537, rfl, rfl, eN, eI, hm1691⟩ ?_)
      rintro m E W ⟨x1737, L1788, hST, e1791, e1792, e1793, e1794, e1795, hm1789⟩
      cases m with
      | zero => rw [m_ref09_Tight_L2] at hm1789; cases hm1789
      | succ n1790 =>
        rw [m_ref09_Tight_L2] at hm1789
        refine CW_seq ?_
        refine CW_seq ?_
        refine CW_region ?_
        refine LV (R_move (v := (.int .i64 x1737)) e1793) ?_
        refine LV (R_move (v := (.int .i64 ((i921 : Int)))) e1792) ?_
        refine LV (R_int (k := .i64) (a := x1737) (b := ((i921 : Int))) (v := (.bool ((decide (x1737 < ((i921 : Int))))))) rfl rfl rfl) ?_
        refine LW_nil ?_
        refine sq_n ?_
        refine CW_if (b := (decide (x1737 < ((i921 : Int))))) rfl (fun hb1796 => ?_) (fun hb1796 => ?_)
        · replace hm1789 := if_t hb1796 hm1789
          refine CW_skip ?_
          refine sq_n ?_
          refine CW_seq ?_
          refine CW_block ?_
          refine CW_seq ?_
          refine PX_start (fun l W => Has (hp w) [] W) Tryz_mixed ?_
          replace hST := hST.drew
          have hS0 : Has (hp w) [] _ := hST.has.sub (Sub.refl _) (fun p hq => (absurd hq List.not_mem_nil))
          refine PV 0 rfl hS0 (R_move (v := v_a0) e1791) ?_
          refine PV 1 rfl hS0 (R_move (v := (.int .i64 ((i921 : Int)))) e1792) ?_
          refine PX_q 2 rfl (by kernel_rfl) (.inl rfl) rfl (by decide) (fun _ _ h => h) hS0 (R_indexP (enc := encStep) (i := (i921 : Int)) (x0 := x922) Tryz.underlying79 Tryz.sizeOf89 rfl rfl h_a0 (Int.natCast_nonneg _) hx924) (fun p1825 hp1826 => ?_)
          refine PX_q 3 rfl (by kernel_rfl) (.inl rfl) rfl (by decide) (fun _ _ h => h) hS0 (R_fieldAt (encFact x922.Fact) fa89_1 rfl hp1826 rfl) (fun p1828 hp1829 => ?_)
          refine PX_v 4 rfl (by kernel_rfl) (.inl rfl) rfl (by decide) (fun _ _ h => h) hS0 (fun l W hpd hs => have hS := hs; R_load rfl (load_atA hS hp1829 Tryz.isAgg78 Tryz.sizeOf78)) ?_
          refine PV 5 rfl hS0 (R_move (v := v_a0) e1791) ?_
          refine PV 6 rfl hS0 (R_move (v := (.int .i64 x1737)) e1793) ?_
          obtain ⟨x1834, hx1835, hm1789⟩ := bind_some hm1789
          refine PX_q 7 rfl (by kernel_rfl) (.inl rfl) rfl (by decide) (fun _ _ h => h) hS0 (R_indexP (enc := encStep) (i := x1737) (x0 := x1834) Tryz.underlying79 Tryz.sizeOf89 rfl rfl h_a0 (idx_nonneg hx1835) (idx_get hx1835)) (fun p1831 hp1832 => ?_)
          refine PX_q 8 rfl (by kernel_rfl) (.inl rfl) rfl (by decide) (fun _ _ h => h) hS0 (R_fieldAt (encFact x1834.Fact) fa89_1 rfl hp1832 rfl) (fun p1836 hp1837 => ?_)
          refine PX_v 9 rfl (by kernel_rfl) (.inl rfl) rfl (by decide) (fun _ _ h => h) hS0 (fun l W hpd hs => have hS := hs; R_load rfl (load_atA hS hp1837 Tryz.isAgg78 Tryz.sizeOf78)) ?_
          refine PV 10 rfl hS0 (R_eql (a := (encFact x922.Fact).toArray) (b := (encFact x1834.Fact).toArray) rfl rfl (guard_agg Tryz.eqGuardType78) (bin_eql (eqInFact _ x922.Fact x1834.Fact))) ?_
          refine PX_done (by kernel_rfl) ?_
          refine sq_n ?_
          refine CW_if (b := (beqFact x922.Fact x1834.Fact)) rfl (fun hb1839 => ?_) (fun hb1839 => ?_)
          · replace hm1789 := if_t hb1839 hm1789
            refine CW_seq ?_
            refine CW_region ?_
            refine LV (R_assign (v := (.bool false)) rfl) ?_
            refine LW_nil ?_
            refine sq_n ?_
            refine CW_ret ?_
            refine bq_r (sq_r (sq_r (bq_r (sq_r (bq_r (sq_r (bq_r (sq_r ?_))))))))
            replace hm1789 := Option.some.inj hm1789; subst hm1789
            replace hm1692 : some false = some r := hm1692
            replace hm1692 := Option.some.inj hm1692; subst hm1692
            refine retQ_1 (v := (.bool false)) rfl rfl ?_
            exact ⟨rfl, hST.ex⟩
          · replace hm1789 := if_f hb1839 hm1789
            refine CW_skip ?_
            refine bq_n ?_
            refine sq_n ?_
            refine CW_region ?_
            refine LV (R_move (v := (.int .i64 x1737)) e1793) ?_
            refine LV (R_int (k := .i64) (a := x1737) (b := 1) (v := (.int .i64 ((IntKind.i64.wrap (x1737 + 1))))) rfl rfl rfl) ?_
            refine LV (R_assign (v := (.int .i64 ((IntKind.i64.wrap (x1737 + 1))))) rfl) ?_
            refine LW_nil ?_
            refine sq_n ?_
            exact ⟨n1790, Nat.lt_succ_self _, ((IntKind.i64.wrap (x1737 + 1))), _, (hST.sublist (List.Sublist.refl _)), e1791, e1792, rfl, e1794, e1795, hm1789⟩
        · replace hm1789 := if_f hb1796 hm1789
          refine CW_exit ?_
          refine sq_e (sq_e (bq_e ?_))
          refine sq_n ?_
          replace hm1789 := Option.some.inj hm1789; subst hm1789
          exact ⟨_, (hST.sublist (List.Sublist.refl _)), e1791, e1794, e1795, hm1692⟩
    · rintro E W ⟨L1685, hST, e1687, e1688, e1689, hm1686⟩
      refine bq_n ?_
      refine sq_n ?_
      exact ⟨e1689, _, ⟨rfl, e1688⟩, (hST.sublist (List.Sublist.refl _)), e1687, (by rw [hx926]; exact hm1686)⟩
  · rintro E W ⟨L1535, ⟨eI, eN⟩, hST, e1537, hm1536⟩
    rw [List.drop_length] at hm1536
    rw [m_ref09_Tight_L1] at hm1536
    refine sq_n ?_
    refine CW_seq ?_
    refine CW_seq ?_
    refine CW_region ?_
    refine LV (R_move (v := v_a0) e1537) ?_
    obtain ⟨r1841, hr1842, hm1536⟩ := bind_some hm1536
    refine LE (E_gives (args := [v_a0]) hST rfl Tryz.call113 (by exact args1 rfl) ((w_ref09_stands v_a0 a0 _ _ (h_a0.mono (Pl.mono _) hST.sub_hp) hr1842)) (fun W1843 hST => ?_))
    refine LV (R_not (b := r1841) rfl) ?_
    refine LW_nil ?_
    refine sq_n ?_
    refine CW_if (b := (!r1841)) rfl (fun hb1844 => ?_) (fun hb1844 => ?_)
    · replace hm1536 := if_t hb1844 hm1536
      refine CW_seq ?_
      refine CW_region ?_
      refine LV (R_assign (v := (.bool false)) rfl) ?_
      refine LW_nil ?_
      refine sq_n ?_
      refine CW_ret ?_
      refine sq_r ?_
      replace hm1536 := Option.some.inj hm1536; subst hm1536
      refine retQ_1 (v := (.bool false)) rfl rfl ?_
      exact ⟨rfl, hST.ex⟩
    · replace hm1536 := if_f hb1844 hm1536
      refine CW_skip ?_
      refine sq_n ?_
      refine CW_seq ?_
      refine CW_seq ?_
      refine CW_region ?_
      refine LV (R_assign (v := (.int .i64 0)) rfl) ?_
      refine LW_nil ?_
      refine sq_n ?_
      obtain ⟨s2051, hm2052, hm2053⟩ := bind_some hm1536
      refine CW_cut (fun E W => ∃  (L2049 : List (Nat × Obj)), ST true NoF w W (hp w) L2049 ∧ some true = some r) ?_ ?_
      · refine CW_block (CW_loop (fun m E W => ∃ (x2119 : Int) (L2188 : List (Nat × Obj)), ST true NoF w W (hp w) L2188 ∧ E 0 = v_a0 ∧ E 5 = (.int .i64 x2119) ∧ m_ref09_Tight_L3 a0 m x2119 = some s2051) FUEL ⟨0, _, (hST.sublist (List.Sublist.refl _)), e1537, rfl, hm2052⟩ ?_)
        rintro m E W ⟨x2119, L2188, hST, e2191, e2192, hm2189⟩
        cases m with
        | zero => rw [m_ref09_Tight_L3] at hm2189; cases hm2189
        | succ n2190 =>
          rw [m_ref09_Tight_L3] at hm2189
          refine CW_seq ?_
          refine CW_seq ?_
          refine CW_region ?_
          refine LV (R_move (v := (.int .i64 x2119)) e2192) ?_
          refine LV (R_int (k := .i64) (a := x2119) (b := 1) (v := (.int .i64 ((IntKind.i64.wrap (x2119 + 1))))) rfl rfl rfl) ?_
          refine LV (R_move (v := v_a0) e2191) ?_
          refine LV (R_len Tryz.underlying79 rfl h_a0) ?_
          refine LV (R_int (k := .i64) (a := ((IntKind.i64.wrap (x2119 + 1)))) (b := ((a0.length : Int))) (v := (.bool ((decide (((IntKind.i64.wrap (x2119 + 1))) < ((a0.length : Int))))))) rfl rfl rfl) ?_
          refine LW_nil ?_
          refine sq_n ?_
          refine CW_if (b := (decide (((IntKind.i64.wrap (x2119 + 1))) < ((a0.length : Int))))) rfl (fun hb2193 => ?_) (fun hb2193 => ?_)
          · replace hm2189 := if_t hb2193 hm2189
            refine CW_skip ?_
            refine sq_n ?_
            refine CW_seq ?_
            refine CW_block ?_
            refine CW_seq ?_
            refine PX_start (fun l W => Has (hp w) [] W) Tryz_mixed ?_
            replace hST := hST.drew
            have hS0 : Has (hp w) [] _ := hST.has.sub (Sub.refl _) (fun p hq => (absurd hq List.not_mem_nil))
            refine PV 1 rfl hS0 (R_move (v := v_a0) e2191) ?_
            refine PV 2 rfl hS0 (R_move (v := (.int .i64 x2119)) e2192) ?_
            obtain ⟨_, hg2236, hm2189⟩ := bind_some hm2189
            refine PX_q 3 rfl (by kernel_rfl) (.inl rfl) rfl (by decide) (fun _ _ h => h) hS0 (R_sliceSl0 (j := x2119) Tryz.underlying79 Tryz.sizeOf89 rfl rfl h_a0 (chk_1 hg2236) (chk_2 hg2236)) (fun v2234 hs2235 => ?_)
            refine PV 5 rfl hS0 (R_move (v := v_a0) e2191) ?_
            refine PV 6 rfl hS0 (R_move (v := (.int .i64 x2119)) e2192) ?_
            refine PV 7 rfl hS0 (R_int (k := .i64) (a := x2119) (b := 1) (v := (.int .i64 ((IntKind.i64.wrap (x2119 + 1))))) rfl rfl rfl) ?_
            obtain ⟨_, hg2239, hm2189⟩ := bind_some hm2189
            refine PX_q 8 rfl (by kernel_rfl) (.inl rfl) rfl (by decide) (fun _ _ h => h) hS0 (R_sliceFrom (i := (IntKind.i64.wrap (x2119 + 1))) Tryz.underlying79 Tryz.sizeOf89 rfl rfl h_a0 (chk_1 hg2239) (chk_2 hg2239)) (fun v2237 hs2238 => ?_)
            refine PX_e 0 rfl (by kernel_rfl) (.inl rfl) rfl (by decide) (E_buildSlice (qs := #[]) (cs := #[]) hST parts0 (run_lit [] Tryz.underlying79 Tryz.sizeOf89 Tryz.zeroValue89 (by decide) rfl (by simp) rfl rfl) (fun W2241 b2240 hST => ?_))
            have hS0 : Has (hp w) [] _ := hST.has.sub (Sub.refl _) (fun p hq => (absurd hq List.not_mem_nil))
            refine ⟨hS0, ?_⟩
            obtain ⟨l2242, hb2243, hm2189⟩ := bind_some hm2189
            replace hST := hST.perm (List.Perm.append_left [] (List.perm_middle (l₁ := [])).symm)
            refine PX_e 4 rfl (by kernel_rfl) (.inl rfl) rfl (by decide) (E_append (enc := encStep) (v := (.slice (some ⟨b2240, 0, none⟩) 0 0)) (vs := v2234) (R := [(b2240, Obj.cells (#[] : Array Value) 89 (0, 0))]) [] hST lenStep (by decide) oneStep Tryz.underlying79 info89.1 info89.2.1 rfl info89.2.2.1 info89.2.2.2 rfl rfl (Row.lit (l := []) (enc := encStep) rfl (by decide) rfl rfl) (hs2235.1.mono (Pl.mono _) hST.sub_hp) hb2243 (fun W2244 v2247 R2245 hST hR2246 => ?_))
            replace hST : ST true NoF w _ _ (R2245 ++ L2188) := hST
            have hS0 : Has (hp w) [] _ := hST.has.sub (Sub.refl _) (fun p hq => (absurd hq List.not_mem_nil))
            refine ⟨hS0, ?_⟩
            obtain ⟨l2248, hb2249, hm2189⟩ := bind_some hm2189
            refine PX_e 9 rfl (by kernel_rfl) (.inl rfl) rfl (by decide) (E_append (enc := encStep) (v := v2247) (vs := v2237) (R := R2245) [] hST lenStep (by decide) oneStep Tryz.underlying79 info89.1 info89.2.1 rfl info89.2.2.1 info89.2.2.2 rfl rfl hR2246 (hs2238.1.mono (Pl.mono _) hST.sub_hp) hb2249 (fun W2250 v2253 R2251 hST hR2252 => ?_))
            replace hST : ST true NoF w _ _ (R2251 ++ L2188) := hST
            have hS0 : Has (hp w) [] _ := hST.has.sub (Sub.refl _) (fun p hq => (absurd hq List.not_mem_nil))
            refine ⟨hS0, ?_⟩
            refine PV 10 rfl hS0 (R_assign (v := v2253) rfl) ?_
            refine PX_done (by kernel_rfl) ?_
            refine sq_n ?_
            refine CW_seq ?_
            refine CW_region ?_
            refine LV (R_move (v := v2253) rfl) ?_
            obtain ⟨r2254, hr2255, hm2189⟩ := bind_some hm2189
            refine LE (E_gives (args := [v2253]) hST rfl Tryz.call113 (by exact args1 rfl) ((w_ref09_stands v2253 l2248 _ _ (hR2252.sl lenStep (fun b o hq => hST.at_ (List.mem_append_left _ hq))) hr2255)) (fun W2256 hST => ?_))
            refine LW_nil ?_
            refine sq_n ?_
            replace hST : ST true NoF w _ _ L2188 := hST.sublist ((List.Sublist.refl _).trans (List.sublist_append_right _ _))
            refine CW_if (b := r2254) rfl (fun hb2257 => ?_) (fun hb2257 => ?_)
            · replace hm2189 := if_t hb2257 hm2189
              refine CW_seq ?_
              refine CW_region ?_
              refine LV (R_assign (v := (.bool false)) rfl) ?_
              refine LW_nil ?_
              refine sq_n ?_
              refine CW_ret ?_
              refine bq_r (sq_r (sq_r (bq_r (sq_r ?_))))
              replace hm2189 := Option.some.inj hm2189; subst hm2189
              replace hm2053 : some false = some r := hm2053
              replace hm2053 := Option.some.inj hm2053; subst hm2053
              refine retQ_1 (v := (.bool false)) rfl rfl ?_
              exact ⟨rfl, hST.ex⟩
            · replace hm2189 := if_f hb2257 hm2189
              refine CW_skip ?_
              refine bq_n ?_
              refine sq_n ?_
              refine CW_region ?_
              refine LV (R_move (v := (.int .i64 x2119)) e2192) ?_
              refine LV (R_int (k := .i64) (a := x2119) (b := 1) (v := (.int .i64 ((IntKind.i64.wrap (x2119 + 1))))) rfl rfl rfl) ?_
              refine LV (R_assign (v := (.int .i64 ((IntKind.i64.wrap (x2119 + 1))))) rfl) ?_
              refine LW_nil ?_
              refine sq_n ?_
              exact ⟨n2190, Nat.lt_succ_self _, ((IntKind.i64.wrap (x2119 + 1))), _, (hST.sublist (List.Sublist.refl _)), e2191, rfl, hm2189⟩
          · replace hm2189 := if_f hb2193 hm2189
            refine CW_exit ?_
            refine sq_e (sq_e (bq_e ?_))
            refine sq_n ?_
            replace hm2189 := Option.some.inj hm2189; subst hm2189
            exact ⟨_, (hST.sublist (List.Sublist.refl _)), hm2053⟩
      · rintro E W ⟨L2049, hST, hm2050⟩
        refine CW_seq ?_
        refine CW_region ?_
        refine LV (R_assign (v := (.bool true)) rfl) ?_
        refine LW_nil ?_
        refine sq_n ?_
        refine CW_ret ?_
        replace hm2050 := Option.some.inj hm2050; subst hm2050
        refine retQ_1 (v := (.bool true)) rfl rfl ?_
        exact ⟨rfl, hST.ex⟩
theorem w_law10_ChainFinds (v_a0 : Value) (a0 : List Cred) (a1 : Fact) (r : Bool) (w : World) (h_a0 : Sl (Pl encCred) 9 (hp w) v_a0 a0) (hm : m_law10_ChainFinds a0 a1 = some r) :
    Gives true Tryz.prog 9 [v_a0, (.agg (encFact a1).toArray)] w (.bool r) := by
  have hST := ST.start (dd := true) w
  unfold m_law10_ChainFinds at hm
  refine calls_of_CW (n := 133) Tryz.func9 rfl rfl (Nat.le_of_ble_eq_true rfl) ?_
  refine CW_seq ?_
  refine CW_region ?_
  refine LE (E_box (v := (.agg (encFact a1).toArray)) hST rfl (fun W2 b1 hST => ?_))
  refine LV (R_assign (v := (.bool false)) rfl) ?_
  refine LW_nil ?_
  refine sq_n ?_
  refine CW_seq ?_
  refine CW_seq ?_
  refine CW_region ?_
  obtain ⟨r3, hr4, hm⟩ := bind_some hm
  refine LE (E_gives (args := []) hST rfl Tryz.call52 (by exact args0 ) ((w_law10_first  _ _  hr4)) (fun W5 hST => ?_))
  refine LV (R_not (b := r3) rfl) ?_
  refine LW_nil ?_
  refine sq_n ?_
  refine CW_if (b := (!r3)) rfl (fun hb6 => ?_) (fun hb6 => ?_)
  · replace hm := if_t hb6 hm
    refine CW_seq ?_
    refine CW_region ?_
    refine LV (R_assign (v := (.bool false)) rfl) ?_
    refine LW_nil ?_
    refine sq_n ?_
    replace hST : ST true NoF w _ _ [] := hST.sublist (List.Sublist.cons _ (List.Sublist.refl _))
    refine CW_ret ?_
    refine sq_r ?_
    replace hm := Option.some.inj hm; subst hm
    refine retQ_1 (v := (.bool false)) rfl rfl ?_
    exact ⟨rfl, hST.ex⟩
  · replace hm := if_f hb6 hm
    refine CW_skip ?_
    refine sq_n ?_
    refine CW_seq ?_
    refine CW_seq ?_
    refine CW_region ?_
    refine LV (R_move (v := v_a0) rfl) ?_
    obtain ⟨r7, hr8, hm⟩ := bind_some hm
    refine LE (E_gives (args := [v_a0]) hST rfl Tryz.call16 (by exact args1 rfl) ((w_law05_Great v_a0 a0 _ _ (h_a0.mono (Pl.mono _) hST.sub_hp) hr8)) (fun W9 hST => ?_))
    refine LV (R_int (k := .i64) (a := r7) (b := 1000) (v := (.bool ((decide (r7 > 1000))))) rfl rfl rfl) ?_
    refine LV (R_move (v := (.bool ((decide (r7 > 1000))))) rfl) ?_
    obtain ⟨s509, hm510, hm511⟩ := bind_some hm
    refine LW_join (J := fun E W => ∃ (x11 : Bool) (L12 : List (Nat × Obj)), ST true NoF w W (hp w) ((b1, Obj.cells ((encFact a1).toArray : Array Value) 78 (0, 0)) :: L12) ∧ E 0 = v_a0 ∧ E 3 = (.pointer (some ⟨b1, 0, none⟩)) ∧ E 33 = (.bool x11) ∧ (if x11 then some true else (((m_chain_Find a0 a1)).bind fun r18 => (((m_ref08_Of a0)).bind fun r52 => (((m_ref08_In r52 a1.Role a1.Who)).bind fun r60 => (if (r18.2 != r60) then some false else m_law10_ChainFinds_L1 a0 a1 r18 a0 0 ([])))))) = some r) 15 ?_ (fun key512 => ?_)
    · rintro E W ⟨x11, L12, hST, e14, e15, e16, hm13⟩
      refine LW_nil ?_
      refine sq_n ?_
      refine CW_if (b := x11) e16 (fun hb17 => ?_) (fun hb17 => ?_)
      · replace hm13 := if_t hb17 hm13
        refine CW_seq ?_
        refine CW_region ?_
        refine LV (R_assign (v := (.bool true)) rfl) ?_
        refine LW_nil ?_
        refine sq_n ?_
        replace hST : ST true NoF w _ _ L12 := hST.sublist (List.Sublist.cons _ (List.Sublist.refl _))
        refine CW_ret ?_
        refine sq_r ?_
        replace hm13 := Option.some.inj hm13; subst hm13
        refine retQ_1 (v := (.bool true)) rfl rfl ?_
        exact ⟨rfl, hST.ex⟩
      · replace hm13 := if_f hb17 hm13
        refine CW_skip ?_
        refine sq_n ?_
        refine CW_seq ?_
        refine CW_region ?_
        refine LV (R_move (v := v_a0) e14) ?_
        refine LV (R_load (v := (.agg (encFact a1).toArray)) e15 (load_boxA hST.has (.head _) (encFact a1) rfl Tryz.isAgg78 Tryz.sizeOf78)) ?_
        obtain ⟨r18, hr19, hm13⟩ := bind_some hm13
        have hsz := hST.size
        refine LE (E_callM (args := [v_a0, (.agg (encFact a1).toArray)]) (caps := #[]) [] (((b1, Obj.cells ((encFact a1).toArray : Array Value) 78 (0, 0)) :: L12)) hST (List.Perm.refl _) rfl Tryz.call53 (by exact args2 rfl rfl) (fun _ _ _ _ => (w_chain_Find v_a0 a0 a1 _ _ (h_a0.mono (Pl.mono _) hST.sub_hp) hr19)) (fun W20 v23 μ21 L25 hST hle22 hlift hK24 => ?_))
        obtain ⟨y26, S27, hv29, rfl, hy28⟩ := hK24
        replace hv29 := hv29.symm; subst hv29
        simp only [List.append_assoc, List.cons_append, List.nil_append] at hST
        replace hST : ST true NoF w _ _ ((b1, Obj.cells ((encFact a1).toArray : Array Value) 78 (0, 0)) :: (S27 ++ L12)) := hST.perm (permD [S27, [(b1, Obj.cells ((encFact a1).toArray : Array Value) 78 (0, 0))]] [0, 1] [1, 0] L12 (by decide) rfl rfl)
        refine LV (R_move (v := (.tuple #[y26, (.bool r18.2)])) rfl) ?_
        refine LV (R_extract (v := y26) rfl rfl) ?_
        refine LV (R_extract (v := (.bool r18.2)) rfl rfl) ?_
        refine LV (R_assign (v := y26) rfl) ?_
        refine LV (R_assign (v := (.bool r18.2)) rfl) ?_
        refine LW_nil ?_
        refine sq_n ?_
        refine CW_seq ?_
        refine CW_seq ?_
        refine PX_start (fun l W => Has μ21 ((b1, Obj.cells ((encFact a1).toArray : Array Value) 78 (0, 0)) :: []) W) Tryz_mixed ?_
        replace hST := hST.drew
        have hS0 : Has μ21 ((b1, Obj.cells ((encFact a1).toArray : Array Value) 78 (0, 0)) :: []) _ := hST.has.sub (Sub.refl _) (fun p hq => ((List.mem_cons.1 hq).elim (fun hq => by rw [hq]; exact (.head _)) (fun hq => (absurd hq List.not_mem_nil))))
        refine PV 0 rfl hS0 (R_move (v := (.bool r18.2)) rfl) ?_
        refine PV 1 rfl hS0 (R_move (v := v_a0) e14) ?_
        refine PV 3 rfl hS0 (R_field fa78_0 e15) ?_
        refine PX_v 4 rfl (by kernel_rfl) (.inl rfl) rfl (by decide) (fun _ _ h => h) hS0 (fun l W hpd hs => have hS := hs; R_load (v := (.agg (encRole a1.Role).toArray)) rfl (load_boxA hS (.head _) (encRole a1.Role) rfl Tryz.isAgg47 Tryz.sizeOf47)) ?_
        refine PV 5 rfl hS0 (R_field fa78_1 e15) ?_
        refine PX_v 6 rfl (by kernel_rfl) (.inl rfl) rfl (by decide) (fun _ _ h => h) hS0 (fun l W hpd hs => have hS := hs; R_load (v := (.string a1.Who)) rfl (load_box1 hS (.head _) rfl Tryz.isAgg9)) ?_
        obtain ⟨r52, hr53, hm13⟩ := bind_some hm13
        refine PX_e 2 rfl (by kernel_rfl) (.inl rfl) rfl (by decide) (E_givesRow (args := [v_a0]) [_] _ hST rfl Tryz.call32 (by exact args1 rfl) ((w_ref08_Of v_a0 a0 _ _ (h_a0.mono (Pl.mono _) (hle22.trans hST.sub_hp)) hr53)) (fun W54 v57 μ55 R58 hST hle56 hR59 => ?_))
        replace hST : ST true NoF w _ _ ((b1, Obj.cells ((encFact a1).toArray : Array Value) 78 (0, 0)) :: (R58 ++ (S27 ++ L12))) := hST
        have hS0 : Has μ21 ((b1, Obj.cells ((encFact a1).toArray : Array Value) 78 (0, 0)) :: []) _ := hST.has.sub hle56 (fun p hq => ((List.mem_cons.1 hq).elim (fun hq => by rw [hq]; exact (.head _)) (fun hq => (absurd hq List.not_mem_nil))))
        refine ⟨hS0, ?_⟩
        obtain ⟨r60, hr61, hm13⟩ := bind_some hm13
        refine PX_e 7 rfl (by kernel_rfl) (.inl rfl) rfl (by decide) (E_gives (args := [v57, (.agg (encRole a1.Role).toArray), (.string a1.Who)]) hST rfl Tryz.call36 (by exact args3 rfl rfl rfl) ((w_ref08_In v57 r52 a1.Role a1.Who _ _ (hR59.sl lenFact (fun b o hq => hST.at_ (.tail _ (List.mem_append_left _ hq)))) hr61)) (fun W62 hST => ?_))
        have hS0 : Has μ21 ((b1, Obj.cells ((encFact a1).toArray : Array Value) 78 (0, 0)) :: []) _ := hST.has.sub hle56 (fun p hq => ((List.mem_cons.1 hq).elim (fun hq => by rw [hq]; exact (.head _)) (fun hq => (absurd hq List.not_mem_nil))))
        refine ⟨hS0, ?_⟩
        refine PV 8 rfl hS0 (R_boolsN Tryz.underlying4 rfl rfl rfl) ?_
        refine PX_done (by kernel_rfl) ?_
        refine sq_n ?_
        replace hST : ST true NoF w _ _ ((b1, Obj.cells ((encFact a1).toArray : Array Value) 78 (0, 0)) :: (S27 ++ L12)) := hST.sublist (List.Sublist.cons_cons _ ((List.Sublist.refl _).trans (List.sublist_append_right _ _)))
        refine CW_if (b := (r18.2 != r60)) rfl (fun hb63 => ?_) (fun hb63 => ?_)
        · replace hm13 := if_t hb63 hm13
          refine CW_seq ?_
          refine CW_region ?_
          refine LV (R_assign (v := (.bool false)) rfl) ?_
          refine LW_nil ?_
          refine sq_n ?_
          replace hST : ST true NoF w _ _ L12 := hST.sublist (List.Sublist.cons _ ((List.Sublist.refl _).trans (List.sublist_append_right _ _)))
          refine CW_ret ?_
          refine sq_r ?_
          replace hm13 := Option.some.inj hm13; subst hm13
          refine retQ_1 (v := (.bool false)) rfl rfl ?_
          exact ⟨rfl, hST.ex⟩
        · replace hm13 := if_f hb63 hm13
          refine CW_skip ?_
          refine sq_n ?_
          refine CW_seq ?_
          refine CW_region ?_
          refine LV (R_assign (v := (.slice none 0 0)) rfl) ?_
          refine LW_nil ?_
          refine sq_n ?_
          refine CW_seq ?_
          refine CW_seq ?_
          refine CW_region ?_
          refine LV (R_move (v := v_a0) e14) ?_
          refine LV (R_len Tryz.underlying22 rfl h_a0) ?_
          refine LV (R_move (v := (.int .i64 0)) rfl) ?_
          refine LW_nil ?_
          refine sq_n ?_
          refine CW_range (fun i E W => ∃ (v150 : Value) (l151 : List Cred) (R153 : List (Nat × Obj)) (L176 : List (Nat × Obj)), (E 51 = .int .i64 (i : Nat) ∧ E 50 = .int .i64 (a0.length : Nat)) ∧ ST true NoF w W μ55 ((b1, Obj.cells ((encFact a1).toArray : Array Value) 78 (0, 0)) :: (R153 ++ (S27 ++ L176))) ∧ E 0 = v_a0 ∧ E 3 = (.pointer (some ⟨b1, 0, none⟩)) ∧ E 5 = y26 ∧ E 6 = (.bool r18.2) ∧ E 7 = v150 ∧ Row 83 encCred 9 v150 l151 R153 ∧ m_law10_ChainFinds_L1 a0 a1 r18 (a0.drop i) i l151 = some r) a0.length h_a0.len ⟨(.slice none 0 0), ([]), [], _, ⟨rfl, rfl⟩, (hST.sublist (List.Sublist.refl _)), e14, e15, rfl, rfl, rfl, (Row.nil _ _ _), hm13⟩ (by decide) (by decide) (by decide) (fun _ _ _ h => by obtain ⟨_, _, _, _, eIN, _⟩ := h; exact eIN) ?_ ?_
          · rintro i130 E W hi136 ⟨v150, l151, R153, L176, ⟨eI, eN⟩, hST, e178, e179, e180, e181, e182, hs152, hm177⟩
            obtain ⟨x131, xs132, hx134, hx133, hx135⟩ := drop_cons hi136
            rw [hx134] at hm177
            rw [m_law10_ChainFinds_L1] at hm177
            refine CW_block ?_
            refine CW_seq ?_
            refine CW_region ?_
            refine LV (R_move (v := (.int .i64 ((i130 : Int)))) eI) ?_
            refine LV (R_assign (v := (.int .i64 ((i130 : Int)))) rfl) ?_
            refine LW_nil ?_
            refine sq_n ?_
            refine CW_region ?_
            refine LV (R_move (v := v150) e182) ?_
            refine LV (R_move (v := v_a0) e178) ?_
            refine LV (R_move (v := v_a0) e178) ?_
            refine LV (R_len Tryz.underlying22 rfl h_a0) ?_
            refine LV (R_int (k := .i64) (a := ((a0.length : Int))) (b := 1) (v := (.int .i64 ((IntKind.i64.wrap (((a0.length : Int)) - 1))))) rfl rfl rfl) ?_
            refine LV (R_move (v := (.int .i64 ((i130 : Int)))) rfl) ?_
            refine LV (R_int (k := .i64) (a := ((IntKind.i64.wrap (((a0.length : Int)) - 1)))) (b := ((i130 : Int))) (v := (.int .i64 ((IntKind.i64.wrap (((IntKind.i64.wrap (((a0.length : Int)) - 1))) - ((i130 : Int))))))) rfl rfl rfl) ?_
            obtain ⟨x186, hx187, hm177⟩ := bind_some hm177
            refine LQ (R_indexP (enc := encCred) (i := (IntKind.i64.wrap (((IntKind.i64.wrap (((a0.length : Int)) - 1))) - ((i130 : Int))))) (x0 := x186) Tryz.underlying22 Tryz.sizeOf83 rfl rfl (h_a0.mono (Pl.mono _) (hle22.trans hle56)) (idx_nonneg hx187) (idx_get hx187)) (fun p183 hp184 => ?_)
            refine LV (R_load rfl (load_atA hST.has hp184 Tryz.isAgg83 Tryz.sizeOf83)) ?_
            refine LE (E_buildSlice (qs := #[(0, (.agg (encCred x186).toArray))]) (cs := (encCred x186).toArray) hST (parts1 rfl) (run_lit [(.agg (encCred x186).toArray)] Tryz.underlying22 Tryz.sizeOf83 Tryz.zeroValue83 (by decide) rfl (by intro v hv; simp only [List.mem_cons, List.not_mem_nil, or_false] at hv; rcases hv with rfl <;> rfl) rfl rfl) (fun W189 b188 hST => ?_))
            obtain ⟨l190, hb191, hm177⟩ := bind_some hm177
            refine LE (E_append (enc := encCred) (v := v150) (vs := (.slice (some ⟨b188, 0, none⟩) 1 1)) (R := R153) [_, _] hST lenCred (by decide) oneCred Tryz.underlying22 info83.1 info83.2.1 rfl info83.2.2.1 info83.2.2.2 rfl rfl hs152 (Sl.lit (enc := encCred) (l := [x186]) lenCred rfl (Nat.le_of_ble_eq_true rfl) rfl (hST.at_ (.head _))) hb191 (fun W192 v195 R193 hST hR194 => ?_))
            refine LV (R_assign (v := v195) rfl) ?_
            refine LW_nil ?_
            refine bq_n ?_
            refine sq_n ?_
            replace hST : ST true NoF w _ _ ((b188, Obj.cells ((encCred x186).toArray : Array Value) 83 (0, 0)) :: ((b1, Obj.cells ((encFact a1).toArray : Array Value) 78 (0, 0)) :: (R193 ++ (S27 ++ L176)))) := hST
            replace hST : ST true NoF w _ _ ((b1, Obj.cells ((encFact a1).toArray : Array Value) 78 (0, 0)) :: (R193 ++ (S27 ++ L176))) := hST.sublist (List.Sublist.cons _ (List.Sublist.refl _))
            exact ⟨eI, v195, l190, R193, _, ⟨rfl, eN⟩, (hST.sublist (List.Sublist.refl _)), e178, e179, e180, e181, rfl, hR194, (by rw [hx135]; exact hm177)⟩
          · rintro E W ⟨v150, l151, R153, L176, ⟨eI, eN⟩, hST, e178, e179, e180, e181, e182, hs152, hm177⟩
            rw [List.drop_length] at hm177
            rw [m_law10_ChainFinds_L1] at hm177
            refine sq_n ?_
            refine CW_seq ?_
            refine PX_start (fun l W => Has μ55 ((b1, Obj.cells ((encFact a1).toArray : Array Value) 78 (0, 0)) :: []) W) Tryz_mixed ?_
            replace hST := hST.drew
            have hS0 : Has μ55 ((b1, Obj.cells ((encFact a1).toArray : Array Value) 78 (0, 0)) :: []) _ := hST.has.sub (Sub.refl _) (fun p hq => ((List.mem_cons.1 hq).elim (fun hq => by rw [hq]; exact (.head _)) (fun hq => (absurd hq List.not_mem_nil))))
            refine PV 0 rfl hS0 (R_move (v := v150) e182) ?_
            refine PV 1 rfl hS0 (R_move (v := v_a0) e178) ?_
            refine PX_v 3 rfl (by kernel_rfl) (.inl rfl) rfl (by decide) (fun _ _ h => h) hS0 (fun l W hpd hs => have hS := hs; R_load (v := (.agg (encFact a1).toArray)) e179 (load_boxA hS (.head _) (encFact a1) rfl Tryz.isAgg78 Tryz.sizeOf78)) ?_
            obtain ⟨l232, hb233, hm177⟩ := bind_some hm177
            refine PX_e 2 rfl (by kernel_rfl) (.inl rfl) rfl (by decide) (E_append (enc := encCred) (v := v150) (vs := v_a0) (R := R153) [_] hST lenCred (by decide) oneCred Tryz.underlying22 info83.1 info83.2.1 rfl info83.2.2.1 info83.2.2.2 rfl rfl hs152 (h_a0.mono (Pl.mono _) ((hle22.trans hle56).trans hST.sub_hp)) hb233 (fun W234 v237 R235 hST hR236 => ?_))
            replace hST : ST true NoF w _ _ ((b1, Obj.cells ((encFact a1).toArray : Array Value) 78 (0, 0)) :: (R235 ++ (S27 ++ L176))) := hST
            have hS0 : Has μ55 ((b1, Obj.cells ((encFact a1).toArray : Array Value) 78 (0, 0)) :: []) _ := hST.has.sub (Sub.refl _) (fun p hq => ((List.mem_cons.1 hq).elim (fun hq => by rw [hq]; exact (.head _)) (fun hq => (absurd hq List.not_mem_nil))))
            refine ⟨hS0, ?_⟩
            obtain ⟨r238, hr239, hm177⟩ := bind_some hm177
            have hsz := hST.size
            refine PX_e 4 rfl (by kernel_rfl) (.inl rfl) rfl (by decide) (E_callM (args := [v237, (.agg (encFact a1).toArray)]) (caps := #[]) [] (((b1, Obj.cells ((encFact a1).toArray : Array Value) 78 (0, 0)) :: (R235 ++ (S27 ++ L176)))) hST (List.Perm.refl _) rfl Tryz.call53 (by exact args2 rfl rfl) (fun _ _ _ _ => (w_chain_Find v237 l232 a1 _ _ (hR236.sl lenCred (fun b o hq => hST.at_ (.tail _ (List.mem_append_left _ hq)))) hr239)) (fun W240 v243 μ241 L245 hST hle242 hlift hK244 => ?_))
            obtain ⟨y246, S247, hv249, rfl, hy248⟩ := hK244
            replace hv249 := hv249.symm; subst hv249
            simp only [List.append_assoc, List.cons_append, List.nil_append] at hST
            replace hST : ST true NoF w _ _ ((b1, Obj.cells ((encFact a1).toArray : Array Value) 78 (0, 0)) :: (S247 ++ (R235 ++ (S27 ++ L176)))) := hST.perm (permD [S247, [(b1, Obj.cells ((encFact a1).toArray : Array Value) 78 (0, 0))]] [0, 1] [1, 0] ((R235 ++ (S27 ++ L176))) (by decide) rfl rfl)
            have hS0 : Has μ55 ((b1, Obj.cells ((encFact a1).toArray : Array Value) 78 (0, 0)) :: []) _ := hST.has.sub hle242 (fun p hq => ((List.mem_cons.1 hq).elim (fun hq => by rw [hq]; exact (.head _)) (fun hq => (absurd hq List.not_mem_nil))))
            refine ⟨hS0, ?_⟩
            refine PV 5 rfl hS0 (R_move (v := (.tuple #[y246, (.bool r238.2)])) rfl) ?_
            refine PV 6 rfl hS0 (R_extract (v := y246) rfl rfl) ?_
            refine PV 7 rfl hS0 (R_extract (v := (.bool r238.2)) rfl rfl) ?_
            refine PV 8 rfl hS0 (R_assign (v := y246) rfl) ?_
            refine PV 9 rfl hS0 (R_assign (v := (.bool r238.2)) rfl) ?_
            refine PX_done (by kernel_rfl) ?_
            refine sq_n ?_
            replace hST : ST true NoF w _ _ ((b1, Obj.cells ((encFact a1).toArray : Array Value) 78 (0, 0)) :: (S247 ++ (S27 ++ L176))) := hST.sublist (List.Sublist.cons_cons _ (List.Sublist.append (List.Sublist.refl _) ((List.Sublist.refl _).trans (List.sublist_append_right _ _))))
            refine CW_seq ?_
            refine CW_seq ?_
            refine CW_region ?_
            refine LV (R_move (v := (.bool r18.2)) e181) ?_
            refine LV (R_move (v := (.bool r238.2)) rfl) ?_
            refine LV (R_boolsN Tryz.underlying4 rfl rfl rfl) ?_
            refine LV (R_move (v := (.bool ((r18.2 != r238.2)))) rfl) ?_
            obtain ⟨s502, hm503, hm504⟩ := bind_some hm177
            refine LW_join (J := fun E W => ∃ (x254 : Bool) (L255 : List (Nat × Obj)), ST true NoF w W μ241 ((b1, Obj.cells ((encFact a1).toArray : Array Value) 78 (0, 0)) :: (S247 ++ (S27 ++ L255))) ∧ E 0 = v_a0 ∧ E 3 = (.pointer (some ⟨b1, 0, none⟩)) ∧ E 5 = y26 ∧ E 6 = (.bool r18.2) ∧ E 9 = y246 ∧ E 10 = (.bool r238.2) ∧ E 82 = (.bool x254) ∧ (((if x254 then some true else some ((!r18.2))) : Option Bool).bind fun x265 => (if x265 then (((if (!r18.2) then some ((!r238.2)) else some false) : Option Bool).bind fun x277 => (((if x277 then some ((((r18.1.length : Int)) == 0)) else some false) : Option Bool).bind fun x284 => (((if x284 then some ((((r238.1.length : Int)) == 0)) else some false) : Option Bool).bind fun x290 => some x290))) else (((m_ref05_Set a0)).bind fun r328 => (((m_ref09_Check r18.1 r328 a1)).bind fun r336 => (((if (r336.2 == 0) then some ((r336.1 == ((r18.1.length : Int)))) else some false) : Option Bool).bind fun x446 => (((if x446 then (((m_ref09_Tight r18.1)).bind fun r491 => some r491) else some false) : Option Bool).bind fun x457 => (((if x457 then (((idx r18.1 ((IntKind.i64.wrap (r336.1 - 1))))).bind fun x483 => some ((beqFact x483.Fact a1))) else some false) : Option Bool).bind fun x472 => some x472))))))) = some r) 5 ?_ (fun key505 => ?_)
            · rintro E W ⟨x254, L255, hST, e257, e258, e259, e260, e261, e262, e263, hm256⟩
              refine LV (R_move (v := (.bool x254)) e263) ?_
              obtain ⟨s498, hm499, hm500⟩ := bind_some hm256
              refine LW_join (J := fun E W => ∃ (x265 : Bool) (L266 : List (Nat × Obj)), ST true NoF w W μ241 ((b1, Obj.cells ((encFact a1).toArray : Array Value) 78 (0, 0)) :: (S247 ++ (S27 ++ L266))) ∧ E 0 = v_a0 ∧ E 3 = (.pointer (some ⟨b1, 0, none⟩)) ∧ E 5 = y26 ∧ E 6 = (.bool r18.2) ∧ E 9 = y246 ∧ E 10 = (.bool r238.2) ∧ E 86 = (.bool x265) ∧ (if x265 then (((if (!r18.2) then some ((!r238.2)) else some false) : Option Bool).bind fun x277 => (((if x277 then some ((((r18.1.length : Int)) == 0)) else some false) : Option Bool).bind fun x284 => (((if x284 then some ((((r238.1.length : Int)) == 0)) else some false) : Option Bool).bind fun x290 => some x290))) else (((m_ref05_Set a0)).bind fun r328 => (((m_ref09_Check r18.1 r328 a1)).bind fun r336 => (((if (r336.2 == 0) then some ((r336.1 == ((r18.1.length : Int)))) else some false) : Option Bool).bind fun x446 => (((if x446 then (((m_ref09_Tight r18.1)).bind fun r491 => some r491) else some false) : Option Bool).bind fun x457 => (((if x457 then (((idx r18.1 ((IntKind.i64.wrap (r336.1 - 1))))).bind fun x483 => some ((beqFact x483.Fact a1))) else some false) : Option Bool).bind fun x472 => some x472)))))) = some r) 3 ?_ (fun key501 => ?_)
              · rintro E W ⟨x265, L266, hST, e268, e269, e270, e271, e272, e273, e274, hm267⟩
                refine LW_nil ?_
                refine sq_n ?_
                refine CW_if (b := x265) e274 (fun hb275 => ?_) (fun hb275 => ?_)
                · replace hm267 := if_t hb275 hm267
                  refine CW_seq ?_
                  refine CW_region ?_
                  refine LV (R_move (v := (.bool r18.2)) e271) ?_
                  refine LV (R_not (b := r18.2) rfl) ?_
                  refine LV (R_move (v := (.bool ((!r18.2)))) rfl) ?_
                  obtain ⟨s302, hm303, hm304⟩ := bind_some hm267
                  refine LW_join (J := fun E W => ∃ (x277 : Bool) (L278 : List (Nat × Obj)), ST true NoF w W μ241 (S247 ++ (S27 ++ L278)) ∧ E 5 = y26 ∧ E 9 = y246 ∧ E 92 = (.bool x277) ∧ (((if x277 then some ((((r18.1.length : Int)) == 0)) else some false) : Option Bool).bind fun x284 => (((if x284 then some ((((r238.1.length : Int)) == 0)) else some false) : Option Bool).bind fun x290 => some x290)) = some r) 3 ?_ (fun key305 => ?_)
                  · rintro E W ⟨x277, L278, hST, e280, e281, e282, hm279⟩
                    refine LV (R_move (v := (.bool x277)) e282) ?_
                    obtain ⟨s298, hm299, hm300⟩ := bind_some hm279
                    refine LW_join (J := fun E W => ∃ (x284 : Bool) (L285 : List (Nat × Obj)), ST true NoF w W μ241 (S247 ++ L285) ∧ E 9 = y246 ∧ E 97 = (.bool x284) ∧ (((if x284 then some ((((r238.1.length : Int)) == 0)) else some false) : Option Bool).bind fun x290 => some x290) = some r) 4 ?_ (fun key301 => ?_)
                    · rintro E W ⟨x284, L285, hST, e287, e288, hm286⟩
                      refine LV (R_move (v := (.bool x284)) e288) ?_
                      obtain ⟨s294, hm295, hm296⟩ := bind_some hm286
                      refine LW_join (J := fun E W => ∃ (x290 : Bool) (L291 : List (Nat × Obj)), ST true NoF w W μ241 L291 ∧ E 102 = (.bool x290) ∧ some x290 = some r) 4 ?_ (fun key297 => ?_)
                      · rintro E W ⟨x290, L291, hST, e293, hm292⟩
                        refine LV (R_assign (v := (.bool x290)) e293) ?_
                        refine LW_nil ?_
                        refine sq_n ?_
                        refine CW_ret ?_
                        refine sq_r ?_
                        replace hm292 := Option.some.inj hm292; subst hm292
                        refine retQ_1 (v := (.bool x290)) rfl rfl ?_
                        exact ⟨rfl, hST.ex⟩
                      · rcases bool_cases x284 with hb289 | hb289
                        · replace hm295 := if_t hb289 hm295
                          refine LW_v (.inr ⟨11, true, 98, rfl, rfl, by decide, (congrArg Value.bool hb289)⟩) rfl (by decide) (R_move (v := y246) e287) ?_
                          refine LW_v (.inr ⟨11, true, 98, rfl, rfl, by decide, (congrArg Value.bool hb289)⟩) rfl (by decide) (R_lenRow Tryz.underlying79 rfl hy248) ?_
                          refine LW_v (.inr ⟨11, true, 98, rfl, rfl, by decide, (congrArg Value.bool hb289)⟩) rfl (by decide) (R_int (k := .i64) (a := ((r238.1.length : Int))) (b := 0) (v := (.bool ((((r238.1.length : Int)) == 0)))) rfl rfl rfl) ?_
                          refine LV (R_pickT (v := (.bool ((((r238.1.length : Int)) == 0)))) (congrArg Value.bool hb289) rfl) ?_
                          replace hm295 := Option.some.inj hm295; subst hm295
                          exact key297 _ _ ⟨((((r238.1.length : Int)) == 0)), _, (hST.sublist ((List.Sublist.refl _).trans (List.sublist_append_right _ _))), rfl, hm296⟩
                        · replace hm295 := if_f hb289 hm295
                          refine LW_no rfl (by decide) rfl rfl (by decide) (congrArg Value.bool hb289) ?_
                          refine LW_no rfl (by decide) rfl rfl (by decide) (congrArg Value.bool hb289) ?_
                          refine LW_no rfl (by decide) rfl rfl (by decide) (congrArg Value.bool hb289) ?_
                          refine LV (R_pickF (v := (.bool false)) (congrArg Value.bool hb289) rfl) ?_
                          replace hm295 := Option.some.inj hm295; subst hm295
                          exact key297 _ _ ⟨false, _, (hST.sublist ((List.Sublist.refl _).trans (List.sublist_append_right _ _))), rfl, hm296⟩
                    · rcases bool_cases x277 with hb283 | hb283
                      · replace hm299 := if_t hb283 hm299
                        refine LW_v (.inr ⟨6, true, 93, rfl, rfl, by decide, (congrArg Value.bool hb283)⟩) rfl (by decide) (R_move (v := y26) e280) ?_
                        refine LW_v (.inr ⟨6, true, 93, rfl, rfl, by decide, (congrArg Value.bool hb283)⟩) rfl (by decide) (R_lenRow Tryz.underlying79 rfl hy28) ?_
                        refine LW_v (.inr ⟨6, true, 93, rfl, rfl, by decide, (congrArg Value.bool hb283)⟩) rfl (by decide) (R_int (k := .i64) (a := ((r18.1.length : Int))) (b := 0) (v := (.bool ((((r18.1.length : Int)) == 0)))) rfl rfl rfl) ?_
                        refine LV (R_pickT (v := (.bool ((((r18.1.length : Int)) == 0)))) (congrArg Value.bool hb283) rfl) ?_
                        replace hm299 := Option.some.inj hm299; subst hm299
                        exact key301 _ _ ⟨((((r18.1.length : Int)) == 0)), _, (hST.sublist (List.Sublist.append (List.Sublist.refl _) ((List.Sublist.refl _).trans (List.sublist_append_right _ _)))), e281, rfl, hm300⟩
                      · replace hm299 := if_f hb283 hm299
                        refine LW_no rfl (by decide) rfl rfl (by decide) (congrArg Value.bool hb283) ?_
                        refine LW_no rfl (by decide) rfl rfl (by decide) (congrArg Value.bool hb283) ?_
                        refine LW_no rfl (by decide) rfl rfl (by decide) (congrArg Value.bool hb283) ?_
                        refine LV (R_pickF (v := (.bool false)) (congrArg Value.bool hb283) rfl) ?_
                        replace hm299 := Option.some.inj hm299; subst hm299
                        exact key301 _ _ ⟨false, _, (hST.sublist (List.Sublist.append (List.Sublist.refl _) ((List.Sublist.refl _).trans (List.sublist_append_right _ _)))), e281, rfl, hm300⟩
                  · rcases bool_cases ((!r18.2)) with hb276 | hb276
                    · replace hm303 := if_t hb276 hm303
                      refine LW_v (.inr ⟨2, true, 89, rfl, rfl, by decide, (congrArg Value.bool hb276)⟩) rfl (by decide) (R_move (v := (.bool r238.2)) e273) ?_
                      refine LW_v (.inr ⟨2, true, 89, rfl, rfl, by decide, (congrArg Value.bool hb276)⟩) rfl (by decide) (R_not (b := r238.2) rfl) ?_
                      refine LV (R_pickT (v := (.bool ((!r238.2)))) (congrArg Value.bool hb276) rfl) ?_
                      replace hm303 := Option.some.inj hm303; subst hm303
                      exact key305 _ _ ⟨((!r238.2)), _, (hST.sublist (List.Sublist.cons _ (List.Sublist.refl _))), e270, e272, rfl, hm304⟩
                    · replace hm303 := if_f hb276 hm303
                      refine LW_no rfl (by decide) rfl rfl (by decide) (congrArg Value.bool hb276) ?_
                      refine LW_no rfl (by decide) rfl rfl (by decide) (congrArg Value.bool hb276) ?_
                      refine LV (R_pickF (v := (.bool false)) (congrArg Value.bool hb276) rfl) ?_
                      replace hm303 := Option.some.inj hm303; subst hm303
                      exact key305 _ _ ⟨false, _, (hST.sublist (List.Sublist.cons _ (List.Sublist.refl _))), e270, e272, rfl, hm304⟩
                · replace hm267 := if_f hb275 hm267
                  refine CW_skip ?_
                  refine sq_n ?_
                  replace hST : ST true NoF w _ _ ((b1, Obj.cells ((encFact a1).toArray : Array Value) 78 (0, 0)) :: (S27 ++ L266)) := hST.sublist (List.Sublist.cons_cons _ ((List.Sublist.refl _).trans (List.sublist_append_right _ _)))
                  refine CW_seq ?_
                  refine PX_start (fun l W => Has μ241 ((b1, Obj.cells ((encFact a1).toArray : Array Value) 78 (0, 0)) :: []) W) Tryz_mixed ?_
                  replace hST := hST.drew
                  have hS0 : Has μ241 ((b1, Obj.cells ((encFact a1).toArray : Array Value) 78 (0, 0)) :: []) _ := hST.has.sub (Sub.refl _) (fun p hq => ((List.mem_cons.1 hq).elim (fun hq => by rw [hq]; exact (.head _)) (fun hq => (absurd hq List.not_mem_nil))))
                  refine PV 0 rfl hS0 (R_move (v := y26) e270) ?_
                  refine PV 1 rfl hS0 (R_move (v := v_a0) e268) ?_
                  refine PX_v 3 rfl (by kernel_rfl) (.inl rfl) rfl (by decide) (fun _ _ h => h) hS0 (fun l W hpd hs => have hS := hs; R_load (v := (.agg (encFact a1).toArray)) e269 (load_boxA hS (.head _) (encFact a1) rfl Tryz.isAgg78 Tryz.sizeOf78)) ?_
                  obtain ⟨r328, hr329, hm267⟩ := bind_some hm267
                  refine PX_e 2 rfl (by kernel_rfl) (.inl rfl) rfl (by decide) (E_givesRow (args := [v_a0]) [_] _ hST rfl Tryz.call49 (by exact args1 rfl) ((w_ref05_Set v_a0 a0 _ _ (h_a0.mono (Pl.mono _) (((hle22.trans hle56).trans hle242).trans hST.sub_hp)) hr329)) (fun W330 v333 μ331 R334 hST hle332 hR335 => ?_))
                  replace hST : ST true NoF w _ _ ((b1, Obj.cells ((encFact a1).toArray : Array Value) 78 (0, 0)) :: (R334 ++ (S27 ++ L266))) := hST
                  have hS0 : Has μ241 ((b1, Obj.cells ((encFact a1).toArray : Array Value) 78 (0, 0)) :: []) _ := hST.has.sub hle332 (fun p hq => ((List.mem_cons.1 hq).elim (fun hq => by rw [hq]; exact (.head _)) (fun hq => (absurd hq List.not_mem_nil))))
                  refine ⟨hS0, ?_⟩
                  obtain ⟨r336, hr337, hm267⟩ := bind_some hm267
                  refine PX_e 4 rfl (by kernel_rfl) (.inl rfl) rfl (by decide) (E_gives (args := [y26, v333, (.agg (encFact a1).toArray)]) hST rfl Tryz.call55 (by exact args3 rfl rfl rfl) ((w_ref09_Check y26 r18.1 v333 r328 a1 _ _ (hy28.sl lenStep (fun b o hq => hST.at_ (.tail _ (List.mem_append_right _ (List.mem_append_left _ hq))))) (hR335.sl lenCred (fun b o hq => hST.at_ (.tail _ (List.mem_append_left _ hq)))) hr337)) (fun W338 hST => ?_))
                  have hS0 : Has μ241 ((b1, Obj.cells ((encFact a1).toArray : Array Value) 78 (0, 0)) :: []) _ := hST.has.sub hle332 (fun p hq => ((List.mem_cons.1 hq).elim (fun hq => by rw [hq]; exact (.head _)) (fun hq => (absurd hq List.not_mem_nil))))
                  refine ⟨hS0, ?_⟩
                  refine PV 5 rfl hS0 (R_move (v := (.tuple #[(.int .i64 r336.1), (.int .i64 r336.2)])) rfl) ?_
                  refine PV 6 rfl hS0 (R_extract (v := (.int .i64 r336.1)) rfl rfl) ?_
                  refine PV 7 rfl hS0 (R_extract (v := (.int .i64 r336.2)) rfl rfl) ?_
                  refine PV 8 rfl hS0 (R_assign (v := (.int .i64 r336.1)) rfl) ?_
                  refine PV 9 rfl hS0 (R_assign (v := (.int .i64 r336.2)) rfl) ?_
                  refine PX_done (by kernel_rfl) ?_
                  refine sq_n ?_
                  replace hST : ST true NoF w _ _ ((b1, Obj.cells ((encFact a1).toArray : Array Value) 78 (0, 0)) :: (S27 ++ L266)) := hST.sublist (List.Sublist.cons_cons _ ((List.Sublist.refl _).trans (List.sublist_append_right _ _)))
                  refine CW_seq ?_
                  refine PX_start (fun l W => Has μ331 ((b1, Obj.cells ((encFact a1).toArray : Array Value) 78 (0, 0)) :: (S27 ++ [])) W) Tryz_mixed ?_
                  replace hST := hST.drew
                  have hS0 : Has μ331 ((b1, Obj.cells ((encFact a1).toArray : Array Value) 78 (0, 0)) :: (S27 ++ [])) _ := hST.has.sub (Sub.refl _) (fun p hq => ((List.mem_cons.1 hq).elim (fun hq => by rw [hq]; exact (.head _)) (fun hq => ((List.mem_append.1 hq).elim (fun hq => (.tail _ (List.mem_append_left _ hq))) (fun hq => (absurd hq List.not_mem_nil))))))
                  refine PV 0 rfl hS0 (R_move (v := (.int .i64 r336.2)) rfl) ?_
                  refine PV 1 rfl hS0 (R_int (k := .i64) (a := r336.2) (b := 0) (v := (.bool ((r336.2 == 0)))) rfl rfl rfl) ?_
                  refine PV 2 rfl hS0 (R_move (v := (.bool ((r336.2 == 0)))) rfl) ?_
                  obtain ⟨s494, hm495, hm496⟩ := bind_some hm267
                  refine PX_join (J := fun E W => ∃ (x446 : Bool) (L447 : List (Nat × Obj)), ST true NoF w W μ331 ((b1, Obj.cells ((encFact a1).toArray : Array Value) 78 (0, 0)) :: (S27 ++ L447)) ∧ E 3 = (.pointer (some ⟨b1, 0, none⟩)) ∧ E 5 = y26 ∧ E 11 = (.int .i64 r336.1) ∧ E 118 = (.bool x446) ∧ (((if x446 then (((m_ref09_Tight r18.1)).bind fun r491 => some r491) else some false) : Option Bool).bind fun x457 => (((if x457 then (((idx r18.1 ((IntKind.i64.wrap (r336.1 - 1))))).bind fun x483 => some ((beqFact x483.Fact a1))) else some false) : Option Bool).bind fun x472 => some x472)) = some r) #[true, true, true, true, true, true, true, true, false, false, false, false, false, false, false, false, false, false, false, false, false, false, false] 15 ?_ (fun key497 => ?_)
                  · rintro E W ⟨x446, L447, hST, e449, e450, e451, e452, hm448⟩
                    have hS0 : Has μ331 ((b1, Obj.cells ((encFact a1).toArray : Array Value) 78 (0, 0)) :: (S27 ++ [])) _ := hST.has.sub (Sub.refl _) (fun p hq => ((List.mem_cons.1 hq).elim (fun hq => by rw [hq]; exact (.head _)) (fun hq => ((List.mem_append.1 hq).elim (fun hq => (.tail _ (List.mem_append_left _ hq))) (fun hq => (absurd hq List.not_mem_nil))))))
                    refine PV 8 rfl hS0 (R_move (v := (.bool x446)) e452) ?_
                    obtain ⟨s487, hm488, hm489⟩ := bind_some hm448
                    refine PX_join (J := fun E W => ∃ (x457 : Bool) (L458 : List (Nat × Obj)), ST true NoF w W μ331 ((b1, Obj.cells ((encFact a1).toArray : Array Value) 78 (0, 0)) :: (S27 ++ L458)) ∧ E 3 = (.pointer (some ⟨b1, 0, none⟩)) ∧ E 5 = y26 ∧ E 11 = (.int .i64 r336.1) ∧ E 122 = (.bool x457) ∧ (((if x457 then (((idx r18.1 ((IntKind.i64.wrap (r336.1 - 1))))).bind fun x483 => some ((beqFact x483.Fact a1))) else some false) : Option Bool).bind fun x472 => some x472) = some r) #[true, true, true, true, true, true, true, true, true, true, true, true, false, false, false, false, false, false, false, false, false, false, false] 11 ?_ (fun key490 => ?_)
                    · rintro E W ⟨x457, L458, hST, e460, e461, e462, e463, hm459⟩
                      have hS0 : Has μ331 ((b1, Obj.cells ((encFact a1).toArray : Array Value) 78 (0, 0)) :: (S27 ++ [])) _ := hST.has.sub (Sub.refl _) (fun p hq => ((List.mem_cons.1 hq).elim (fun hq => by rw [hq]; exact (.head _)) (fun hq => ((List.mem_append.1 hq).elim (fun hq => (.tail _ (List.mem_append_left _ hq))) (fun hq => (absurd hq List.not_mem_nil))))))
                      refine PV 12 rfl hS0 (R_move (v := (.bool x457)) e463) ?_
                      obtain ⟨s476, hm477, hm478⟩ := bind_some hm459
                      refine PX_join (J := fun E W => ∃ (x472 : Bool) (L473 : List (Nat × Obj)), ST true NoF w W μ331 ((b1, Obj.cells ((encFact a1).toArray : Array Value) 78 (0, 0)) :: (S27 ++ L473)) ∧ E 132 = (.bool x472) ∧ some x472 = some r) #[true, true, true, true, true, true, true, true, true, true, true, true, true, true, true, true, true, true, true, true, true, true, false] 1 ?_ (fun key479 => ?_)
                      · rintro E W ⟨x472, L473, hST, e475, hm474⟩
                        have hS0 : Has μ331 ((b1, Obj.cells ((encFact a1).toArray : Array Value) 78 (0, 0)) :: (S27 ++ [])) _ := hST.has.sub (Sub.refl _) (fun p hq => ((List.mem_cons.1 hq).elim (fun hq => by rw [hq]; exact (.head _)) (fun hq => ((List.mem_append.1 hq).elim (fun hq => (.tail _ (List.mem_append_left _ hq))) (fun hq => (absurd hq List.not_mem_nil))))))
                        refine PV 22 rfl hS0 (R_assign (v := (.bool x472)) e475) ?_
                        refine PX_done (by kernel_rfl) ?_
                        refine sq_n ?_
                        replace hST : ST true NoF w _ _ L473 := hST.sublist (List.Sublist.cons _ ((List.Sublist.refl _).trans (List.sublist_append_right _ _)))
                        refine CW_ret ?_
                        replace hm474 := Option.some.inj hm474; subst hm474
                        refine retQ_1 (v := (.bool x472)) rfl rfl ?_
                        exact ⟨rfl, hST.ex⟩
                      · rcases bool_cases x457 with hb464 | hb464
                        · replace hm477 := if_t hb464 hm477
                          refine PX_v 13 rfl (by kernel_rfl) (.inr ⟨12, true, 123, rfl, rfl, by decide, (congrArg Value.bool hb464)⟩) rfl (by decide) (fun _ _ h => h) hS0 (fun _ _ _ _ => R_move (v := y26) e461) ?_
                          refine PX_v 14 rfl (by kernel_rfl) (.inr ⟨12, true, 123, rfl, rfl, by decide, (congrArg Value.bool hb464)⟩) rfl (by decide) (fun _ _ h => h) hS0 (fun _ _ _ _ => R_move (v := (.int .i64 r336.1)) e462) ?_
                          refine PX_v 15 rfl (by kernel_rfl) (.inr ⟨12, true, 123, rfl, rfl, by decide, (congrArg Value.bool hb464)⟩) rfl (by decide) (fun _ _ h => h) hS0 (fun _ _ _ _ => R_int (k := .i64) (a := r336.1) (b := 1) (v := (.int .i64 ((IntKind.i64.wrap (r336.1 - 1))))) rfl rfl rfl) ?_
                          obtain ⟨x483, hx484, hm477⟩ := bind_some hm477
                          refine PX_q 16 rfl (by kernel_rfl) (.inr ⟨12, true, 123, rfl, rfl, by decide, (congrArg Value.bool hb464)⟩) rfl (by decide) (fun _ _ h => h) hS0 (R_indexRow (i := (IntKind.i64.wrap (r336.1 - 1))) (x0 := x483) Tryz.underlying79 Tryz.sizeOf89 rfl rfl hy28 (idx_nonneg hx484) (idx_get hx484)) (fun p480 hp481 => ?_)
                          refine PX_q 17 rfl (by kernel_rfl) (.inr ⟨12, true, 123, rfl, rfl, by decide, (congrArg Value.bool hb464)⟩) rfl (by decide) (fun _ _ h => h) hS0 (R_fieldAt (encFact x483.Fact) fa89_1 rfl (IxR.at hy28 lenStep hp481 (idx_get hx484)) rfl) (fun p485 hp486 => ?_)
                          refine PX_v 18 rfl (by kernel_rfl) (.inr ⟨12, true, 123, rfl, rfl, by decide, (congrArg Value.bool hb464)⟩) rfl (by decide) (fun _ _ h => h) hS0 (fun l W hpd hs => have hS := hs; R_load rfl (load_atA (Has.hp _) (hp486.mono (memL_held (fun b o hq => hS.2 b o (.tail _ (List.mem_append_left _ hq))))) Tryz.isAgg78 Tryz.sizeOf78)) ?_
                          refine PX_v 19 rfl (by kernel_rfl) (.inr ⟨12, true, 123, rfl, rfl, by decide, (congrArg Value.bool hb464)⟩) rfl (by decide) (fun _ _ h => h) hS0 (fun l W hpd hs => have hS := hs; R_load (v := (.agg (encFact a1).toArray)) e460 (load_boxA hS (.head _) (encFact a1) rfl Tryz.isAgg78 Tryz.sizeOf78)) ?_
                          refine PX_v 20 rfl (by kernel_rfl) (.inr ⟨12, true, 123, rfl, rfl, by decide, (congrArg Value.bool hb464)⟩) rfl (by decide) (fun _ _ h => h) hS0 (fun _ _ _ _ => R_eql (a := (encFact x483.Fact).toArray) (b := (encFact a1).toArray) rfl rfl (guard_agg Tryz.eqGuardType78) (bin_eql (eqInFact _ x483.Fact a1))) ?_
                          refine PV 21 rfl hS0 (R_pickT (v := (.bool ((beqFact x483.Fact a1)))) (congrArg Value.bool hb464) rfl) ?_
                          replace hm477 := Option.some.inj hm477; subst hm477
                          refine PX_at (by kernel_rfl) (key479 _ _ ⟨((beqFact x483.Fact a1)), _, (hST.sublist (List.Sublist.refl _)), rfl, hm478⟩)
                        · replace hm477 := if_f hb464 hm477
                          refine PX_no 13 rfl (by kernel_rfl) rfl rfl (by decide) (congrArg Value.bool hb464) rfl (by decide) (fun _ _ h => h) hS0 ?_
                          refine PX_no 14 rfl (by kernel_rfl) rfl rfl (by decide) (congrArg Value.bool hb464) rfl (by decide) (fun _ _ h => h) hS0 ?_
                          refine PX_no 15 rfl (by kernel_rfl) rfl rfl (by decide) (congrArg Value.bool hb464) rfl (by decide) (fun _ _ h => h) hS0 ?_
                          refine PX_no 16 rfl (by kernel_rfl) rfl rfl (by decide) (congrArg Value.bool hb464) rfl (by decide) (fun _ _ h => h) hS0 ?_
                          refine PX_no 17 rfl (by kernel_rfl) rfl rfl (by decide) (congrArg Value.bool hb464) rfl (by decide) (fun _ _ h => h) hS0 ?_
                          refine PX_no 18 rfl (by kernel_rfl) rfl rfl (by decide) (congrArg Value.bool hb464) rfl (by decide) (fun _ _ h => h) hS0 ?_
                          refine PX_no 19 rfl (by kernel_rfl) rfl rfl (by decide) (congrArg Value.bool hb464) rfl (by decide) (fun _ _ h => h) hS0 ?_
                          refine PX_no 20 rfl (by kernel_rfl) rfl rfl (by decide) (congrArg Value.bool hb464) rfl (by decide) (fun _ _ h => h) hS0 ?_
                          refine PV 21 rfl hS0 (R_pickF (v := (.bool false)) (congrArg Value.bool hb464) rfl) ?_
                          replace hm477 := Option.some.inj hm477; subst hm477
                          refine PX_at (by kernel_rfl) (key479 _ _ ⟨false, _, (hST.sublist (List.Sublist.refl _)), rfl, hm478⟩)
                    · rcases bool_cases x446 with hb453 | hb453
                      · replace hm488 := if_t hb453 hm488
                        refine PX_v 9 rfl (by kernel_rfl) (.inr ⟨8, true, 119, rfl, rfl, by decide, (congrArg Value.bool hb453)⟩) rfl (by decide) (fun _ _ h => h) hS0 (fun _ _ _ _ => R_move (v := y26) e450) ?_
                        obtain ⟨r491, hr492, hm488⟩ := bind_some hm488
                        refine PX_e 10 rfl (by kernel_rfl) (.inr ⟨8, true, 119, rfl, rfl, by decide, (congrArg Value.bool hb453)⟩) rfl (by decide) (E_gives (args := [y26]) hST rfl Tryz.call56 (by exact args1 rfl) ((w_ref09_Tight y26 r18.1 _ _ (hy28.sl lenStep (fun b o hq => hST.at_ (.tail _ (List.mem_append_left _ hq)))) hr492)) (fun W493 hST => ?_))
                        have hS0 : Has μ331 ((b1, Obj.cells ((encFact a1).toArray : Array Value) 78 (0, 0)) :: (S27 ++ [])) _ := hST.has.sub (Sub.refl _) (fun p hq => ((List.mem_cons.1 hq).elim (fun hq => by rw [hq]; exact (.head _)) (fun hq => ((List.mem_append.1 hq).elim (fun hq => (.tail _ (List.mem_append_left _ hq))) (fun hq => (absurd hq List.not_mem_nil))))))
                        refine ⟨hS0, ?_⟩
                        refine PV 11 rfl hS0 (R_pickT (v := (.bool r491)) (congrArg Value.bool hb453) rfl) ?_
                        replace hm488 := Option.some.inj hm488; subst hm488
                        refine PX_at (by kernel_rfl) (key490 _ _ ⟨r491, _, (hST.sublist (List.Sublist.refl _)), e449, e450, e451, rfl, hm489⟩)
                      · replace hm488 := if_f hb453 hm488
                        refine PX_no 9 rfl (by kernel_rfl) rfl rfl (by decide) (congrArg Value.bool hb453) rfl (by decide) (fun _ _ h => h) hS0 ?_
                        refine PX_no 10 rfl (by kernel_rfl) rfl rfl (by decide) (congrArg Value.bool hb453) rfl (by decide) (fun _ _ h => h) hS0 ?_
                        refine PV 11 rfl hS0 (R_pickF (v := (.bool false)) (congrArg Value.bool hb453) rfl) ?_
                        replace hm488 := Option.some.inj hm488; subst hm488
                        refine PX_at (by kernel_rfl) (key490 _ _ ⟨false, _, (hST.sublist (List.Sublist.refl _)), e449, e450, e451, rfl, hm489⟩)
                  · rcases bool_cases ((r336.2 == 0)) with hb445 | hb445
                    · replace hm495 := if_t hb445 hm495
                      refine PX_v 3 rfl (by kernel_rfl) (.inr ⟨2, true, 113, rfl, rfl, by decide, (congrArg Value.bool hb445)⟩) rfl (by decide) (fun _ _ h => h) hS0 (fun _ _ _ _ => R_move (v := (.int .i64 r336.1)) rfl) ?_
                      refine PX_v 4 rfl (by kernel_rfl) (.inr ⟨2, true, 113, rfl, rfl, by decide, (congrArg Value.bool hb445)⟩) rfl (by decide) (fun _ _ h => h) hS0 (fun _ _ _ _ => R_move (v := y26) e270) ?_
                      refine PX_v 5 rfl (by kernel_rfl) (.inr ⟨2, true, 113, rfl, rfl, by decide, (congrArg Value.bool hb445)⟩) rfl (by decide) (fun _ _ h => h) hS0 (fun _ _ _ _ => R_lenRow Tryz.underlying79 rfl hy28) ?_
                      refine PX_v 6 rfl (by kernel_rfl) (.inr ⟨2, true, 113, rfl, rfl, by decide, (congrArg Value.bool hb445)⟩) rfl (by decide) (fun _ _ h => h) hS0 (fun _ _ _ _ => R_int (k := .i64) (a := r336.1) (b := ((r18.1.length : Int))) (v := (.bool ((r336.1 == ((r18.1.length : Int)))))) rfl rfl rfl) ?_
                      refine PV 7 rfl hS0 (R_pickT (v := (.bool ((r336.1 == ((r18.1.length : Int)))))) (congrArg Value.bool hb445) rfl) ?_
                      replace hm495 := Option.some.inj hm495; subst hm495
                      refine PX_at (by kernel_rfl) (key497 _ _ ⟨((r336.1 == ((r18.1.length : Int)))), _, (hST.sublist (List.Sublist.refl _)), e269, e270, rfl, rfl, hm496⟩)
                    · replace hm495 := if_f hb445 hm495
                      refine PX_no 3 rfl (by kernel_rfl) rfl rfl (by decide) (congrArg Value.bool hb445) rfl (by decide) (fun _ _ h => h) hS0 ?_
                      refine PX_no 4 rfl (by kernel_rfl) rfl rfl (by decide) (congrArg Value.bool hb445) rfl (by decide) (fun _ _ h => h) hS0 ?_
                      refine PX_no 5 rfl (by kernel_rfl) rfl rfl (by decide) (congrArg Value.bool hb445) rfl (by decide) (fun _ _ h => h) hS0 ?_
                      refine PX_no 6 rfl (by kernel_rfl) rfl rfl (by decide) (congrArg Value.bool hb445) rfl (by decide) (fun _ _ h => h) hS0 ?_
                      refine PV 7 rfl hS0 (R_pickF (v := (.bool false)) (congrArg Value.bool hb445) rfl) ?_
                      replace hm495 := Option.some.inj hm495; subst hm495
                      refine PX_at (by kernel_rfl) (key497 _ _ ⟨false, _, (hST.sublist (List.Sublist.refl _)), e269, e270, rfl, rfl, hm496⟩)
              · rcases bool_cases x254 with hb264 | hb264
                · replace hm499 := if_t hb264 hm499
                  refine LW_no rfl (by decide) rfl rfl (by decide) (congrArg Value.bool hb264) ?_
                  refine LW_no rfl (by decide) rfl rfl (by decide) (congrArg Value.bool hb264) ?_
                  refine LV (R_pickT (v := (.bool true)) (congrArg Value.bool hb264) rfl) ?_
                  replace hm499 := Option.some.inj hm499; subst hm499
                  exact key501 _ _ ⟨true, _, (hST.sublist (List.Sublist.refl _)), e257, e258, e259, e260, e261, e262, rfl, hm500⟩
                · replace hm499 := if_f hb264 hm499
                  refine LW_v (.inr ⟨9, false, 83, rfl, rfl, by decide, (congrArg Value.bool hb264)⟩) rfl (by decide) (R_move (v := (.bool r18.2)) e260) ?_
                  refine LW_v (.inr ⟨9, false, 83, rfl, rfl, by decide, (congrArg Value.bool hb264)⟩) rfl (by decide) (R_not (b := r18.2) rfl) ?_
                  refine LV (R_pickF (v := (.bool ((!r18.2)))) (congrArg Value.bool hb264) rfl) ?_
                  replace hm499 := Option.some.inj hm499; subst hm499
                  exact key501 _ _ ⟨((!r18.2)), _, (hST.sublist (List.Sublist.refl _)), e257, e258, e259, e260, e261, e262, rfl, hm500⟩
            · rcases bool_cases ((r18.2 != r238.2)) with hb250 | hb250
              · replace hm503 := if_t hb250 hm503
                refine LW_no rfl (by decide) rfl rfl (by decide) (congrArg Value.bool hb250) ?_
                refine LW_no rfl (by decide) rfl rfl (by decide) (congrArg Value.bool hb250) ?_
                refine LW_no rfl (by decide) rfl rfl (by decide) (congrArg Value.bool hb250) ?_
                refine LW_no rfl (by decide) rfl rfl (by decide) (congrArg Value.bool hb250) ?_
                refine LV (R_pickT (v := (.bool true)) (congrArg Value.bool hb250) rfl) ?_
                replace hm503 := Option.some.inj hm503; subst hm503
                exact key505 _ _ ⟨true, _, (hST.sublist (List.Sublist.refl _)), e178, e179, e180, e181, rfl, rfl, rfl, hm504⟩
              · replace hm503 := if_f hb250 hm503
                refine LW_v (.inr ⟨3, false, 77, rfl, rfl, by decide, (congrArg Value.bool hb250)⟩) rfl (by decide) (R_move (v := y26) e180) ?_
                refine LW_v (.inr ⟨3, false, 77, rfl, rfl, by decide, (congrArg Value.bool hb250)⟩) rfl (by decide) (R_move (v := y246) rfl) ?_
                obtain ⟨r506, hr507, hm503⟩ := bind_some hm503
                refine LW_e (.inr ⟨3, false, 77, rfl, rfl, by decide, (congrArg Value.bool hb250)⟩) rfl (by decide) (E_gives (args := [y26, y246]) hST rfl Tryz.call54 (by exact args2 rfl rfl) ((w_ref09_Same y26 r18.1 y246 r238.1 _ _ (hy28.sl lenStep (fun b o hq => hST.at_ (.tail _ (List.mem_append_right _ (List.mem_append_left _ hq))))) (hy248.sl lenStep (fun b o hq => hST.at_ (.tail _ (List.mem_append_left _ hq)))) hr507)) (fun W508 hST => ?_))
                refine LW_v (.inr ⟨3, false, 77, rfl, rfl, by decide, (congrArg Value.bool hb250)⟩) rfl (by decide) (R_not (b := r506) rfl) ?_
                refine LV (R_pickF (v := (.bool ((!r506)))) (congrArg Value.bool hb250) rfl) ?_
                replace hm503 := Option.some.inj hm503; subst hm503
                exact key505 _ _ ⟨((!r506)), _, (hST.sublist (List.Sublist.refl _)), e178, e179, e180, e181, rfl, rfl, rfl, hm504⟩
    · rcases bool_cases ((decide (r7 > 1000))) with hb10 | hb10
      · replace hm510 := if_t hb10 hm510
        refine LW_no rfl (by decide) rfl rfl (by decide) (congrArg Value.bool hb10) ?_
        refine LW_no rfl (by decide) rfl rfl (by decide) (congrArg Value.bool hb10) ?_
        refine LW_no rfl (by decide) rfl rfl (by decide) (congrArg Value.bool hb10) ?_
        refine LW_no rfl (by decide) rfl rfl (by decide) (congrArg Value.bool hb10) ?_
        refine LW_no rfl (by decide) rfl rfl (by decide) (congrArg Value.bool hb10) ?_
        refine LW_no rfl (by decide) rfl rfl (by decide) (congrArg Value.bool hb10) ?_
        refine LW_no rfl (by decide) rfl rfl (by decide) (congrArg Value.bool hb10) ?_
        refine LW_no rfl (by decide) rfl rfl (by decide) (congrArg Value.bool hb10) ?_
        refine LW_no rfl (by decide) rfl rfl (by decide) (congrArg Value.bool hb10) ?_
        refine LW_no rfl (by decide) rfl rfl (by decide) (congrArg Value.bool hb10) ?_
        refine LW_no rfl (by decide) rfl rfl (by decide) (congrArg Value.bool hb10) ?_
        refine LW_no rfl (by decide) rfl rfl (by decide) (congrArg Value.bool hb10) ?_
        refine LW_no rfl (by decide) rfl rfl (by decide) (congrArg Value.bool hb10) ?_
        refine LW_no rfl (by decide) rfl rfl (by decide) (congrArg Value.bool hb10) ?_
        refine LV (R_pickT (v := (.bool true)) (congrArg Value.bool hb10) rfl) ?_
        replace hm510 := Option.some.inj hm510; subst hm510
        exact key512 _ _ ⟨true, _, (hST.sublist (List.Sublist.refl _)), rfl, rfl, rfl, hm511⟩
      · replace hm510 := if_f hb10 hm510
        refine LW_v (.inr ⟨3, false, 18, rfl, rfl, by decide, (congrArg Value.bool hb10)⟩) rfl (by decide) (R_field fa78_1 rfl) ?_
        refine LW_v (.inr ⟨3, false, 18, rfl, rfl, by decide, (congrArg Value.bool hb10)⟩) rfl (by decide) (R_load (v := (.string a1.Who)) rfl (load_box1 hST.has (.head _) rfl Tryz.isAgg9)) ?_
        refine LW_v (.inr ⟨3, false, 18, rfl, rfl, by decide, (congrArg Value.bool hb10)⟩) rfl (by decide) (R_lenStr (s := a1.Who) Tryz.underlying9 rfl) ?_
        refine LW_v (.inr ⟨3, false, 18, rfl, rfl, by decide, (congrArg Value.bool hb10)⟩) rfl (by decide) (R_field fa78_0 rfl) ?_
        refine LW_v (.inr ⟨3, false, 18, rfl, rfl, by decide, (congrArg Value.bool hb10)⟩) rfl (by decide) (R_field fa47_0 rfl) ?_
        refine LW_v (.inr ⟨3, false, 18, rfl, rfl, by decide, (congrArg Value.bool hb10)⟩) rfl (by decide) (R_load (v := (.string a1.Role.Owner)) rfl (load_box1 hST.has (.head _) rfl Tryz.isAgg9)) ?_
        refine LW_v (.inr ⟨3, false, 18, rfl, rfl, by decide, (congrArg Value.bool hb10)⟩) rfl (by decide) (R_lenStr (s := a1.Role.Owner) Tryz.underlying9 rfl) ?_
        refine LW_v (.inr ⟨3, false, 18, rfl, rfl, by decide, (congrArg Value.bool hb10)⟩) rfl (by decide) (R_int (k := .i64) (a := ((a1.Who.size : Int))) (b := ((a1.Role.Owner.size : Int))) (v := (.int .i64 ((IntKind.i64.wrap (((a1.Who.size : Int)) + ((a1.Role.Owner.size : Int))))))) rfl rfl rfl) ?_
        refine LW_v (.inr ⟨3, false, 18, rfl, rfl, by decide, (congrArg Value.bool hb10)⟩) rfl (by decide) (R_field fa78_0 rfl) ?_
        refine LW_v (.inr ⟨3, false, 18, rfl, rfl, by decide, (congrArg Value.bool hb10)⟩) rfl (by decide) (R_field fa47_1 rfl) ?_
        refine LW_v (.inr ⟨3, false, 18, rfl, rfl, by decide, (congrArg Value.bool hb10)⟩) rfl (by decide) (R_load (v := (.string a1.Role.Word)) rfl (load_box1 hST.has (.head _) rfl Tryz.isAgg9)) ?_
        refine LW_v (.inr ⟨3, false, 18, rfl, rfl, by decide, (congrArg Value.bool hb10)⟩) rfl (by decide) (R_lenStr (s := a1.Role.Word) Tryz.underlying9 rfl) ?_
        refine LW_v (.inr ⟨3, false, 18, rfl, rfl, by decide, (congrArg Value.bool hb10)⟩) rfl (by decide) (R_int (k := .i64) (a := ((IntKind.i64.wrap (((a1.Who.size : Int)) + ((a1.Role.Owner.size : Int)))))) (b := ((a1.Role.Word.size : Int))) (v := (.int .i64 ((IntKind.i64.wrap (((IntKind.i64.wrap (((a1.Who.size : Int)) + ((a1.Role.Owner.size : Int))))) + ((a1.Role.Word.size : Int))))))) rfl rfl rfl) ?_
        refine LW_v (.inr ⟨3, false, 18, rfl, rfl, by decide, (congrArg Value.bool hb10)⟩) rfl (by decide) (R_int (k := .i64) (a := ((IntKind.i64.wrap (((IntKind.i64.wrap (((a1.Who.size : Int)) + ((a1.Role.Owner.size : Int))))) + ((a1.Role.Word.size : Int)))))) (b := 200) (v := (.bool ((decide (((IntKind.i64.wrap (((IntKind.i64.wrap (((a1.Who.size : Int)) + ((a1.Role.Owner.size : Int))))) + ((a1.Role.Word.size : Int))))) > 200))))) rfl rfl rfl) ?_
        refine LV (R_pickF (v := (.bool ((decide (((IntKind.i64.wrap (((IntKind.i64.wrap (((a1.Who.size : Int)) + ((a1.Role.Owner.size : Int))))) + ((a1.Role.Word.size : Int))))) > 200))))) (congrArg Value.bool hb10) rfl) ?_
        replace hm510 := Option.some.inj hm510; subst hm510
        exact key512 _ _ ⟨((decide (((IntKind.i64.wrap (((IntKind.i64.wrap (((a1.Who.size : Int)) + ((a1.Role.Owner.size : Int))))) + ((a1.Role.Word.size : Int))))) > 200))), _, (hST.sublist (List.Sublist.refl _)), rfl, rfl, rfl, hm511⟩
end Go.Proofs.YtfjdjbdnnoijgaaGreat
