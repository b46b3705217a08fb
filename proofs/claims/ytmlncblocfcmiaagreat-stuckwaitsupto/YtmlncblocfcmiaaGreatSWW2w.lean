/- a part of a proof of StuckWaits -/
import Derived.Test.YtmlncblocfcmiaaGreatSWW1w
set_option linter.all false
namespace Go.Proofs.YtmlncblocfcmiaaGreat
open Go.RowKit
set_option maxRecDepth 10000
theorem kk (y : Value) (a0 : List Formula) (D : List (Nat × Obj)) (a1 : Int) (a2 : Int) (T : Value) (f3 : ((Formula × Formula)) → Option Int) (r : List Formula) (w : World) {μ0 : aY} (h0 : ie μ0 (D ++ []) w) (h2 : bX 113 aH 5 μ0 y a0 D) (h3 : nY Tryz.prog T μ0 (mO aH aH) (fun (r : Int) => (.int .i64 r)) f3) (hm : eD a0 a1 a2 f3 = some r) :
    dO false Tryz.prog 467 [y, (.int .i64 a1), (.int .i64 a2), T] w μ0 (D ++ []) (fun v L1 μ1 => ∃ (S1 : List (Nat × Obj)), v = (.tuple #[]) ∧ L1 = (S1 ++ []) ∧ bX 113 aH 5 μ1 y r S1) := by
  have hST := ST.startE (dd := false) h0
  unfold eD at hm
  refine cF 53 Tryz.func467 rfl (aC (aA (V (aB rfl) (V (aP rfl rfl rfl) (V (aF rfl) (aD (aG (mF (aU (gH (fun m E W => ∃ (Y : List Formula) (J : List (Nat × Obj)) (x : Int) (c9 : List (Nat × Obj)), ST false (keys (D ++ [])) w W μ0 (J ++ c9) ∧ E 0 = y ∧ E 1 = (.int .i64 a1) ∧ E 2 = (.int .i64 a2) ∧ E 3 = T ∧ E 8 = (.int .i64 x) ∧ bX 113 aH 5 μ0 y Y J ∧ cC a2 a1 f3 m Y x = some r) bR ⟨a0, D, ((IntKind.i64.wrap (a1 + 1))), _, (hST.sel St), rfl, rfl, rfl, rfl, rfl, h2, hm⟩ ?_))))))))))
  rintro m E W ⟨Y, J, x, c9, hST, f9, g0, d1, g1, b5, c6, u⟩
  cases m with
  | zero => rw [cC] at u; cases u
  | succ g9 =>
    rw [cC] at u
    refine aC (aC (aA (V (aB b5) (V (aB d1) (V (aP rfl rfl rfl) (aD (aG (CI u rfl (fun e9 u => ?_) (fun e9 u => ?_)))))))))
    · refine aT (aG (aC (aU (aC (aA (V (aB b5) (V (aF rfl) (aD (aG (mF (CJ u (fun b6 E W => ∃ (U : List (Nat × Obj)) (d0 : List (Nat × Obj)), ST false (keys (D ++ [])) w W μ0 (U ++ d0) ∧ E 0 = y ∧ E 1 = (.int .i64 a1) ∧ E 2 = (.int .i64 a2) ∧ E 3 = T ∧ E 8 = (.int .i64 x) ∧ bX 113 aH 5 μ0 y b6 U) (fun b6 f1 => ?_) ?_)))))))))))
      · refine aU (gH (fun m E W => ∃ (M : List Formula) (B : List (Nat × Obj)) (j : Int) (b7 : List (Nat × Obj)), ST false (keys (D ++ [])) w W μ0 (B ++ b7) ∧ E 0 = y ∧ E 1 = (.int .i64 a1) ∧ E 2 = (.int .i64 a2) ∧ E 3 = T ∧ E 8 = (.int .i64 x) ∧ E 9 = (.int .i64 j) ∧ bX 113 aH 5 μ0 y M B ∧ cO a1 f3 m M j = some b6) bR ⟨Y, J, x, _, (hST.sel St), f9, g0, d1, g1, b5, rfl, c6, f1⟩ ?_)
        rintro m E W ⟨M, B, j, b7, hST, K, Z, c0, a3, c1, G, t, I⟩
        cases m with
        | zero => rw [cO] at I; cases I
        | succ f4 =>
          rw [cO] at I
          refine aC (aC ?_)
          replace hST := hST.drew
          have hS0 := hST.has.sel (Kr Sn)
          refine cU hS0 bO (X 0 rfl hS0 (aB G) (X 1 rfl hS0 (aB Z) (X 2 rfl hS0 (aP rfl rfl rfl) (X 3 rfl hS0 (aB rfl) (PJ I (fun c7 E W => ∃  (b9 : List (Nat × Obj)), ST false (keys (D ++ [])) w W μ0 (B ++ b9) ∧ E 0 = y ∧ E 1 = (.int .i64 a1) ∧ E 2 = (.int .i64 a2) ∧ E 3 = T ∧ E 8 = (.int .i64 x) ∧ E 9 = (.int .i64 j) ∧ E 34 = (.bool c7)) (bm 17 131071) 0 ?_ (fun c7 g a4 => ?_))))))
          · rintro k0 E W ⟨b9, hST, z, c2, c3, c4, c5, H, e8⟩ c
            have hS0 := hST.has.sel (Kr Sn)
            refine dC (by kernel_rfl) (aG (CI c e8 (fun d3 c => ?_) (fun d3 c => ?_)))
            · refine aT (aG (aC (aU ?_)))
              replace hST := hST.drew
              have hS0 := hST.has.sel Sn
              have hS1 := hST.has.sel (Kr Sn)
              refine mL 15 hS0 hS1 bO (cE 0 rfl (by kernel_rfl) (.inl rfl) rfl (by decide) (fun _ _ h => ⟨h.1, cW (by rfl) h.2⟩) ⟨hS0, fun _ => hS1⟩ (fun _ _ _ _ => aB z) (cE 1 rfl (by kernel_rfl) (.inl rfl) rfl (by decide) (fun _ _ h => ⟨h.1, cW (by rfl) h.2⟩) ⟨hS0, fun _ => hS1⟩ (fun _ _ _ _ => aB H) (cE 2 rfl (by kernel_rfl) (.inl rfl) rfl (by decide) (fun _ _ h => ⟨h.1, cW (by rfl) h.2⟩) ⟨hS0, fun _ => hS1⟩ (fun _ _ _ _ => aB z) (cE 3 rfl (by kernel_rfl) (.inl rfl) rfl (by decide) (fun _ _ h => ⟨h.1, cW (by rfl) h.2⟩) ⟨hS0, fun _ => hS1⟩ (fun _ _ _ _ => aB H) (cE 4 rfl (by kernel_rfl) (.inl rfl) rfl (by decide) (fun _ _ h => ⟨h.1, cW (by rfl) h.2⟩) ⟨hS0, fun _ => hS1⟩ (fun _ _ _ _ => aP rfl rfl rfl) (cE 5 rfl (by kernel_rfl) (.inl rfl) rfl (by decide) (fun _ _ h => ⟨h.1, cW (by rfl) h.2⟩) ⟨hS0, fun _ => hS1⟩ (fun _ _ _ _ => aB z) (cE 6 rfl (by kernel_rfl) (.inl rfl) rfl (by decide) (fun _ _ h => ⟨h.1, cW (by rfl) h.2⟩) ⟨hS0, fun _ => hS1⟩ (fun _ _ _ _ => aB H) (cE 7 rfl (by kernel_rfl) (.inl rfl) rfl (by decide) (fun _ _ h => ⟨h.1, cW (by rfl) h.2⟩) ⟨hS0, fun _ => hS1⟩ (fun _ _ _ _ => aP rfl rfl rfl) (bS c fun a5 b0 c => mA 8 rfl (by kernel_rfl) (.inl rfl) rfl (by decide) (fun _ _ h => ⟨h.1, cW (by rfl) h.2⟩) ⟨hS0, fun _ => hS1⟩ (cQ (i := (IntKind.i64.wrap (j - 1))) aH.out Tryz.underlying111 Tryz.sizeOf113 rfl rfl t (bM b0) (bJ b0)) (fun i7 ⟨_, ⟨j6, rfl, a8⟩, d6, h4⟩ => cE 9 rfl (by kernel_rfl) (.inl rfl) rfl (by decide) (fun _ _ h => ⟨h.1, cW (by rfl) h.2⟩) ⟨hS0, fun _ => hS1⟩ (fun l W hpd hs => have hS := (hs.2 (hpd.bar 15 [9] (by kernel_rfl) rfl)); aI rfl (bN (gD.hp _) (d6.mono (dZ (fun b o hq => hS.2 b o (Ml hq)))) Tryz.isAgg113 Tryz.sizeOf113)) (cE 10 rfl (by kernel_rfl) (.inl rfl) rfl (by decide) (fun _ _ h => ⟨h.1, cW (by rfl) h.2⟩) ⟨hS0, fun _ => hS1⟩ (fun _ _ _ _ => aB z) (cE 11 rfl (by kernel_rfl) (.inl rfl) rfl (by decide) (fun _ _ h => ⟨h.1, cW (by rfl) h.2⟩) ⟨hS0, fun _ => hS1⟩ (fun _ _ _ _ => aB H) (bS c fun k b1 c => ?_)))))))))))))
              refine mA 12 rfl (by kernel_rfl) (.inl rfl) rfl (by decide) (fun _ _ h => ⟨h.1, cW (by rfl) h.2⟩) ⟨hS0, fun _ => hS1⟩ (cQ (i := j) aH.out Tryz.underlying111 Tryz.sizeOf113 rfl rfl t (bM b1) (bJ b1)) (fun i8 ⟨_, ⟨j7, rfl, a9⟩, d7, h5⟩ => cE 13 rfl (by kernel_rfl) (.inl rfl) rfl (by decide) (fun _ _ h => ⟨h.1, cW (by rfl) h.2⟩) ⟨hS0, fun _ => hS1⟩ (fun l W hpd hs => have hS := (hs.2 (hpd.bar 15 [13] (by kernel_rfl) rfl)); aI rfl (bN (gD.hp _) (d7.mono (dZ (fun b o hq => hS.2 b o (Ml hq)))) Tryz.isAgg113 Tryz.sizeOf113)) (bS c fun k1 N c => mA 14 rfl (by kernel_rfl) (.inl rfl) rfl (by decide) (fun _ _ h => ⟨h.1, cW (by rfl) h.2⟩) ⟨hS0, fun _ => hS1⟩ (cQ (i := j) aH.out Tryz.underlying111 Tryz.sizeOf113 rfl rfl t (bM N) (bJ N)) (fun i9 ⟨_, ⟨j8, rfl, i0⟩, h8, d4⟩ => ?_)))
              obtain ⟨e3, e6, rfl⟩ := a8.form
              refine XO 15 rfl (jC (x1 := a5) aQ hST t rfl rfl (aH.mk ⟨(.slice e3 a5.Kids.length e6), rfl, a8⟩) d4 (bJ N) Tryz.sizeOf113 (fun i4 i2 hST a7 => ?_))
              have hS0 := hST.has.sel Sn
              refine ⟨⟨hS0, fun h => pB (by kernel_rfl) h⟩, (bS c fun k2 Q c => mA 16 rfl (by kernel_rfl) (.inl rfl) rfl (by decide) (fun _ _ h => ⟨h.1, cW (by rfl) h.2⟩) ⟨hS0, fun h => pB (by kernel_rfl) h⟩ (cQ (i := (IntKind.i64.wrap (j - 1))) aH.out Tryz.underlying111 Tryz.sizeOf113 rfl rfl a7 (bM Q) (bJ Q)) (fun j0 ⟨_, ⟨j9, rfl, i1⟩, h9, d5⟩ => ?_))⟩
              obtain ⟨e4, e7, rfl⟩ := a9.form
              refine XO 17 rfl (jC (x1 := ((⟨k.Op, k.K, k.Role, k.Kids⟩ : Formula))) aQ hST a7 rfl rfl (aH.mk ⟨(.slice e4 k.Kids.length e7), rfl, a9⟩) d5 (bJ Q) Tryz.sizeOf113 (fun i5 e5 hST d2 => ?_))
              have hS0 := hST.has.sel Sn
              exact ⟨⟨hS0, fun h => pB (by kernel_rfl) h⟩, (dC (by kernel_rfl) (cM (aG (aA (V (aB H) (V (aP rfl rfl rfl) (V (aF rfl) (aD (aG ⟨f4, Nat.lt_succ_self _, ((((M.set (Int.toNat j) a5)).set (Int.toNat ((IntKind.i64.wrap (j - 1)))) ((⟨k.Op, k.K, k.Role, k.Kids⟩ : Formula)))), e5, ((IntKind.i64.wrap (j - 1))), _, (hST.sel St), z, c2, c3, c4, c5, rfl, d2, c⟩)))))))))⟩
            refine gI (gc (gc (li (aG ?_))))
            have hx := sj c; subst hx
            exact ⟨B, _, (hST.sel St), z, c2, c3, c4, c5, t⟩
          refine bC g (fun a g => ?_) (fun a g => ?_)
          · refine Xg 4 rfl rfl (cB a) hS0 (aB a3) (Xg 5 rfl rfl (cB a) hS0 (aB K) (Xg 6 rfl rfl (cB a) hS0 (aB G) (bS g fun f7 b2 g => mA 7 rfl (by kernel_rfl) (.inr ⟨3, true, 21, rfl, rfl, by decide, (cB a)⟩) rfl (by decide) (fun _ _ h => h) hS0 (cQ (i := j) aH.out Tryz.underlying111 Tryz.sizeOf113 rfl rfl t (bM b2) (bJ b2)) (fun j3 ⟨_, ⟨f5, rfl, e1⟩, d8, h6⟩ => ql 8 rfl rfl (cB a) hS0 (fun _ hS => aI rfl (bN (gD.hp _) (d8.mono (dZ (fun b o hq => hS.2 b o (Ml hq)))) Tryz.isAgg113 Tryz.sizeOf113)) (Xg 9 rfl rfl (cB a) hS0 (aB K) (Xg 10 rfl rfl (cB a) hS0 (aB G) (Xg 11 rfl rfl (cB a) hS0 (aP rfl rfl rfl) (bS g fun f8 b3 g => mA 12 rfl (by kernel_rfl) (.inr ⟨3, true, 21, rfl, rfl, by decide, (cB a)⟩) rfl (by decide) (fun _ _ h => h) hS0 (cQ (i := (IntKind.i64.wrap (j - 1))) aH.out Tryz.underlying111 Tryz.sizeOf113 rfl rfl t (bM b3) (bJ b3)) (fun j4 ⟨_, ⟨f6, rfl, e2⟩, d9, h7⟩ => ql 13 rfl rfl (cB a) hS0 (fun _ hS => aI rfl (bN (gD.hp _) (d9.mono (dZ (fun b o hq => hS.2 b o (Ml hq)))) Tryz.isAgg113 Tryz.sizeOf113)) (bS g fun j5 e0 g => Do 14 rfl rfl (cB a) (oT ((f7, f8)) hST h3 (aW.refl _) (mO.mk aQ aQ (aH.mk ⟨f5, rfl, e1⟩) (aH.mk ⟨f6, rfl, e2⟩) hST.sub_hp) rfl (no rfl rfl) e0 (fun i6 hST => ?_))))))))))))
            have hS0 := hST.has.sel (Kr Sn)
            refine ⟨hS0, (Xg 15 rfl rfl (cB a) hS0 (aP rfl rfl rfl) (X 16 rfl hS0 (cD (cB a) rfl) ?_))⟩
            have hx := sj g; subst hx
            refine kL (by kernel_rfl) (a4 _ _ ⟨_, (hST.sel St), K, Z, c0, a3, c1, G, rfl⟩)
          refine Xn 4 rfl rfl (cB a) hS0 (Xn 5 rfl rfl (cB a) hS0 (Xn 6 rfl rfl (cB a) hS0 (Xn 7 rfl rfl (cB a) hS0 (Xn 8 rfl rfl (cB a) hS0 (Xn 9 rfl rfl (cB a) hS0 (Xn 10 rfl rfl (cB a) hS0 (Xn 11 rfl rfl (cB a) hS0 (Xn 12 rfl rfl (cB a) hS0 (Xn 13 rfl rfl (cB a) hS0 (Xn 14 rfl rfl (cB a) hS0 (Xn 15 rfl rfl (cB a) hS0 (X 16 rfl hS0 (cI (cB a) rfl) ?_))))))))))))
          have hx := sj g; subst hx
          refine kL (by kernel_rfl) (a4 _ _ ⟨_, (hST.sel St), K, Z, c0, a3, c1, G, rfl⟩)
      rintro g8 E W ⟨U, d0, hST, g2, g3, g4, g5, g6, f2⟩ f0
      exact cM (aG (aA (V (aB g6) (V (aP rfl rfl rfl) (V (aF rfl) (aD (aG ⟨g9, Nat.lt_succ_self _, g8, U, ((IntKind.i64.wrap (x + 1))), _, (hST.sel St), g2, g3, g4, g5, rfl, f2, f0⟩)))))))
    refine gI (gc (gc (li (aG (jy ?_)))))
    have hx := sj u; subst hx
    exact ir rfl ⟨_, _, _, rfl, (hST.bkM (Kr Sn)), (aW.refl _), Lo.refl, (ST.sub_hpx hST (eQ.mem (Kr Sn))), J, rfl, rfl, c6⟩
theorem iY (x : Value) (a0 : List Formula) (t : List (Nat × Obj)) (G : Int) (H : Int) (a3 : Int) (a5 : Value) (f4 : ((Formula × Formula)) → Option Int) (r : List Formula) (w : World) {Y : aY} (h0 : ie Y (t ++ []) w) (c0 : bX 113 aH 5 Y x a0 t) (d5 : nY Tryz.prog a5 Y (mO aH aH) (fun (r : Int) => (.int .i64 r)) f4) (hm : dY a0 G H a3 f4 = some r) :
    dO true Tryz.prog 472 [x, (.int .i64 G), (.int .i64 H), (.int .i64 a3), a5] w Y (t ++ []) (fun v L1 μ1 => ∃ (S1 : List (Nat × Obj)), v = (.tuple #[]) ∧ L1 = (S1 ++ []) ∧ bX 113 aH 5 μ1 x r S1) := by
  have hST := ST.startE (dd := true) h0
  unfold dY at hm
  refine cF 38 Tryz.func472 rfl (aC (aA (V (aF rfl) (aD (aG (mF (aU (gH (fun m E W => ∃ (D : List Formula) (y : List (Nat × Obj)) (c : Int) (Z : List (Nat × Obj)), ST true (keys (t ++ [])) w W Y (y ++ Z) ∧ E 0 = x ∧ E 1 = (.int .i64 G) ∧ E 2 = (.int .i64 H) ∧ E 3 = (.int .i64 a3) ∧ E 10 = (.int .i64 c) ∧ bX 113 aH 5 Y x D y ∧ dA a3 H G m D c = some r) bR ⟨a0, t, 0, _, (hST.sel St), rfl, rfl, rfl, rfl, rfl, c0, hm⟩ ?_))))))))
  rintro m E W ⟨D, y, c, Z, hST, u, I, J, a4, k, j, a⟩
  cases m with
  | zero => rw [dA] at a; cases a
  | succ c1 =>
    rw [dA] at a
    refine aC (aC (aA (V (aB k) (V (aB a4) (V (aP rfl rfl rfl) (aD (aG (CI a rfl (fun a8 a => ?_) (fun a8 a => ?_)))))))))
    · refine aT (aG (aC (aU ?_)))
      replace hST := hST.drew
      have hS0 := hST.has.sel Sn
      have hS1 := hST.has.sel (Kr Sn)
      refine mL 21 hS0 hS1 bO (cE 0 rfl (by kernel_rfl) (.inl rfl) rfl (by decide) (fun _ _ h => ⟨h.1, cW (by rfl) h.2⟩) ⟨hS0, fun _ => hS1⟩ (fun _ _ _ _ => aB u) (cE 1 rfl (by kernel_rfl) (.inl rfl) rfl (by decide) (fun _ _ h => ⟨h.1, cW (by rfl) h.2⟩) ⟨hS0, fun _ => hS1⟩ (fun _ _ _ _ => aB I) (cE 2 rfl (by kernel_rfl) (.inl rfl) rfl (by decide) (fun _ _ h => ⟨h.1, cW (by rfl) h.2⟩) ⟨hS0, fun _ => hS1⟩ (fun _ _ _ _ => aB k) (cE 3 rfl (by kernel_rfl) (.inl rfl) rfl (by decide) (fun _ _ h => ⟨h.1, cW (by rfl) h.2⟩) ⟨hS0, fun _ => hS1⟩ (fun _ _ _ _ => aP rfl rfl rfl) (cE 4 rfl (by kernel_rfl) (.inl rfl) rfl (by decide) (fun _ _ h => ⟨h.1, cW (by rfl) h.2⟩) ⟨hS0, fun _ => hS1⟩ (fun _ _ _ _ => aB u) (cE 5 rfl (by kernel_rfl) (.inl rfl) rfl (by decide) (fun _ _ h => ⟨h.1, cW (by rfl) h.2⟩) ⟨hS0, fun _ => hS1⟩ (fun _ _ _ _ => aB J) (cE 6 rfl (by kernel_rfl) (.inl rfl) rfl (by decide) (fun _ _ h => ⟨h.1, cW (by rfl) h.2⟩) ⟨hS0, fun _ => hS1⟩ (fun _ _ _ _ => aB k) (cE 7 rfl (by kernel_rfl) (.inl rfl) rfl (by decide) (fun _ _ h => ⟨h.1, cW (by rfl) h.2⟩) ⟨hS0, fun _ => hS1⟩ (fun _ _ _ _ => aP rfl rfl rfl) (cE 8 rfl (by kernel_rfl) (.inl rfl) rfl (by decide) (fun _ _ h => ⟨h.1, cW (by rfl) h.2⟩) ⟨hS0, fun _ => hS1⟩ (fun _ _ _ _ => aB u) (cE 9 rfl (by kernel_rfl) (.inl rfl) rfl (by decide) (fun _ _ h => ⟨h.1, cW (by rfl) h.2⟩) ⟨hS0, fun _ => hS1⟩ (fun _ _ _ _ => aB J) (cE 10 rfl (by kernel_rfl) (.inl rfl) rfl (by decide) (fun _ _ h => ⟨h.1, cW (by rfl) h.2⟩) ⟨hS0, fun _ => hS1⟩ (fun _ _ _ _ => aB k) (cE 11 rfl (by kernel_rfl) (.inl rfl) rfl (by decide) (fun _ _ h => ⟨h.1, cW (by rfl) h.2⟩) ⟨hS0, fun _ => hS1⟩ (fun _ _ _ _ => aP rfl rfl rfl) (bS a fun K T a => mA 12 rfl (by kernel_rfl) (.inl rfl) rfl (by decide) (fun _ _ h => ⟨h.1, cW (by rfl) h.2⟩) ⟨hS0, fun _ => hS1⟩ (cQ (i := (IntKind.i64.wrap (H + c))) aH.out Tryz.underlying111 Tryz.sizeOf113 rfl rfl j (bM T) (bJ T)) (fun d6 ⟨_, ⟨e0, rfl, N⟩, b1, c4⟩ => ?_))))))))))))))
      refine cE 13 rfl (by kernel_rfl) (.inl rfl) rfl (by decide) (fun _ _ h => ⟨h.1, cW (by rfl) h.2⟩) ⟨hS0, fun _ => hS1⟩ (fun l W hpd hs => have hS := (hs.2 (hpd.bar 21 [13] (by kernel_rfl) rfl)); aI rfl (bN (gD.hp _) (b1.mono (dZ (fun b o hq => hS.2 b o (Ml hq)))) Tryz.isAgg113 Tryz.sizeOf113)) (cE 14 rfl (by kernel_rfl) (.inl rfl) rfl (by decide) (fun _ _ h => ⟨h.1, cW (by rfl) h.2⟩) ⟨hS0, fun _ => hS1⟩ (fun _ _ _ _ => aB u) (cE 15 rfl (by kernel_rfl) (.inl rfl) rfl (by decide) (fun _ _ h => ⟨h.1, cW (by rfl) h.2⟩) ⟨hS0, fun _ => hS1⟩ (fun _ _ _ _ => aB I) (cE 16 rfl (by kernel_rfl) (.inl rfl) rfl (by decide) (fun _ _ h => ⟨h.1, cW (by rfl) h.2⟩) ⟨hS0, fun _ => hS1⟩ (fun _ _ _ _ => aB k) (cE 17 rfl (by kernel_rfl) (.inl rfl) rfl (by decide) (fun _ _ h => ⟨h.1, cW (by rfl) h.2⟩) ⟨hS0, fun _ => hS1⟩ (fun _ _ _ _ => aP rfl rfl rfl) (bS a fun g U a => mA 18 rfl (by kernel_rfl) (.inl rfl) rfl (by decide) (fun _ _ h => ⟨h.1, cW (by rfl) h.2⟩) ⟨hS0, fun _ => hS1⟩ (cQ (i := (IntKind.i64.wrap (G + c))) aH.out Tryz.underlying111 Tryz.sizeOf113 rfl rfl j (bM U) (bJ U)) (fun d7 ⟨_, ⟨e1, rfl, Q⟩, b2, c5⟩ => cE 19 rfl (by kernel_rfl) (.inl rfl) rfl (by decide) (fun _ _ h => ⟨h.1, cW (by rfl) h.2⟩) ⟨hS0, fun _ => hS1⟩ (fun l W hpd hs => have hS := (hs.2 (hpd.bar 21 [19] (by kernel_rfl) rfl)); aI rfl (bN (gD.hp _) (b2.mono (dZ (fun b o hq => hS.2 b o (Ml hq)))) Tryz.isAgg113 Tryz.sizeOf113)) (bS a fun e5 z a => mA 20 rfl (by kernel_rfl) (.inl rfl) rfl (by decide) (fun _ _ h => ⟨h.1, cW (by rfl) h.2⟩) ⟨hS0, fun _ => hS1⟩ (cQ (i := (IntKind.i64.wrap (G + c))) aH.out Tryz.underlying111 Tryz.sizeOf113 rfl rfl j (bM z) (bJ z)) (fun d8 ⟨_, ⟨e2, rfl, c8⟩, c6, a9⟩ => ?_))))))))
      obtain ⟨b3, b7, rfl⟩ := N.form
      refine XO 21 rfl (jC (x1 := K) aQ hST j rfl rfl (aH.mk ⟨(.slice b3 K.Kids.length b7), rfl, N⟩) a9 (bJ z) Tryz.sizeOf113 (fun d2 d1 hST M => ?_))
      have hS0 := hST.has.sel Sn
      refine ⟨⟨hS0, fun h => pB (by kernel_rfl) h⟩, (bS a fun e6 B a => mA 22 rfl (by kernel_rfl) (.inl rfl) rfl (by decide) (fun _ _ h => ⟨h.1, cW (by rfl) h.2⟩) ⟨hS0, fun h => pB (by kernel_rfl) h⟩ (cQ (i := (IntKind.i64.wrap (H + c))) aH.out Tryz.underlying111 Tryz.sizeOf113 rfl rfl M (bM B) (bJ B)) (fun d9 ⟨_, ⟨e3, rfl, c9⟩, c7, b0⟩ => ?_))⟩
      obtain ⟨b4, b9, rfl⟩ := Q.form
      refine XO 23 rfl (jC (x1 := ((⟨g.Op, g.K, g.Role, g.Kids⟩ : Formula))) aQ hST M rfl rfl (aH.mk ⟨(.slice b4 g.Kids.length b9), rfl, Q⟩) b0 (bJ B) Tryz.sizeOf113 (fun d3 b5 hST a7 => ?_))
      have hS0 := hST.has.sel Sn
      exact ⟨⟨hS0, fun h => pB (by kernel_rfl) h⟩, (dC (by kernel_rfl) (cM (aG (aA (V (aB k) (V (aP rfl rfl rfl) (V (aF rfl) (aD (aG ⟨c1, Nat.lt_succ_self _, ((((D.set (Int.toNat ((IntKind.i64.wrap (G + c)))) K)).set (Int.toNat ((IntKind.i64.wrap (H + c)))) ((⟨g.Op, g.K, g.Role, g.Kids⟩ : Formula)))), b5, ((IntKind.i64.wrap (c + 1))), _, (hST.sel St), u, I, J, a4, rfl, a7, a⟩)))))))))⟩
    refine gI (gc (gc (li (aG (jy ?_)))))
    have hx := sj a; subst hx
    exact ir rfl ⟨_, _, _, rfl, (hST.bkM (Kr Sn)), (aW.refl _), Lo.refl, (ST.sub_hpx hST (eQ.mem (Kr Sn))), y, rfl, rfl, j⟩
theorem oR (k : Value) (a0 : List Formula) (y : List (Nat × Obj)) (a1 : Int) (D : Int) (a3 : Int) (B : Value) (U : ((Formula × Formula)) → Option Int) (r : List Formula) (w : World) {T : aY} (h0 : ie T (y ++ []) w) (c5 : bX 113 aH 5 T k a0 y) (Q : nY Tryz.prog B T (mO aH aH) (fun (r : Int) => (.int .i64 r)) U) (hm : dU a0 a1 D a3 U = some r) :
    dO true Tryz.prog 470 [k, (.int .i64 a1), (.int .i64 D), (.int .i64 a3), B] w T (y ++ []) (fun v L1 μ1 => ∃ (S1 : List (Nat × Obj)), v = (.tuple #[]) ∧ L1 = (S1 ++ []) ∧ bX 113 aH 5 μ1 k r S1) := by
  have hST := ST.startE (dd := true) h0
  unfold dU at hm
  refine cF 58 Tryz.func470 rfl (aC (aA (V (aB rfl) (V (aB rfl) (V (aP rfl rfl rfl) (V (aF rfl) (aD (aG (aC (aA (V (aB rfl) (V (aB rfl) (V (aP rfl rfl rfl) (V (aF rfl) ?_))))))))))))))
  refine aD (aG (aC (aU (gH (fun m E W => ∃ (z : List Formula) (x : List (Nat × Obj)) (c : Int) (t : Int) (I : aY) (Y : List (Nat × Obj)), aW T I ∧ Lo (keys (y ++ [])) w T I ∧ ST true (keys (y ++ [])) w W I (x ++ Y) ∧ E 0 = k ∧ E 2 = (.int .i64 D) ∧ E 4 = B ∧ E 10 = (.int .i64 c) ∧ E 11 = (.int .i64 t) ∧ bX 113 aH 5 I k z x ∧ dL D U m z c t = some r) bR ⟨a0, y, ((IntKind.i64.wrap (D - a1))), ((IntKind.i64.wrap (a3 - D))), T, _, (aW.refl _), Lo.refl, (hST.sel St), rfl, rfl, rfl, rfl, rfl, c5, hm⟩ ?_))))
  rintro m E W ⟨z, x, c, t, I, Y, i, hl187, hST, G, j, H, g, u, J, a⟩
  cases m with
  | zero => rw [dL] at a; cases a
  | succ a6 =>
    rw [dL] at a
    refine aC (aC (aA (V (aB g) (V (aB u) (V (aP rfl rfl rfl) (aD (aG (CI a rfl (fun b0 a => ?_) (fun b0 a => ?_)))))))))
    · refine aT (aG (aU (aC (aA (V (aB g) (V (aB u) (V (aP rfl rfl rfl) (aD (aG (CI a rfl (fun b1 a => ?_) (fun b1 a => ?_)))))))))))
      · refine aC (aA (V (aB G) (V (aB j) (V (aB g) (V (aP rfl rfl rfl) (V (aB j) (V (aB u) (V (aB H) (bS a fun c6 b2 a => ?_)))))))))
        have hsz := hST.size
        refine VE (je hST (Cr Qz Cn) Tryz.call472 (fun hH hN hsb hmm => (iY k z x ((IntKind.i64.wrap (D - c))) D t B U _ _ ⟨hH, hN, hsb⟩ J (Q.mono i) b2)) (fun d5 e0 c8 d2 hST Z hl200 a7 => ?_))
        obtain ⟨b9, K, rfl, b5⟩ := a7
        replace K := K.symm; subst K
        replace hST := hST.perm (Tr Tn)
        exact aD (aG (aA (V (aB g) (V (aB u) (V (aP rfl rfl rfl) (V (aF rfl) (aD (cM (aG ⟨a6, Nat.lt_succ_self _, c6, b9, ((IntKind.i64.wrap (c - t))), t, c8, _, (i.trans Z), (hl187.trans hl200), (hST.sel St), G, j, H, rfl, u, b5, a⟩)))))))))
      refine aC (aA (V (aB G) (V (aB j) (V (aB g) (V (aP rfl rfl rfl) (V (aB j) (V (aB u) (V (aP rfl rfl rfl) (V (aB g) (V (aP rfl rfl rfl) (V (aB g) (V (aB H) (bS a fun c7 b3 a => ?_)))))))))))))
      have hsz := hST.size
      refine VE (je hST (Cr Qz Cn) Tryz.call472 (fun hH hN hsb hmm => (iY k z x ((IntKind.i64.wrap (D - c))) ((IntKind.i64.wrap (((IntKind.i64.wrap (D + t))) - c))) c B U _ _ ⟨hH, hN, hsb⟩ J (Q.mono i) b3)) (fun d6 e1 c9 d3 hST a4 hl212 a8 => ?_))
      obtain ⟨c0, M, rfl, b6⟩ := a8
      replace M := M.symm; subst M
      replace hST := hST.perm (Tr Tn)
      exact aD (aG (aA (V (aB u) (V (aB g) (V (aP rfl rfl rfl) (V (aF rfl) (aD (cM (aG ⟨a6, Nat.lt_succ_self _, c7, c0, c, ((IntKind.i64.wrap (t - c))), c9, _, (i.trans a4), (hl187.trans hl212), (hST.sel St), G, j, H, g, rfl, b6, a⟩)))))))))
    refine gI (gc (gc (li (aG (aA (V (aB G) (V (aB j) (V (aB g) (V (aP rfl rfl rfl) (V (aB j) (V (aB g) (V (aB H) (bS a fun d9 b4 a => ?_)))))))))))))
    have hsz := hST.size
    refine VE (je hST (Cr Qz Cn) Tryz.call472 (fun hH hN hsb hmm => (iY k z x ((IntKind.i64.wrap (D - c))) D c B U _ _ ⟨hH, hN, hsb⟩ J (Q.mono i) b4)) (fun d7 e2 e4 d4 hST a5 hl224 a9 => ?_))
    obtain ⟨c1, N, rfl, b7⟩ := a9
    replace N := N.symm; subst N
    replace hST := hST.perm (Tr Tn)
    refine aD (jy ?_)
    have hx := sj a; subst hx
    exact ir rfl ⟨_, _, _, rfl, (hST.bkM (Kr Sn)), (i.trans a5), (hl187.trans hl224), (ST.sub_hpx hST (eQ.mem (Kr Sn))), c1, rfl, rfl, b7⟩
set_option maxHeartbeats 1000000 in
theorem nr (t4 : (List Formula) → Int → Int → Int → (((Formula × Formula)) → Option Int) → Option (List Formula)) (s4 : ∀ (t : Value) (a0 : List Formula) (c : List (Nat × Obj)) (z : Int) (M : Int) (B : Int) (D : Value) (f4 : ((Formula × Formula)) → Option Int) (r : List Formula) (w : World) {U : aY} (h0 : ie U (c ++ []) w) (a5 : bX 113 aH 5 U t a0 c) (c6 : nY Tryz.prog D U (mO aH aH) (fun (r : Int) => (.int .i64 r)) f4), t4 a0 z M B f4 = some r → dO false Tryz.prog 468 [t, (.int .i64 z), (.int .i64 M), (.int .i64 B), D] w U (c ++ []) (fun v L1 μ1 => ∃ (S1 : List (Nat × Obj)), v = (.tuple #[]) ∧ L1 = (S1 ++ []) ∧ bX 113 aH 5 μ1 t r S1)) (t : Value) (a0 : List Formula) (c : List (Nat × Obj)) (z : Int) (M : Int) (B : Int) (D : Value) (f4 : ((Formula × Formula)) → Option Int) (r : List Formula) (w : World) {U : aY} (h0 : ie U (c ++ []) w) (a5 : bX 113 aH 5 U t a0 c) (c6 : nY Tryz.prog D U (mO aH aH) (fun (r : Int) => (.int .i64 r)) f4) (hm : gm t4 a0 z M B f4 = some r) :
    dO false Tryz.prog 468 [t, (.int .i64 z), (.int .i64 M), (.int .i64 B), D] w U (c ++ []) (fun v L1 μ1 => ∃ (S1 : List (Nat × Obj)), v = (.tuple #[]) ∧ L1 = (S1 ++ []) ∧ bX 113 aH 5 μ1 t r S1) := by
  have hST := ST.startE (dd := false) h0
  unfold gm at hm
  refine cF 220 Tryz.func468 rfl (aC (aC (aA (V (aB rfl) (V (aB rfl) (V (aP rfl rfl rfl) (V (aP rfl rfl rfl) (aD (aG (CI hm rfl (fun ac hm => ?_) (fun ac hm => ?_)))))))))))
  · refine aC (aA (V (aB rfl) (V (aF rfl) (aD (aG (aC (aA (V (aB rfl) (V (aF rfl) (aD (aG (aC (aU (gH (fun m E W => ∃ (T : Int) (a9 : Int) (o1 : List (Nat × Obj)), ST false (keys (c ++ [])) w W U (c ++ o1) ∧ E 0 = t ∧ E 1 = (.int .i64 z) ∧ E 4 = D ∧ E 10 = (.int .i64 T) ∧ E 11 = (.int .i64 a9) ∧ bY a0 z f4 m T a9 = some r) bR ⟨M, B, _, (hST.sel St), rfl, rfl, rfl, rfl, rfl, hm⟩ ?_))))))))))))))
    rintro m E W ⟨T, a9, o1, hST, e4, h6, k1, h7, k2, y⟩
    cases m with
    | zero => rw [bY] at y; cases y
    | succ t3 =>
      rw [bY] at y
      refine aC (aC (aA (V (aB h7) (V (aB k2) (V (aP rfl rfl rfl) (aD (aG (CI y rfl (fun w7 y => ?_) (fun w7 y => ?_)))))))))
      · refine aT (aG (aU (aC (aA (V (aB h7) (V (aB k2) (V (aP rfl rfl rfl) (V (kU (k' := .i64) (a := (IntKind.i64.wrap (T + a9))) Tryz.underlying3 Tryz.underlying353 rfl) (V (vH (a := ((IntKind.u64.wrap ((IntKind.i64.wrap (T + a9)))))) (b := 1) rfl rfl (by decide)) (V (kU (k' := .u64) (a := (Int.fdiv ((IntKind.u64.wrap ((IntKind.i64.wrap (T + a9))))) (2 ^ min (Int.toNat 1) (IntKind.bits .u64)))) Tryz.underlying353 Tryz.underlying3 rfl) (V (aF rfl) (aD (aG (aC ?_))))))))))))))
        replace hST := hST.drew
        have hS0 := hST.has.sel (Kr Sn)
        refine cU hS0 bO (X 0 rfl hS0 (aB k1) (X 1 rfl hS0 (aB e4) (X 2 rfl hS0 (aB rfl) (bS y fun z8 m9 y => XQ 3 rfl hS0 (cQ (i := (IntKind.i64.wrap ((Int.fdiv ((IntKind.u64.wrap ((IntKind.i64.wrap (T + a9))))) (2 ^ min (Int.toNat 1) (IntKind.bits .u64)))))) aH.out Tryz.underlying111 Tryz.sizeOf113 rfl rfl a5 (bM m9) (bJ m9)) (fun db ⟨_, ⟨z5, rfl, x5⟩, x2, bk⟩ => XH 4 rfl hS0 (fun _ hS => aI rfl (bN (gD.hp _) (x2.mono (dZ (fun b o hq => hS.2 b o (Ml hq)))) Tryz.isAgg113 Tryz.sizeOf113)) (X 5 rfl hS0 (aB e4) (X 6 rfl hS0 (aB h6) (bS y fun z9 n0 y => XQ 7 rfl hS0 (cQ (i := z) aH.out Tryz.underlying111 Tryz.sizeOf113 rfl rfl a5 (bM n0) (bJ n0)) (fun dc ⟨_, ⟨z6, rfl, x6⟩, x3, bl⟩ => XH 8 rfl hS0 (fun _ hS => aI rfl (bN (gD.hp _) (x3.mono (dZ (fun b o hq => hS.2 b o (Ml hq)))) Tryz.isAgg113 Tryz.sizeOf113)) (bS y fun de x4 y => XE 9 rfl (oT ((z8, z9)) hST c6 (aW.refl _) (mO.mk aQ aQ (aH.mk ⟨z5, rfl, x5⟩) (aH.mk ⟨z6, rfl, x6⟩) hST.sub_hp) rfl (no rfl rfl) x4 (fun cz hST => ?_))))))))))))
        have hS0 := hST.has.sel (Kr Sn)
        refine ⟨hS0, (X 10 rfl hS0 (aP rfl rfl rfl) (dC (by kernel_rfl) (aG (CI y rfl (fun w8 y => ?_) (fun w8 y => ?_)))))⟩
        · exact aA (V (aB rfl) (V (aP rfl rfl rfl) (V (aF rfl) (aD (cM (aG ⟨t3, Nat.lt_succ_self _, ((IntKind.i64.wrap (((IntKind.i64.wrap ((Int.fdiv ((IntKind.u64.wrap ((IntKind.i64.wrap (T + a9))))) (2 ^ min (Int.toNat 1) (IntKind.bits .u64)))))) + 1))), a9, _, (hST.sel St), e4, h6, k1, rfl, k2, y⟩))))))
        exact aA (V (aB rfl) (V (aF rfl) (aD (cM (aG ⟨t3, Nat.lt_succ_self _, T, ((IntKind.i64.wrap ((Int.fdiv ((IntKind.u64.wrap ((IntKind.i64.wrap (T + a9))))) (2 ^ min (Int.toNat 1) (IntKind.bits .u64)))))), _, (hST.sel St), e4, h6, k1, h7, rfl, y⟩)))))
      refine gI (gc (gc (li (aG (aC (aC (aA (V (aB h6) (V (aF rfl) (aD (aG (CJ y (fun k3 E W => ∃ (f7 : List (Nat × Obj)) (o2 : List (Nat × Obj)), ST false (keys (c ++ [])) w W U (f7 ++ o2) ∧ bX 113 aH 5 U t k3 f7) (fun k3 x0 => ?_) ?_))))))))))))
      · refine aU (gH (fun m E W => ∃ (h8 : List Formula) (f8 : List (Nat × Obj)) (b0 : Int) (k4 : List (Nat × Obj)), ST false (keys (c ++ [])) w W U (f8 ++ k4) ∧ E 0 = t ∧ E 10 = (.int .i64 T) ∧ E 13 = (.int .i64 b0) ∧ bX 113 aH 5 U t h8 f8 ∧ dE T m h8 b0 = some k3) bR ⟨a0, c, z, _, (hST.sel St), e4, h7, rfl, a5, x0⟩ ?_)
        rintro m E W ⟨h8, f8, b0, k4, hST, c7, l5, c0, d1, u⟩
        cases m with
        | zero => rw [dE] at u; cases u
        | succ y0 =>
          rw [dE] at u
          refine aC (aC (aA (V (aB c0) (V (aB l5) (V (aP rfl rfl rfl) (V (aP rfl rfl rfl) (aD (aG (CI u rfl (fun o9 u => ?_) (fun o9 u => ?_))))))))))
          · refine aT (aG (aC (aU ?_)))
            replace hST := hST.drew
            have hS0 := hST.has.sel Sn
            have hS1 := hST.has.sel (Kr Sn)
            refine mL 15 hS0 hS1 bO (cE 0 rfl (by kernel_rfl) (.inl rfl) rfl (by decide) (fun _ _ h => ⟨h.1, cW (by rfl) h.2⟩) ⟨hS0, fun _ => hS1⟩ (fun _ _ _ _ => aB c7) (cE 1 rfl (by kernel_rfl) (.inl rfl) rfl (by decide) (fun _ _ h => ⟨h.1, cW (by rfl) h.2⟩) ⟨hS0, fun _ => hS1⟩ (fun _ _ _ _ => aB c0) (cE 2 rfl (by kernel_rfl) (.inl rfl) rfl (by decide) (fun _ _ h => ⟨h.1, cW (by rfl) h.2⟩) ⟨hS0, fun _ => hS1⟩ (fun _ _ _ _ => aB c7) (cE 3 rfl (by kernel_rfl) (.inl rfl) rfl (by decide) (fun _ _ h => ⟨h.1, cW (by rfl) h.2⟩) ⟨hS0, fun _ => hS1⟩ (fun _ _ _ _ => aB c0) (cE 4 rfl (by kernel_rfl) (.inl rfl) rfl (by decide) (fun _ _ h => ⟨h.1, cW (by rfl) h.2⟩) ⟨hS0, fun _ => hS1⟩ (fun _ _ _ _ => aP rfl rfl rfl) (cE 5 rfl (by kernel_rfl) (.inl rfl) rfl (by decide) (fun _ _ h => ⟨h.1, cW (by rfl) h.2⟩) ⟨hS0, fun _ => hS1⟩ (fun _ _ _ _ => aB c7) (cE 6 rfl (by kernel_rfl) (.inl rfl) rfl (by decide) (fun _ _ h => ⟨h.1, cW (by rfl) h.2⟩) ⟨hS0, fun _ => hS1⟩ (fun _ _ _ _ => aB c0) (cE 7 rfl (by kernel_rfl) (.inl rfl) rfl (by decide) (fun _ _ h => ⟨h.1, cW (by rfl) h.2⟩) ⟨hS0, fun _ => hS1⟩ (fun _ _ _ _ => aP rfl rfl rfl) (bS u fun i1 j3 u => mA 8 rfl (by kernel_rfl) (.inl rfl) rfl (by decide) (fun _ _ h => ⟨h.1, cW (by rfl) h.2⟩) ⟨hS0, fun _ => hS1⟩ (cQ (i := (IntKind.i64.wrap (b0 + 1))) aH.out Tryz.underlying111 Tryz.sizeOf113 rfl rfl d1 (bM j3) (bJ j3)) (fun bo ⟨_, ⟨cg, rfl, i5⟩, r1, ad⟩ => cE 9 rfl (by kernel_rfl) (.inl rfl) rfl (by decide) (fun _ _ h => ⟨h.1, cW (by rfl) h.2⟩) ⟨hS0, fun _ => hS1⟩ (fun l W hpd hs => have hS := (hs.2 (hpd.bar 15 [9] (by kernel_rfl) rfl)); aI rfl (bN (gD.hp _) (r1.mono (dZ (fun b o hq => hS.2 b o (Ml hq)))) Tryz.isAgg113 Tryz.sizeOf113)) (cE 10 rfl (by kernel_rfl) (.inl rfl) rfl (by decide) (fun _ _ h => ⟨h.1, cW (by rfl) h.2⟩) ⟨hS0, fun _ => hS1⟩ (fun _ _ _ _ => aB c7) (cE 11 rfl (by kernel_rfl) (.inl rfl) rfl (by decide) (fun _ _ h => ⟨h.1, cW (by rfl) h.2⟩) ⟨hS0, fun _ => hS1⟩ (fun _ _ _ _ => aB c0) (bS u fun Y j4 u => ?_)))))))))))))
            refine mA 12 rfl (by kernel_rfl) (.inl rfl) rfl (by decide) (fun _ _ h => ⟨h.1, cW (by rfl) h.2⟩) ⟨hS0, fun _ => hS1⟩ (cQ (i := b0) aH.out Tryz.underlying111 Tryz.sizeOf113 rfl rfl d1 (bM j4) (bJ j4)) (fun bp ⟨_, ⟨ch, rfl, i6⟩, r2, ae⟩ => cE 13 rfl (by kernel_rfl) (.inl rfl) rfl (by decide) (fun _ _ h => ⟨h.1, cW (by rfl) h.2⟩) ⟨hS0, fun _ => hS1⟩ (fun l W hpd hs => have hS := (hs.2 (hpd.bar 15 [13] (by kernel_rfl) rfl)); aI rfl (bN (gD.hp _) (r2.mono (dZ (fun b o hq => hS.2 b o (Ml hq)))) Tryz.isAgg113 Tryz.sizeOf113)) (bS u fun cr e9 u => mA 14 rfl (by kernel_rfl) (.inl rfl) rfl (by decide) (fun _ _ h => ⟨h.1, cW (by rfl) h.2⟩) ⟨hS0, fun _ => hS1⟩ (cQ (i := b0) aH.out Tryz.underlying111 Tryz.sizeOf113 rfl rfl d1 (bM e9) (bJ e9)) (fun bq ⟨_, ⟨ci, rfl, ap⟩, al, q0⟩ => ?_)))
            obtain ⟨t5, u4, rfl⟩ := i5.form
            refine XO 15 rfl (jC (x1 := i1) aQ hST d1 rfl rfl (aH.mk ⟨(.slice t5 i1.Kids.length u4), rfl, i5⟩) q0 (bJ e9) Tryz.sizeOf113 (fun bb az hST i3 => ?_))
            have hS0 := hST.has.sel Sn
            refine ⟨⟨hS0, fun h => pB (by kernel_rfl) h⟩, (bS u fun cs f0 u => mA 16 rfl (by kernel_rfl) (.inl rfl) rfl (by decide) (fun _ _ h => ⟨h.1, cW (by rfl) h.2⟩) ⟨hS0, fun h => pB (by kernel_rfl) h⟩ (cQ (i := (IntKind.i64.wrap (b0 + 1))) aH.out Tryz.underlying111 Tryz.sizeOf113 rfl rfl i3 (bM f0) (bJ f0)) (fun br ⟨_, ⟨cj, rfl, aq⟩, am, q1⟩ => ?_))⟩
            obtain ⟨t6, u5, rfl⟩ := i6.form
            refine XO 17 rfl (jC (x1 := ((⟨Y.Op, Y.K, Y.Role, Y.Kids⟩ : Formula))) aQ hST i3 rfl rfl (aH.mk ⟨(.slice t6 Y.Kids.length u5), rfl, i6⟩) q1 (bJ f0) Tryz.sizeOf113 (fun bc t9 hST o7 => ?_))
            have hS0 := hST.has.sel Sn
            exact ⟨⟨hS0, fun h => pB (by kernel_rfl) h⟩, (dC (by kernel_rfl) (cM (aG (aA (V (aB c0) (V (aP rfl rfl rfl) (V (aF rfl) (aD (aG ⟨y0, Nat.lt_succ_self _, ((((h8.set (Int.toNat b0) i1)).set (Int.toNat ((IntKind.i64.wrap (b0 + 1)))) ((⟨Y.Op, Y.K, Y.Role, Y.Kids⟩ : Formula)))), t9, ((IntKind.i64.wrap (b0 + 1))), _, (hST.sel St), c7, l5, rfl, o7, u⟩)))))))))⟩
          refine gI (gc (gc (li (aG ?_))))
          have hx := sj u; subst hx
          exact ⟨f8, _, (hST.sel St), d1⟩
      rintro da E W ⟨f7, o2, hST, x7⟩ w9
      refine aS (cR ?_)
      have hx := sj w9; subst hx
      exact ir rfl ⟨_, _, _, rfl, (hST.bkM (Kr Sn)), (aW.refl _), Lo.refl, (ST.sub_hpx hST (eQ.mem (Kr Sn))), f7, rfl, rfl, x7⟩
  refine aT (aG (aC (aC (aA (V (aB rfl) (V (aB rfl) (V (aP rfl rfl rfl) (V (aP rfl rfl rfl) (aD (aG (CI hm rfl (fun p0 hm => ?_) (fun p0 hm => ?_))))))))))))
  · refine aC (aA (V (aB rfl) (V (aF rfl) (aD (aG (aC (aA (V (aB rfl) (V (aF rfl) (aD (aG (aC (aU (gH (fun m E W => ∃ (G : Int) (N : Int) (k5 : List (Nat × Obj)), ST false (keys (c ++ [])) w W U (c ++ k5) ∧ E 0 = t ∧ E 2 = (.int .i64 M) ∧ E 4 = D ∧ E 14 = (.int .i64 G) ∧ E 15 = (.int .i64 N) ∧ bZ a0 M f4 m G N = some r) bR ⟨z, M, _, (hST.sel St), rfl, rfl, rfl, rfl, rfl, hm⟩ ?_))))))))))))))
    rintro m E W ⟨G, N, k5, hST, c8, d5, f9, d6, g0, j⟩
    cases m with
    | zero => rw [bZ] at j; cases j
    | succ n1 =>
      rw [bZ] at j
      refine aC (aC (aA (V (aB d6) (V (aB g0) (V (aP rfl rfl rfl) (aD (aG (CI j rfl (fun p1 j => ?_) (fun p1 j => ?_)))))))))
      · refine aT (aG (aU (aC (aA (V (aB d6) (V (aB g0) (V (aP rfl rfl rfl) (V (kU (k' := .i64) (a := (IntKind.i64.wrap (G + N))) Tryz.underlying3 Tryz.underlying353 rfl) (V (vH (a := ((IntKind.u64.wrap ((IntKind.i64.wrap (G + N)))))) (b := 1) rfl rfl (by decide)) (V (kU (k' := .u64) (a := (Int.fdiv ((IntKind.u64.wrap ((IntKind.i64.wrap (G + N))))) (2 ^ min (Int.toNat 1) (IntKind.bits .u64)))) Tryz.underlying353 Tryz.underlying3 rfl) (V (aF rfl) (aD (aG (aC ?_))))))))))))))
        replace hST := hST.drew
        have hS0 := hST.has.sel (Kr Sn)
        refine cU hS0 bO (X 0 rfl hS0 (aB f9) (X 1 rfl hS0 (aB c8) (X 2 rfl hS0 (aB d5) (bS j fun y6 j5 j => XQ 3 rfl hS0 (cQ (i := M) aH.out Tryz.underlying111 Tryz.sizeOf113 rfl rfl a5 (bM j5) (bJ j5)) (fun bs ⟨_, ⟨y2, rfl, s5⟩, r3, af⟩ => XH 4 rfl hS0 (fun _ hS => aI rfl (bN (gD.hp _) (r3.mono (dZ (fun b o hq => hS.2 b o (Ml hq)))) Tryz.isAgg113 Tryz.sizeOf113)) (X 5 rfl hS0 (aB c8) (X 6 rfl hS0 (aB rfl) (bS j fun y7 j6 j => XQ 7 rfl hS0 (cQ (i := (IntKind.i64.wrap ((Int.fdiv ((IntKind.u64.wrap ((IntKind.i64.wrap (G + N))))) (2 ^ min (Int.toNat 1) (IntKind.bits .u64)))))) aH.out Tryz.underlying111 Tryz.sizeOf113 rfl rfl a5 (bM j6) (bJ j6)) (fun bt ⟨_, ⟨y3, rfl, s6⟩, r4, ag⟩ => XH 8 rfl hS0 (fun _ hS => aI rfl (bN (gD.hp _) (r4.mono (dZ (fun b o hq => hS.2 b o (Ml hq)))) Tryz.isAgg113 Tryz.sizeOf113)) (bS j fun cb r9 j => XE 9 rfl (oT ((y6, y7)) hST c6 (aW.refl _) (mO.mk aQ aQ (aH.mk ⟨y2, rfl, s5⟩) (aH.mk ⟨y3, rfl, s6⟩) hST.sub_hp) rfl (no rfl rfl) r9 (fun bd hST => ?_))))))))))))
        have hS0 := hST.has.sel (Kr Sn)
        refine ⟨hS0, (X 10 rfl hS0 (aP rfl rfl rfl) (X 11 rfl hS0 (iS rfl) (dC (by kernel_rfl) (aG (CI j rfl (fun p2 j => ?_) (fun p2 j => ?_))))))⟩
        · exact aA (V (aB rfl) (V (aP rfl rfl rfl) (V (aF rfl) (aD (cM (aG ⟨n1, Nat.lt_succ_self _, ((IntKind.i64.wrap (((IntKind.i64.wrap ((Int.fdiv ((IntKind.u64.wrap ((IntKind.i64.wrap (G + N))))) (2 ^ min (Int.toNat 1) (IntKind.bits .u64)))))) + 1))), N, _, (hST.sel St), c8, d5, f9, rfl, g0, j⟩))))))
        exact aA (V (aB rfl) (V (aF rfl) (aD (cM (aG ⟨n1, Nat.lt_succ_self _, G, ((IntKind.i64.wrap ((Int.fdiv ((IntKind.u64.wrap ((IntKind.i64.wrap (G + N))))) (2 ^ min (Int.toNat 1) (IntKind.bits .u64)))))), _, (hST.sel St), c8, d5, f9, d6, rfl, j⟩)))))
      refine gI (gc (gc (li (aG (aC (aC (aA (V (aB d5) (V (aF rfl) (aD (aG (CJ j (fun h9 E W => ∃ (d3 : List (Nat × Obj)) (k6 : List (Nat × Obj)), ST false (keys (c ++ [])) w W U (d3 ++ k6) ∧ bX 113 aH 5 U t h9 d3) (fun h9 q5 => ?_) ?_))))))))))))
      · refine aU (gH (fun m E W => ∃ (e2 : List Formula) (d4 : List (Nat × Obj)) (Q : Int) (k7 : List (Nat × Obj)), ST false (keys (c ++ [])) w W U (d4 ++ k7) ∧ E 0 = t ∧ E 14 = (.int .i64 G) ∧ E 17 = (.int .i64 Q) ∧ bX 113 aH 5 U t e2 d4 ∧ dD G m e2 Q = some h9) bR ⟨a0, c, M, _, (hST.sel St), c8, d6, rfl, a5, q5⟩ ?_)
        rintro m E W ⟨e2, d4, Q, k7, hST, c9, l6, c1, b6, x⟩
        cases m with
        | zero => rw [dD] at x; cases x
        | succ y1 =>
          rw [dD] at x
          refine aC (aC (aA (V (aB c1) (V (aB l6) (V (aP rfl rfl rfl) (aD (aG (CI x rfl (fun p3 x => ?_) (fun p3 x => ?_)))))))))
          · refine aT (aG (aC (aU ?_)))
            replace hST := hST.drew
            have hS0 := hST.has.sel Sn
            have hS1 := hST.has.sel (Kr Sn)
            refine mL 15 hS0 hS1 bO (cE 0 rfl (by kernel_rfl) (.inl rfl) rfl (by decide) (fun _ _ h => ⟨h.1, cW (by rfl) h.2⟩) ⟨hS0, fun _ => hS1⟩ (fun _ _ _ _ => aB c9) (cE 1 rfl (by kernel_rfl) (.inl rfl) rfl (by decide) (fun _ _ h => ⟨h.1, cW (by rfl) h.2⟩) ⟨hS0, fun _ => hS1⟩ (fun _ _ _ _ => aB c1) (cE 2 rfl (by kernel_rfl) (.inl rfl) rfl (by decide) (fun _ _ h => ⟨h.1, cW (by rfl) h.2⟩) ⟨hS0, fun _ => hS1⟩ (fun _ _ _ _ => aB c9) (cE 3 rfl (by kernel_rfl) (.inl rfl) rfl (by decide) (fun _ _ h => ⟨h.1, cW (by rfl) h.2⟩) ⟨hS0, fun _ => hS1⟩ (fun _ _ _ _ => aB c1) (cE 4 rfl (by kernel_rfl) (.inl rfl) rfl (by decide) (fun _ _ h => ⟨h.1, cW (by rfl) h.2⟩) ⟨hS0, fun _ => hS1⟩ (fun _ _ _ _ => aP rfl rfl rfl) (cE 5 rfl (by kernel_rfl) (.inl rfl) rfl (by decide) (fun _ _ h => ⟨h.1, cW (by rfl) h.2⟩) ⟨hS0, fun _ => hS1⟩ (fun _ _ _ _ => aB c9) (cE 6 rfl (by kernel_rfl) (.inl rfl) rfl (by decide) (fun _ _ h => ⟨h.1, cW (by rfl) h.2⟩) ⟨hS0, fun _ => hS1⟩ (fun _ _ _ _ => aB c1) (cE 7 rfl (by kernel_rfl) (.inl rfl) rfl (by decide) (fun _ _ h => ⟨h.1, cW (by rfl) h.2⟩) ⟨hS0, fun _ => hS1⟩ (fun _ _ _ _ => aP rfl rfl rfl) (bS x fun i2 j7 x => mA 8 rfl (by kernel_rfl) (.inl rfl) rfl (by decide) (fun _ _ h => ⟨h.1, cW (by rfl) h.2⟩) ⟨hS0, fun _ => hS1⟩ (cQ (i := (IntKind.i64.wrap (Q - 1))) aH.out Tryz.underlying111 Tryz.sizeOf113 rfl rfl b6 (bM j7) (bJ j7)) (fun bu ⟨_, ⟨ck, rfl, i7⟩, r5, ah⟩ => cE 9 rfl (by kernel_rfl) (.inl rfl) rfl (by decide) (fun _ _ h => ⟨h.1, cW (by rfl) h.2⟩) ⟨hS0, fun _ => hS1⟩ (fun l W hpd hs => have hS := (hs.2 (hpd.bar 15 [9] (by kernel_rfl) rfl)); aI rfl (bN (gD.hp _) (r5.mono (dZ (fun b o hq => hS.2 b o (Ml hq)))) Tryz.isAgg113 Tryz.sizeOf113)) (cE 10 rfl (by kernel_rfl) (.inl rfl) rfl (by decide) (fun _ _ h => ⟨h.1, cW (by rfl) h.2⟩) ⟨hS0, fun _ => hS1⟩ (fun _ _ _ _ => aB c9) (cE 11 rfl (by kernel_rfl) (.inl rfl) rfl (by decide) (fun _ _ h => ⟨h.1, cW (by rfl) h.2⟩) ⟨hS0, fun _ => hS1⟩ (fun _ _ _ _ => aB c1) (bS x fun Z j8 x => ?_)))))))))))))
            refine mA 12 rfl (by kernel_rfl) (.inl rfl) rfl (by decide) (fun _ _ h => ⟨h.1, cW (by rfl) h.2⟩) ⟨hS0, fun _ => hS1⟩ (cQ (i := Q) aH.out Tryz.underlying111 Tryz.sizeOf113 rfl rfl b6 (bM j8) (bJ j8)) (fun bv ⟨_, ⟨cl, rfl, i8⟩, r6, ai⟩ => cE 13 rfl (by kernel_rfl) (.inl rfl) rfl (by decide) (fun _ _ h => ⟨h.1, cW (by rfl) h.2⟩) ⟨hS0, fun _ => hS1⟩ (fun l W hpd hs => have hS := (hs.2 (hpd.bar 15 [13] (by kernel_rfl) rfl)); aI rfl (bN (gD.hp _) (r6.mono (dZ (fun b o hq => hS.2 b o (Ml hq)))) Tryz.isAgg113 Tryz.sizeOf113)) (bS x fun ct f1 x => mA 14 rfl (by kernel_rfl) (.inl rfl) rfl (by decide) (fun _ _ h => ⟨h.1, cW (by rfl) h.2⟩) ⟨hS0, fun _ => hS1⟩ (cQ (i := Q) aH.out Tryz.underlying111 Tryz.sizeOf113 rfl rfl b6 (bM f1) (bJ f1)) (fun bw ⟨_, ⟨cm, rfl, ar⟩, an, q2⟩ => ?_)))
            obtain ⟨t7, u6, rfl⟩ := i7.form
            refine XO 15 rfl (jC (x1 := i2) aQ hST b6 rfl rfl (aH.mk ⟨(.slice t7 i2.Kids.length u6), rfl, i7⟩) q2 (bJ f1) Tryz.sizeOf113 (fun be ba hST i4 => ?_))
            have hS0 := hST.has.sel Sn
            refine ⟨⟨hS0, fun h => pB (by kernel_rfl) h⟩, (bS x fun cu f2 x => mA 16 rfl (by kernel_rfl) (.inl rfl) rfl (by decide) (fun _ _ h => ⟨h.1, cW (by rfl) h.2⟩) ⟨hS0, fun h => pB (by kernel_rfl) h⟩ (cQ (i := (IntKind.i64.wrap (Q - 1))) aH.out Tryz.underlying111 Tryz.sizeOf113 rfl rfl i4 (bM f2) (bJ f2)) (fun bx ⟨_, ⟨cn, rfl, au⟩, ao, q3⟩ => ?_))⟩
            obtain ⟨t8, u7, rfl⟩ := i8.form
            refine XO 17 rfl (jC (x1 := ((⟨Z.Op, Z.K, Z.Role, Z.Kids⟩ : Formula))) aQ hST i4 rfl rfl (aH.mk ⟨(.slice t8 Z.Kids.length u7), rfl, i8⟩) q3 (bJ f2) Tryz.sizeOf113 (fun bf u0 hST o8 => ?_))
            have hS0 := hST.has.sel Sn
            exact ⟨⟨hS0, fun h => pB (by kernel_rfl) h⟩, (dC (by kernel_rfl) (cM (aG (aA (V (aB c1) (V (aP rfl rfl rfl) (V (aF rfl) (aD (aG ⟨y1, Nat.lt_succ_self _, ((((e2.set (Int.toNat Q) i2)).set (Int.toNat ((IntKind.i64.wrap (Q - 1)))) ((⟨Z.Op, Z.K, Z.Role, Z.Kids⟩ : Formula)))), u0, ((IntKind.i64.wrap (Q - 1))), _, (hST.sel St), c9, l6, rfl, o8, x⟩)))))))))⟩
          refine gI (gc (gc (li (aG ?_))))
          have hx := sj x; subst hx
          exact ⟨d4, _, (hST.sel St), b6⟩
      rintro bn E W ⟨d3, k6, hST, s7⟩ q4
      refine aS (cR ?_)
      have hx := sj q4; subst hx
      exact ir rfl ⟨_, _, _, rfl, (hST.bkM (Kr Sn)), (aW.refl _), Lo.refl, (ST.sub_hpx hST (eQ.mem (Kr Sn))), d3, rfl, rfl, s7⟩
  refine aT (aG (aC (aA (V (aB rfl) (V (aB rfl) (V (aP rfl rfl rfl) (V (kU (k' := .i64) (a := (IntKind.i64.wrap (z + B))) Tryz.underlying3 Tryz.underlying353 rfl) (V (vH (a := ((IntKind.u64.wrap ((IntKind.i64.wrap (z + B)))))) (b := 1) rfl rfl (by decide)) (V (kU (k' := .u64) (a := (Int.fdiv ((IntKind.u64.wrap ((IntKind.i64.wrap (z + B))))) (2 ^ min (Int.toNat 1) (IntKind.bits .u64)))) Tryz.underlying353 Tryz.underlying3 rfl) (V (aF rfl) (aD (aG (aC (aA ?_))))))))))))))
  refine V (aB rfl) (V (aB rfl) (V (aP rfl rfl rfl) (V (aF rfl) (aD (aG (aC (aA (V (aF rfl) (V (aF rfl) (aD (aG (aC (CJ hm (fun i0 E W => ∃  (k8 : List (Nat × Obj)), ST false (keys (c ++ [])) w W U (c ++ k8) ∧ E 0 = t ∧ E 1 = (.int .i64 z) ∧ E 2 = (.int .i64 M) ∧ E 3 = (.int .i64 B) ∧ E 4 = D ∧ E 18 = (.int .i64 ((IntKind.i64.wrap ((Int.fdiv ((IntKind.u64.wrap ((IntKind.i64.wrap (z + B))))) (2 ^ min (Int.toNat 1) (IntKind.bits .u64))))))) ∧ E 19 = (.int .i64 ((IntKind.i64.wrap (((IntKind.i64.wrap ((Int.fdiv ((IntKind.u64.wrap ((IntKind.i64.wrap (z + B))))) (2 ^ min (Int.toNat 1) (IntKind.bits .u64)))))) + M)))) ∧ E 20 = (.int .i64 i0.1) ∧ E 21 = (.int .i64 i0.2)) (fun i0 b5 => ?_) ?_)))))))))))))
  · refine aC (aA (V (aB rfl) (V (aB rfl) (V (aP rfl rfl rfl) (aD (aG (CI b5 rfl (fun p9 b5 => ?_) (fun p9 b5 => ?_))))))))
    · refine aC (aA (V (aB rfl) (V (aB rfl) (V (aP rfl rfl rfl) (V (aF rfl) (aD (aG (aA (V (aB rfl) (V (aF rfl) (aD (aG ?_))))))))))))
      have hx := sj b5; subst hx
      exact ⟨_, (hST.sel St), rfl, rfl, rfl, rfl, rfl, rfl, rfl, rfl, rfl⟩
    refine aC (aA (V (aB rfl) (V (aF rfl) (aD (aG (aA (V (aB rfl) (V (aF rfl) (aD (aG ?_))))))))))
    have hx := sj b5; subst hx
    exact ⟨_, (hST.sel St), rfl, rfl, rfl, rfl, rfl, rfl, rfl, rfl, rfl⟩
  rintro ⟨y8, y9⟩ E W ⟨k8, hST, u8, u9, v0, v1, v2, v3, l7, v4, v5⟩ q6
  refine aC (aA (V (aB l7) (V (aP rfl rfl rfl) (V (aF rfl) (aD (aG (aC (aU (gH (fun m E W => ∃ (g : Int) (K : Int) (k9 : List (Nat × Obj)), ST false (keys (c ++ [])) w W U (c ++ k9) ∧ E 0 = t ∧ E 1 = (.int .i64 z) ∧ E 2 = (.int .i64 M) ∧ E 3 = (.int .i64 B) ∧ E 4 = D ∧ E 18 = (.int .i64 ((IntKind.i64.wrap ((Int.fdiv ((IntKind.u64.wrap ((IntKind.i64.wrap (z + B))))) (2 ^ min (Int.toNat 1) (IntKind.bits .u64))))))) ∧ E 19 = (.int .i64 ((IntKind.i64.wrap (((IntKind.i64.wrap ((Int.fdiv ((IntKind.u64.wrap ((IntKind.i64.wrap (z + B))))) (2 ^ min (Int.toNat 1) (IntKind.bits .u64)))))) + M)))) ∧ E 20 = (.int .i64 g) ∧ E 21 = (.int .i64 K) ∧ E 22 = (.int .i64 ((IntKind.i64.wrap (((IntKind.i64.wrap (((IntKind.i64.wrap ((Int.fdiv ((IntKind.u64.wrap ((IntKind.i64.wrap (z + B))))) (2 ^ min (Int.toNat 1) (IntKind.bits .u64)))))) + M))) - 1)))) ∧ bL a0 z B M f4 t4 m g K = some r) bR ⟨y8, y9, _, (hST.sel St), u8, u9, v0, v1, v2, v3, l7, v4, v5, rfl, q6⟩ ?_)))))))))
  rintro m E W ⟨g, K, k9, hST, c2, d7, c3, d8, d0, d9, g1, b1, g2, g3, k⟩
  cases m with
  | zero => rw [bL] at k; cases k
  | succ n2 =>
    rw [bL] at k
    refine aC (aC (aA (V (aB b1) (V (aB g2) (V (aP rfl rfl rfl) (aD (aG (CI k rfl (fun p4 k => ?_) (fun p4 k => ?_)))))))))
    · refine aT (aG (aU (aC (aA (V (aB b1) (V (aB g2) (V (aP rfl rfl rfl) (V (kU (k' := .i64) (a := (IntKind.i64.wrap (g + K))) Tryz.underlying3 Tryz.underlying353 rfl) (V (vH (a := ((IntKind.u64.wrap ((IntKind.i64.wrap (g + K)))))) (b := 1) rfl rfl (by decide)) (V (kU (k' := .u64) (a := (Int.fdiv ((IntKind.u64.wrap ((IntKind.i64.wrap (g + K))))) (2 ^ min (Int.toNat 1) (IntKind.bits .u64)))) Tryz.underlying353 Tryz.underlying3 rfl) (V (aF rfl) (aD (aG (aC ?_))))))))))))))
      replace hST := hST.drew
      have hS0 := hST.has.sel (Kr Sn)
      refine cU hS0 bO (X 0 rfl hS0 (aB d0) (X 1 rfl hS0 (aB c2) (X 2 rfl hS0 (aB g3) (X 3 rfl hS0 (aB rfl) (X 4 rfl hS0 (aP rfl rfl rfl) (bS k fun z0 j9 k => XQ 5 rfl hS0 (cQ (i := (IntKind.i64.wrap (((IntKind.i64.wrap (((IntKind.i64.wrap (((IntKind.i64.wrap ((Int.fdiv ((IntKind.u64.wrap ((IntKind.i64.wrap (z + B))))) (2 ^ min (Int.toNat 1) (IntKind.bits .u64)))))) + M))) - 1))) - ((IntKind.i64.wrap ((Int.fdiv ((IntKind.u64.wrap ((IntKind.i64.wrap (g + K))))) (2 ^ min (Int.toNat 1) (IntKind.bits .u64))))))))) aH.out Tryz.underlying111 Tryz.sizeOf113 rfl rfl a5 (bM j9) (bJ j9)) (fun bz ⟨_, ⟨y4, rfl, s8⟩, r7, aj⟩ => XH 6 rfl hS0 (fun _ hS => aI rfl (bN (gD.hp _) (r7.mono (dZ (fun b o hq => hS.2 b o (Ml hq)))) Tryz.isAgg113 Tryz.sizeOf113)) (X 7 rfl hS0 (aB c2) (X 8 rfl hS0 (aB rfl) (bS k fun z1 k0 k => XQ 9 rfl hS0 (cQ (i := (IntKind.i64.wrap ((Int.fdiv ((IntKind.u64.wrap ((IntKind.i64.wrap (g + K))))) (2 ^ min (Int.toNat 1) (IntKind.bits .u64)))))) aH.out Tryz.underlying111 Tryz.sizeOf113 rfl rfl a5 (bM k0) (bJ k0)) (fun ca ⟨_, ⟨y5, rfl, s9⟩, r8, ak⟩ => XH 10 rfl hS0 (fun _ hS => aI rfl (bN (gD.hp _) (r8.mono (dZ (fun b o hq => hS.2 b o (Ml hq)))) Tryz.isAgg113 Tryz.sizeOf113)) (bS k fun cc s0 k => ?_))))))))))))
      refine XE 11 rfl (oT ((z0, z1)) hST c6 (aW.refl _) (mO.mk aQ aQ (aH.mk ⟨y4, rfl, s8⟩) (aH.mk ⟨y5, rfl, s9⟩) hST.sub_hp) rfl (no rfl rfl) s0 (fun bg hST => ?_))
      have hS0 := hST.has.sel (Kr Sn)
      refine ⟨hS0, (X 12 rfl hS0 (aP rfl rfl rfl) (X 13 rfl hS0 (iS rfl) (dC (by kernel_rfl) (aG (CI k rfl (fun p5 k => ?_) (fun p5 k => ?_))))))⟩
      · exact aA (V (aB rfl) (V (aP rfl rfl rfl) (V (aF rfl) (aD (cM (aG ⟨n2, Nat.lt_succ_self _, ((IntKind.i64.wrap (((IntKind.i64.wrap ((Int.fdiv ((IntKind.u64.wrap ((IntKind.i64.wrap (g + K))))) (2 ^ min (Int.toNat 1) (IntKind.bits .u64)))))) + 1))), K, _, (hST.sel St), c2, d7, c3, d8, d0, d9, g1, rfl, g2, g3, k⟩))))))
      exact aA (V (aB rfl) (V (aF rfl) (aD (cM (aG ⟨n2, Nat.lt_succ_self _, g, ((IntKind.i64.wrap ((Int.fdiv ((IntKind.u64.wrap ((IntKind.i64.wrap (g + K))))) (2 ^ min (Int.toNat 1) (IntKind.bits .u64)))))), _, (hST.sel St), c2, d7, c3, d8, d0, d9, g1, b1, rfl, g3, k⟩)))))
    refine gI (gc (gc (li (aG (aC (aA (V (aB g1) (V (aB b1) (V (aP rfl rfl rfl) (V (aF rfl) (aD (aG (aC (CJ k (fun n6 E W => ∃ (b7 : List (Nat × Obj)) (a4 : aY) (l0 : List (Nat × Obj)), aW U a4 ∧ Lo (keys (c ++ [])) w U a4 ∧ ST false (keys (c ++ [])) w W a4 (b7 ++ l0) ∧ E 0 = t ∧ E 1 = (.int .i64 z) ∧ E 3 = (.int .i64 B) ∧ E 4 = D ∧ E 18 = (.int .i64 ((IntKind.i64.wrap ((Int.fdiv ((IntKind.u64.wrap ((IntKind.i64.wrap (z + B))))) (2 ^ min (Int.toNat 1) (IntKind.bits .u64))))))) ∧ E 20 = (.int .i64 g) ∧ E 24 = (.int .i64 ((IntKind.i64.wrap (((IntKind.i64.wrap (((IntKind.i64.wrap ((Int.fdiv ((IntKind.u64.wrap ((IntKind.i64.wrap (z + B))))) (2 ^ min (Int.toNat 1) (IntKind.bits .u64)))))) + M))) - g)))) ∧ bX 113 aH 5 a4 t n6 b7) (fun n6 r0 => ?_) ?_))))))))))))))
    · refine aC (aA (V (aB b1) (V (aB c3) (V (aP rfl rfl rfl) (V (aB rfl) (LJ r0 (fun n7 E W => ∃  (l4 : List (Nat × Obj)), ST false (keys (c ++ [])) w W U (c ++ l4) ∧ E 0 = t ∧ E 1 = (.int .i64 z) ∧ E 2 = (.int .i64 M) ∧ E 3 = (.int .i64 B) ∧ E 4 = D ∧ E 18 = (.int .i64 ((IntKind.i64.wrap ((Int.fdiv ((IntKind.u64.wrap ((IntKind.i64.wrap (z + B))))) (2 ^ min (Int.toNat 1) (IntKind.bits .u64))))))) ∧ E 20 = (.int .i64 g) ∧ E 24 = (.int .i64 ((IntKind.i64.wrap (((IntKind.i64.wrap (((IntKind.i64.wrap ((Int.fdiv ((IntKind.u64.wrap ((IntKind.i64.wrap (z + B))))) (2 ^ min (Int.toNat 1) (IntKind.bits .u64)))))) + M))) - g)))) ∧ E 185 = (.bool n7)) 4 ?_ (fun n7 b4 f6 => ?_)))))))
      · rintro cx E W ⟨l4, hST, h2, m6, w5, m7, h3, m8, h4, h5, w6⟩ a8
        refine aD (aG (CI a8 w6 (fun p8 a8 => ?_) (fun p8 a8 => ?_)))
        · refine aA (V (aB h2) (V (aB h4) (V (aB w5) (V (aB h5) (V (aB h3) (bS a8 fun cf s3 a8 => ?_))))))
          have hsz := hST.size
          refine VE (je hST (Cr Qz Cn) Tryz.call470 (fun hH hN hsb hmm => dO.weak (oR t a0 c g M ((IntKind.i64.wrap (((IntKind.i64.wrap (((IntKind.i64.wrap ((Int.fdiv ((IntKind.u64.wrap ((IntKind.i64.wrap (z + B))))) (2 ^ min (Int.toNat 1) (IntKind.bits .u64)))))) + M))) - g))) D f4 _ _ ⟨hH, hN, hsb⟩ a5 (c6.mono (aW.refl _)) s3)) (fun bj cq z3 ay hST o0 hl2989 o6 => ?_))
          obtain ⟨u3, e8, rfl, t2⟩ := o6
          replace e8 := e8.symm; subst e8
          replace hST := hST.perm (Tr Tn)
          refine aD (aG ?_)
          have hx := sj a8; subst hx
          exact ⟨u3, z3, _, o0, hl2989, (hST.sel St), h2, m6, m7, h3, m8, h4, h5, t2⟩
        refine aT (aG ?_)
        have hx := sj a8; subst hx
        exact ⟨c, U, _, (aW.refl _), Lo.refl, (hST.sel St), h2, m6, m7, h3, m8, h4, h5, a5⟩
      refine bC b4 (fun J b4 => ?_) (fun J b4 => ?_)
      · refine Vg rfl (cB J) (aB c3) (Vg rfl (cB J) (aB rfl) (Vg rfl (cB J) (aP rfl rfl rfl) (V (cD (cB J) rfl) ?_)))
        have hx := sj b4; subst hx
        exact f6 _ _ ⟨_, (hST.sel St), c2, d7, c3, d8, d0, d9, b1, rfl, rfl⟩
      refine Vn rfl (cB J) (Vn rfl (cB J) (Vn rfl (cB J) (V (cI (cB J) rfl) ?_)))
      have hx := sj b4; subst hx
      exact f6 _ _ ⟨_, (hST.sel St), c2, d7, c3, d8, d0, d9, b1, rfl, rfl⟩
    rintro x8 E W ⟨b7, a4, l0, c4, hl2857, hST, l8, g4, l9, m0, g5, e0, m1, i9⟩ q7
    refine aC (CJ q7 (fun n4 E W => ∃ (b9 : List (Nat × Obj)) (c5 : aY) (l1 : List (Nat × Obj)), aW a4 c5 ∧ Lo (keys (c ++ [])) w a4 c5 ∧ ST false (keys (c ++ [])) w W c5 (b9 ++ l1) ∧ E 0 = t ∧ E 3 = (.int .i64 B) ∧ E 4 = D ∧ E 18 = (.int .i64 ((IntKind.i64.wrap ((Int.fdiv ((IntKind.u64.wrap ((IntKind.i64.wrap (z + B))))) (2 ^ min (Int.toNat 1) (IntKind.bits .u64))))))) ∧ E 24 = (.int .i64 ((IntKind.i64.wrap (((IntKind.i64.wrap (((IntKind.i64.wrap ((Int.fdiv ((IntKind.u64.wrap ((IntKind.i64.wrap (z + B))))) (2 ^ min (Int.toNat 1) (IntKind.bits .u64)))))) + M))) - g)))) ∧ bX 113 aH 5 c5 t n4 b9) (fun n4 q9 => ?_) ?_)
    · refine aC (aA (V (aB g4) (V (aB e0) (V (aP rfl rfl rfl) (V (aB rfl) (LJ q9 (fun n5 E W => ∃  (l3 : List (Nat × Obj)), ST false (keys (c ++ [])) w W a4 (b7 ++ l3) ∧ E 0 = t ∧ E 1 = (.int .i64 z) ∧ E 3 = (.int .i64 B) ∧ E 4 = D ∧ E 18 = (.int .i64 ((IntKind.i64.wrap ((Int.fdiv ((IntKind.u64.wrap ((IntKind.i64.wrap (z + B))))) (2 ^ min (Int.toNat 1) (IntKind.bits .u64))))))) ∧ E 20 = (.int .i64 g) ∧ E 24 = (.int .i64 ((IntKind.i64.wrap (((IntKind.i64.wrap (((IntKind.i64.wrap ((Int.fdiv ((IntKind.u64.wrap ((IntKind.i64.wrap (z + B))))) (2 ^ min (Int.toNat 1) (IntKind.bits .u64)))))) + M))) - g)))) ∧ E 199 = (.bool n5)) 4 ?_ (fun n5 b3 f5 => ?_)))))))
      · rintro cw E W ⟨l3, hST, g8, w2, m4, g9, h1, w3, m5, w4⟩ a7
        refine aD (aG (CI a7 w4 (fun p7 a7 => ?_) (fun p7 a7 => ?_)))
        · refine aA (V (aB g8) (V (aB w2) (V (aB w3) (V (aB h1) (V (aB g9) (bS a7 fun ce s2 a7 => ?_))))))
          have hsz := hST.size
          refine VE (je hST (Cr Qz Cn) Tryz.call468 (fun hH hN hsb hmm => (s4 t x8 b7 z g ((IntKind.i64.wrap ((Int.fdiv ((IntKind.u64.wrap ((IntKind.i64.wrap (z + B))))) (2 ^ min (Int.toNat 1) (IntKind.bits .u64)))))) D f4 _ _ ⟨hH, hN, hsb⟩ i9 (c6.mono c4) s2)) (fun bi cp z2 aw hST n9 hl2956 o5 => ?_))
          obtain ⟨u2, e7, rfl, t1⟩ := o5
          replace e7 := e7.symm; subst e7
          replace hST := hST.perm (Tr Tn)
          refine aD (aG ?_)
          have hx := sj a7; subst hx
          exact ⟨u2, z2, _, n9, hl2956, (hST.sel St), g8, m4, g9, h1, m5, t1⟩
        refine aT (aG ?_)
        have hx := sj a7; subst hx
        exact ⟨b7, a4, _, (aW.refl _), Lo.refl, (hST.sel St), g8, m4, g9, h1, m5, i9⟩
      refine bC b3 (fun I b3 => ?_) (fun I b3 => ?_)
      · refine Vg rfl (cB I) (aB e0) (Vg rfl (cB I) (aB g5) (Vg rfl (cB I) (aP rfl rfl rfl) (V (cD (cB I) rfl) ?_)))
        have hx := sj b3; subst hx
        exact f5 _ _ ⟨_, (hST.sel St), l8, g4, l9, m0, g5, e0, m1, rfl⟩
      refine Vn rfl (cB I) (Vn rfl (cB I) (Vn rfl (cB I) (V (cI (cB I) rfl) ?_)))
      have hx := sj b3; subst hx
      exact f5 _ _ ⟨_, (hST.sel St), l8, g4, l9, m0, g5, e0, m1, rfl⟩
    rintro x9 E W ⟨b9, c5, l1, d2, hl2902, hST, m2, g6, m3, g7, e1, j0⟩ q8
    refine aC (aA (V (aB g7) (V (aB e1) (V (aP rfl rfl rfl) (V (aB rfl) (LJ q8 (fun n3 E W => ∃  (l2 : List (Nat × Obj)), ST false (keys (c ++ [])) w W c5 (b9 ++ l2) ∧ E 0 = t ∧ E 3 = (.int .i64 B) ∧ E 4 = D ∧ E 18 = (.int .i64 ((IntKind.i64.wrap ((Int.fdiv ((IntKind.u64.wrap ((IntKind.i64.wrap (z + B))))) (2 ^ min (Int.toNat 1) (IntKind.bits .u64))))))) ∧ E 24 = (.int .i64 ((IntKind.i64.wrap (((IntKind.i64.wrap (((IntKind.i64.wrap ((Int.fdiv ((IntKind.u64.wrap ((IntKind.i64.wrap (z + B))))) (2 ^ min (Int.toNat 1) (IntKind.bits .u64)))))) + M))) - g)))) ∧ E 213 = (.bool n3)) 4 ?_ (fun n3 b2 f3 => ?_)))))))
    · rintro cv E W ⟨l2, hST, v6, v7, v8, v9, w0, w1⟩ a6
      refine aD (aG (CI a6 w1 (fun p6 a6 => ?_) (fun p6 a6 => ?_)))
      · refine aA (V (aB v6) (V (aB v9) (V (aB w0) (V (aB v7) (V (aB v8) (bS a6 fun cd s1 a6 => ?_))))))
        have hsz := hST.size
        refine VE (je hST (Cr Qz Cn) Tryz.call468 (fun hH hN hsb hmm => (s4 t x9 b9 ((IntKind.i64.wrap ((Int.fdiv ((IntKind.u64.wrap ((IntKind.i64.wrap (z + B))))) (2 ^ min (Int.toNat 1) (IntKind.bits .u64)))))) ((IntKind.i64.wrap (((IntKind.i64.wrap (((IntKind.i64.wrap ((Int.fdiv ((IntKind.u64.wrap ((IntKind.i64.wrap (z + B))))) (2 ^ min (Int.toNat 1) (IntKind.bits .u64)))))) + M))) - g))) B D f4 _ _ ⟨hH, hN, hsb⟩ j0 (c6.mono (c4.trans d2)) s1)) (fun bh co cy av hST n8 hl2924 o4 => ?_))
        obtain ⟨u1, e6, rfl, t0⟩ := o4
        replace e6 := e6.symm; subst e6
        replace hST := hST.perm (Tr Tn)
        refine aD (jy ?_)
        have hx := sj a6; subst hx
        exact ir rfl ⟨_, _, _, rfl, (hST.bkM (Kr Sn)), ((c4.trans d2).trans n8), ((hl2857.trans hl2902).trans hl2924), (ST.sub_hpx hST (eQ.mem (Kr Sn))), u1, rfl, rfl, t0⟩
      refine aT (jy ?_)
      have hx := sj a6; subst hx
      exact ir rfl ⟨_, _, _, rfl, (hST.bkM (Kr Sn)), (c4.trans d2), (hl2857.trans hl2902), (ST.sub_hpx hST (eQ.mem (Kr Sn))), b9, rfl, rfl, j0⟩
    refine bC b2 (fun H b2 => ?_) (fun H b2 => ?_)
    · refine Vg rfl (cB H) (aB e1) (Vg rfl (cB H) (aB g6) (Vg rfl (cB H) (aP rfl rfl rfl) (V (cD (cB H) rfl) ?_)))
      have hx := sj b2; subst hx
      exact f3 _ _ ⟨_, (hST.sel St), m2, g6, m3, g7, e1, rfl⟩
    refine Vn rfl (cB H) (Vn rfl (cB H) (Vn rfl (cB H) (V (cI (cB H) rfl) ?_)))
    have hx := sj b2; subst hx
    exact f3 _ _ ⟨_, (hST.sel St), m2, g6, m3, g7, e1, rfl⟩
theorem jo : ∀ (n : Nat) (c : Value) (k : List Formula) (a : List (Nat × Obj)) (t : Int) (u : Int) (x : Int) (g : Value) (y : ((Formula × Formula)) → Option Int) (r : List Formula) (w : World) {i : aY} (H : ie i (a ++ []) w) (B : bX 113 aH 5 i c k a) (D : nY Tryz.prog g i (mO aH aH) (fun (r : Int) => (.int .i64 r)) y) (_ : cP n k t u x y = some r),
    dO false Tryz.prog 468 [c, (.int .i64 t), (.int .i64 u), (.int .i64 x), g] w i (a ++ []) (fun v z G => ∃ (j : List (Nat × Obj)), v = (.tuple #[]) ∧ z = (j ++ []) ∧ bX 113 aH 5 G c r j)
  | 0 => by intros; rename_i h; simp only [cP] at h; cases h
  | n + 1 => nr (cP n) (jo n)
theorem oK (a : Value) (a0 : List Formula) (c : List (Nat × Obj)) (Q : Int) (x : Value) (f2 : ((Formula × Formula)) → Option Int) (r : List Formula) (w : World) {μ0 : aY} (h0 : ie μ0 (c ++ []) w) (k2 : bX 113 aH 5 μ0 a a0 c) (c7 : nY Tryz.prog x μ0 (mO aH aH) (fun (r : Int) => (.int .i64 r)) f2) (hm : iq a0 Q f2 = some r) :
    dO false Tryz.prog 464 [a, (.int .i64 Q), x] w μ0 (c ++ []) (fun v L1 μ1 => ∃ (S1 : List (Nat × Obj)), v = (.tuple #[]) ∧ L1 = (S1 ++ []) ∧ bX 113 aH 5 μ1 a r S1) := by
  have hST := ST.startE (dd := false) h0
  unfold iq at hm
  refine cF 63 Tryz.func464 rfl (aC (aA (V (aF rfl) (aD (aG (aC (aA (V (aB rfl) (V (aF rfl) (V (aF rfl) (aD (aG (aC (aU (gH (fun m E W => ∃ (d4 : List Formula) (d0 : List (Nat × Obj)) (d5 : Int) (b1 : Int) (d6 : aY) (f1 : List (Nat × Obj)), aW μ0 d6 ∧ Lo (keys (c ++ [])) w μ0 d6 ∧ ST false (keys (c ++ [])) w W d6 (d0 ++ f1) ∧ E 0 = a ∧ E 1 = (.int .i64 Q) ∧ E 2 = x ∧ E 6 = (.int .i64 20) ∧ E 7 = (.int .i64 d5) ∧ E 8 = (.int .i64 b1) ∧ bX 113 aH 5 d6 a d4 d0 ∧ cX Q f2 m d4 d5 b1 = some r) bR ⟨a0, c, 0, 20, μ0, _, (aW.refl _), Lo.refl, (hST.sel St), rfl, rfl, rfl, rfl, rfl, rfl, k2, hm⟩ ?_)))))))))))))))
  rintro m E W ⟨d4, d0, d5, b1, d6, f1, z, hl125, hST, b4, b5, b6, d7, f4, b7, g8, i⟩
  cases m with
  | zero => rw [cX] at i; cases i
  | succ k3 =>
    rw [cX] at i
    refine aC (aC (aA (V (aB b7) (V (aB b5) (V (aP rfl rfl rfl) (aD (aG (CI i rfl (fun i2 i => ?_) (fun i2 i => ?_)))))))))
    · refine aT (aG (aU (aC (aA (V (aB b4) (V (aB f4) (V (aB b7) (V (aB b6) (bS i fun k4 i5 i => ?_)))))))))
      have hsz := hST.size
      refine VE (je hST (Cr Qz Cn) Tryz.call467 (fun hH hN hsb hmm => (kk a d4 d0 d5 b1 x f2 _ _ ⟨hH, hN, hsb⟩ g8 (c7.mono z) i5)) (fun l8 m2 k6 l6 hST g0 hl138 i0 => ?_))
      obtain ⟨j9, c8, rfl, i8⟩ := i0
      replace c8 := c8.symm; subst c8
      replace hST := hST.perm (Tr Tn)
      refine aD (aG (aC (aA (V (aB b7) (V (aF rfl) (aD (aG (aA (V (aB b7) (V (aB d7) (V (aP rfl rfl rfl) (V (aF rfl) (aD (cM ?_))))))))))))))
      exact aG ⟨k3, Nat.lt_succ_self _, k4, j9, b1, ((IntKind.i64.wrap (b1 + 20))), k6, _, (z.trans g0), (hl125.trans hl138), (hST.sel St), b4, b5, b6, d7, rfl, rfl, i8, i⟩
    refine gI (gc (gc (li (aG (aC (aA (V (aB b4) (V (aB f4) (V (aB b5) (V (aB b6) (bS i fun k5 i6 i => ?_)))))))))))
    have hsz := hST.size
    refine VE (je hST (Cr Qz Cn) Tryz.call467 (fun hH hN hsb hmm => (kk a d4 d0 d5 Q x f2 _ _ ⟨hH, hN, hsb⟩ g8 (c7.mono z) i6)) (fun l9 m3 a8 l7 hST a5 hl150 i1 => ?_))
    obtain ⟨k0, c9, rfl, i9⟩ := i1
    replace c9 := c9.symm; subst c9
    replace hST := hST.perm (Tr Tn)
    refine aD (aG (mF (CJ i (fun d8 E W => ∃ (b2 : List (Nat × Obj)) (a9 : aY) (f3 : List (Nat × Obj)), aW a8 a9 ∧ Lo (keys (c ++ [])) w a8 a9 ∧ ST false (keys (c ++ [])) w W a9 (b2 ++ f3) ∧ bX 113 aH 5 a9 a d8 b2) (fun d8 i4 => ?_) ?_)))
    · refine aU (gH (fun m E W => ∃ (a2 : List Formula) (I : List (Nat × Obj)) (j : Int) (k : aY) (e0 : List (Nat × Obj)), aW a8 k ∧ Lo (keys (c ++ [])) w a8 k ∧ ST false (keys (c ++ [])) w W k (I ++ e0) ∧ E 0 = a ∧ E 1 = (.int .i64 Q) ∧ E 2 = x ∧ E 6 = (.int .i64 j) ∧ bX 113 aH 5 k a a2 I ∧ cY Q f2 m a2 j = some d8) bR ⟨k5, k0, 20, a8, _, (aW.refl _), Lo.refl, (hST.sel St), b4, b5, b6, d7, i9, i4⟩ ?_)
      rintro m E W ⟨a2, I, j, k, e0, B, hl1243, hST, h4, e4, h5, b3, d1, t⟩
      cases m with
      | zero => rw [cY] at t; cases t
      | succ j4 =>
        rw [cY] at t
        refine aC (aC (aA (V (aB b3) (V (aB e4) (V (aP rfl rfl rfl) (aD (aG (CI t rfl (fun f7 t => ?_) (fun f7 t => ?_)))))))))
        · refine aT (aG (aU (aC (aA (V (aB b3) (V (aP rfl rfl rfl) (V (aF rfl) (V (aF rfl) (aD (aG (aC (CJ t (fun a4 E W => ∃ (J : List (Nat × Obj)) (y : aY) (e1 : List (Nat × Obj)), aW k y ∧ Lo (keys (c ++ [])) w k y ∧ ST false (keys (c ++ [])) w W y (J ++ e1) ∧ E 0 = a ∧ E 1 = (.int .i64 Q) ∧ E 2 = x ∧ E 6 = (.int .i64 j) ∧ E 7 = (.int .i64 a4.2) ∧ bX 113 aH 5 y a a4.1 J) (fun a4 g4 => ?_) ?_))))))))))))
          · refine aU (gH (fun m E W => ∃ (a3 : List Formula) (K : List (Nat × Obj)) (M : Int) (D : Int) (H : aY) (e3 : List (Nat × Obj)), aW k H ∧ Lo (keys (c ++ [])) w k H ∧ ST false (keys (c ++ [])) w W H (K ++ e3) ∧ E 0 = a ∧ E 1 = (.int .i64 Q) ∧ E 2 = x ∧ E 6 = (.int .i64 j) ∧ E 7 = (.int .i64 M) ∧ E 8 = (.int .i64 D) ∧ bX 113 aH 5 H a a3 K ∧ dM Q j f2 m a3 M D = some a4) bR ⟨a2, I, 0, ((IntKind.i64.wrap (2 * j))), k, _, (aW.refl _), Lo.refl, (hST.sel St), h4, e4, h5, b3, rfl, rfl, d1, g4⟩ ?_)
            rintro m E W ⟨a3, K, M, D, H, e3, N, hl1433, hST, c2, c3, c4, Y, c5, Z, d3, g⟩
            cases m with
            | zero => rw [dM] at g; cases g
            | succ j5 =>
              rw [dM] at g
              refine aC (aC (aA (V (aB Z) (V (aB c3) (V (aP rfl rfl rfl) (aD (aG (CI g rfl (fun f9 g => ?_) (fun f9 g => ?_)))))))))
              · refine aT (aG (aU (aC (aA (V (aB c2) (V (aB c5) (V (aB c5) (V (aB Y) (V (aP rfl rfl rfl) (V (aB Z) (V (aB c4) (bS g fun j6 g6 g => ?_))))))))))))
                have hsz := hST.size
                refine VE (je hST (Cr Qz Cn) Tryz.call468 (fun hH hN hsb hmm => ((jo bR) a a3 K M ((IntKind.i64.wrap (M + j))) D x f2 _ _ ⟨hH, hN, hsb⟩ d3 (c7.mono (((z.trans a5).trans B).trans N)) g6)) (fun l1 l4 j8 k9 hST f0 hl1446 f6 => ?_))
                obtain ⟨h3, a7, rfl, h1⟩ := f6
                replace a7 := a7.symm; subst a7
                replace hST := hST.perm (Tr Tn)
                refine aD (aG (aC (aA (V (aB Z) (V (aF rfl) (aD (aG (aA (V (aB Z) (V (aB Y) (V (aP rfl rfl rfl) (V (aP rfl rfl rfl) (V (aF rfl) (aD ?_))))))))))))))
                exact cM (aG ⟨j5, Nat.lt_succ_self _, j6, h3, D, ((IntKind.i64.wrap (D + ((IntKind.i64.wrap (2 * j)))))), j8, _, (N.trans f0), (hl1433.trans hl1446), (hST.sel St), c2, c3, c4, Y, rfl, rfl, h1, g⟩)
              refine gI (gc (gc (li (aG ?_))))
              have hx := sj g; subst hx
              exact ⟨K, H, _, N, hl1433, (hST.sel St), c2, c3, c4, Y, c5, d3⟩
          rintro ⟨j0, e7⟩ E W ⟨J, y, e1, b0, hl1330, hST, b9, U, c0, c1, e5, d2⟩ g2
          refine aC (CJ g2 (fun e6 E W => ∃ (T : List (Nat × Obj)) (G : aY) (e2 : List (Nat × Obj)), aW y G ∧ Lo (keys (c ++ [])) w y G ∧ ST false (keys (c ++ [])) w W G (T ++ e2) ∧ E 0 = a ∧ E 1 = (.int .i64 Q) ∧ E 2 = x ∧ E 6 = (.int .i64 j) ∧ bX 113 aH 5 G a e6 T) (fun e6 u => ?_) ?_)
          · refine aC (aA (V (aB e5) (V (aB c1) (V (aP rfl rfl rfl) (V (aF rfl) (aD (aG (aC (aA (V (aB rfl) (V (aB U) (V (aP rfl rfl rfl) (aD (aG ?_))))))))))))))
            refine CI u rfl (fun f8 u => ?_) (fun f8 u => ?_)
            · refine aA (V (aB b9) (V (aB e5) (V (aB rfl) (V (aB U) (V (aB c0) (bS u fun l2 g5 u => ?_))))))
              have hsz := hST.size
              refine VE (je hST (Cr Qz Cn) Tryz.call468 (fun hH hN hsb hmm => ((jo bR) a j0 J e7 ((IntKind.i64.wrap (e7 + j))) Q x f2 _ _ ⟨hH, hN, hsb⟩ d2 (c7.mono (((z.trans a5).trans B).trans b0)) g5)) (fun l0 l3 j7 k8 hST e9 hl1371 f5 => ?_))
              obtain ⟨h2, a6, rfl, g9⟩ := f5
              replace a6 := a6.symm; subst a6
              replace hST := hST.perm (Tr Tn)
              refine aD (aG ?_)
              have hx := sj u; subst hx
              exact ⟨h2, j7, _, e9, hl1371, (hST.sel St), b9, U, c0, c1, g9⟩
            refine aT (aG ?_)
            have hx := sj u; subst hx
            exact ⟨J, y, _, (aW.refl _), Lo.refl, (hST.sel St), b9, U, c0, c1, d2⟩
          rintro j3 E W ⟨T, G, e2, e8, hl1357, hST, h6, h7, h8, h9, g7⟩ g3
          exact aA (V (aB h9) (V (aP rfl rfl rfl) (V (aF rfl) (aD (cM (aG ⟨j4, Nat.lt_succ_self _, j3, T, ((IntKind.i64.wrap (j * 2))), G, _, ((B.trans b0).trans e8), ((hl1243.trans hl1330).trans hl1357), (hST.sel St), h6, h7, h8, rfl, g7, g3⟩))))))
        refine gI (gc (gc (li (aG ?_))))
        have hx := sj t; subst hx
        exact ⟨I, k, _, B, hl1243, (hST.sel St), d1⟩
    rintro m1 E W ⟨b2, a9, f3, g1, hl807, hST, i7⟩ i3
    refine jy ?_
    have hx := sj i3; subst hx
    exact ir rfl ⟨_, _, _, rfl, (hST.bkM (Kr Sn)), ((z.trans a5).trans g1), ((hl125.trans hl150).trans hl807), (ST.sub_hpx hST (eQ.mem (Kr Sn))), b2, rfl, rfl, i7⟩
theorem oF (c : Value) (k : List Formula) (a : List (Nat × Obj)) (i : Value) (u : ((Formula × Formula)) → Option Int) (r : List Formula) (w : World) {t : aY} (J : ie t (a ++ []) w) (j : bX 113 aH 5 t c k a) (x : nY Tryz.prog i t (mO aH aH) (fun (r : Int) => (.int .i64 r)) u) (hm : gk k u = some r) :
    dO false Tryz.prog 457 [c, i] w t (a ++ []) (fun v I K => ∃ (B : List (Nat × Obj)), v = (.tuple #[]) ∧ I = (B ++ []) ∧ bX 113 aH 5 K c r B) := by
  have hST := ST.startE (dd := false) J
  unfold gk at hm
  refine cF 9 Tryz.func457 rfl (aA (V (aB rfl) (V (aB rfl) (V (oD Tryz.underlying111 rfl j) (V (aB rfl) (bS hm fun Q H hm => ?_))))))
  have hsz := hST.size
  refine VE (je hST (Cr Qz Cn) Tryz.call464 (fun hH hN hsb hmm => (oK c k a ((k.length : Int)) i u _ _ ⟨hH, hN, hsb⟩ j (x.mono (aW.refl _)) H)) (fun N T U M hST y hl6 G => ?_))
  obtain ⟨D, g, rfl, z⟩ := G
  replace g := g.symm; subst g
  replace hST := hST.perm (Tr Tn)
  refine aD (jy ?_)
  have hx := sj hm; subst hx
  exact ir rfl ⟨_, _, _, rfl, (hST.bkM (Kr Sn)), y, hl6, (ST.sub_hpx hST (eQ.mem (Kr Sn))), D, rfl, rfl, z⟩
theorem sm (b4 : (List Int) → Formula → Option (List Int)) (f2 : ∀ (a : Nat) (k : Value) (B : List Int) (g : List (Nat × Obj)) (j : Formula) (u : Value) (r : List Int) (w : World) {μ0 : aY} (h0 : ie μ0 ((a, Obj.cells (#[k] : Array Value) 92 (0, 0)) :: (g ++ [])) w) (T : bE 5 (cT .u8) 1 k B g) (t : Sl aH 5 μ0 u j.Kids), b4 B j = some r → dJ false Tryz.prog 471 [(.pointer (some ⟨a, 0, none⟩)), (.agg #[(.int .i64 j.Op), (.int .i64 j.K), (.string j.Role.Owner), (.string j.Role.Word), u])] w ((a, Obj.cells (#[k] : Array Value) 92 (0, 0)) :: (g ++ [])) (fun v L1 W' => ∃ (y1 : Value) (S2 : List (Nat × Obj)), v = (.tuple #[]) ∧ L1 = ((a, Obj.cells (#[y1] : Array Value) 92 (0, 0)) :: (S2 ++ [])) ∧ bE 5 (cT .u8) 1 y1 r S2)) (a : Nat) (k : Value) (B : List Int) (g : List (Nat × Obj)) (j : Formula) (u : Value) (r : List Int) (w : World) {μ0 : aY} (h0 : ie μ0 ((a, Obj.cells (#[k] : Array Value) 92 (0, 0)) :: (g ++ [])) w) (T : bE 5 (cT .u8) 1 k B g) (t : Sl aH 5 μ0 u j.Kids) (hm : kR b4 B j = some r) :
    dJ false Tryz.prog 471 [(.pointer (some ⟨a, 0, none⟩)), (.agg #[(.int .i64 j.Op), (.int .i64 j.K), (.string j.Role.Owner), (.string j.Role.Word), u])] w ((a, Obj.cells (#[k] : Array Value) 92 (0, 0)) :: (g ++ [])) (fun v L1 W' => ∃ (y1 : Value) (S2 : List (Nat × Obj)), v = (.tuple #[]) ∧ L1 = ((a, Obj.cells (#[y1] : Array Value) 92 (0, 0)) :: (S2 ++ [])) ∧ bE 5 (cT .u8) 1 y1 r S2) := by
  have hST := ST.startE (dd := false) h0
  unfold kR at hm
  refine cF 40 Tryz.func471 rfl (aC (aA ?_))
  obtain ⟨A1, c2, rfl⟩ := t.form
  refine VE (cH (v := (.agg (C2 j.Op j.K j.Role.Owner j.Role.Word A1 j.Kids.length c2).toArray)) hST rfl (fun W4 b3 hST => aD (aG (aC (aA (V (aB rfl) (V (aM kC rfl) (V (aI rfl (aN hST.has Mh rfl Tryz.isAgg3)) (bS hm fun r5 g6 hm => ?_)))))))))
  have hsz := hST.size
  refine VE (iu hST (Cb (Pb Pz) (Cr (Qb Qz) Cn)) Tryz.call268 (fun hH hN hsb hmm => dJ.weak (jV a k B g j.Op _ _ ⟨hH, hN, aW.refl _⟩ T g6)) (fun W7 j6 μ8 i8 hST e9 hl10 hlift e5 => ?_))
  obtain ⟨b7, a9, a2, rfl, a5⟩ := e5
  replace a2 := a2.symm; subst a2
  replace hST := hST.perm (Tb (Tr Tn))
  refine aD (aG (aC (aC (aA (V (aM kC rfl) (V (aI rfl (aN hST.has (Mt (Ma Mh)) rfl Tryz.isAgg3)) (V (aP rfl rfl rfl) (aD (aG (CI hm rfl (fun e8 hm => ?_) (fun e8 hm => ?_)))))))))))
  · refine aC (aA (V (aB rfl) (V (aM nL rfl) (V (aI rfl (aK hST.has (Mt (Ma Mh)) (aO j.Role) rfl Tryz.isAgg28 Tryz.sizeOf28)) (bS hm fun j5 f0 hm => ?_)))))
    have hsz := hST.size
    refine VE (iu hST (Cb Pz (Cr Qz Cn)) Tryz.call269 (fun hH hN hsb hmm => dJ.weak (mB a b7 r5.2 a9 j.Role _ _ ⟨hH, hN, aW.refl _⟩ a5 f0)) (fun j3 j7 j9 i9 hST h4 hl24 hlift e6 => ?_))
    obtain ⟨h1, g2, a3, rfl, f4⟩ := e6
    replace a3 := a3.symm; subst a3
    replace hST := hST.perm (Tb (Tr Tn))
    refine aD (aG ?_)
    replace hST := hST.sel (Kb (Kr (Db St)))
    refine aS (cR ?_)
    have hx := sj hm; subst hx
    exact ir rfl ⟨_, _, rfl, (hST.bkM (Kb (Kr Sn))), h1, g2, rfl, rfl, f4⟩
  refine aT (aG (aC (CJ hm (fun b5 E W => ∃ (a8 : Value) (a6 : List (Nat × Obj)) (c0 : aY) (d6 : List (Nat × Obj)), aW μ8 c0 ∧ ST false (keys ((a, Obj.cells (#[k] : Array Value) 92 (0, 0)) :: (g ++ []))) w W c0 ((a, Obj.cells (#[a8] : Array Value) 92 (0, 0)) :: ((b3, Obj.cells ((C2 j.Op j.K j.Role.Owner j.Role.Word A1 j.Kids.length c2).toArray : Array Value) 113 (0, 0)) :: (a6 ++ d6))) ∧ E 0 = (.pointer (some ⟨a, 0, none⟩)) ∧ E 3 = (.pointer (some ⟨b3, 0, none⟩)) ∧ bE 5 (cT .u8) 1 a8 b5 a6) (fun b5 y => ?_) ?_)))
  · refine aC (aA (V (aM kC rfl) (V (aI rfl (aN hST.has (Mt (Ma Mh)) rfl Tryz.isAgg3)) (V (aP rfl rfl rfl) (aD (aG (CI y rfl (fun c4 y => ?_) (fun c4 y => ?_))))))))
    · refine aA (V (aB rfl) (V (aM nK rfl) (V (aI rfl (aN hST.has (Mt (Ma Mh)) rfl Tryz.isAgg3)) (bS y fun i4 d0 y => ?_))))
      have hsz := hST.size
      refine VE (iu hST (Cb Pz (Cr Qz Cn)) Tryz.call268 (fun hH hN hsb hmm => dJ.weak (jV a b7 r5.2 a9 j.K _ _ ⟨hH, hN, aW.refl _⟩ a5 d0)) (fun i1 i7 g1 h7 hST b2 hl266 hlift c3 => ?_))
      obtain ⟨f9, e3, N, rfl, d5⟩ := c3
      replace N := N.symm; subst N
      replace hST := hST.perm (Tb (Tr Tn))
      refine aD (aG ?_)
      have hx := sj y; subst hx
      exact ⟨f9, e3, g1, _, b2, (hST.sel (Kb (Sb (Pr Pz) St))), rfl, rfl, d5⟩
    refine aT (aG ?_)
    have hx := sj y; subst hx
    exact ⟨b7, a9, μ8, _, (aW.refl _), (hST.sel (Kb (Sb (Pr Pz) St))), rfl, rfl, a5⟩
  rintro g7 E W ⟨a8, a6, c0, d6, c6, hST, d7, d8, f3⟩ a0
  refine aC (aA (V (aB d7) (V (aM jL d8) (V (aI rfl (aN hST.has (Mt Mh) rfl Tryz.isAgg111)) (V (eH Tryz.underlying111 rfl t) (bS a0 fun g9 f1 a0 => ?_))))))
  have hsz := hST.size
  refine VE (iu hST (Cb Pz (Cr (Qb Qz) Cn)) Tryz.call268 (fun hH hN hsb hmm => dJ.weak (jV a a8 g7 a6 ((j.Kids.length : Int)) _ _ ⟨hH, hN, aW.refl _⟩ f3 f1)) (fun j4 j8 d9 j0 hST c7 hl61 hlift e7 => ?_))
  obtain ⟨h2, g3, a4, rfl, f5⟩ := e7
  replace a4 := a4.symm; subst a4
  replace hST := hST.perm (Tb (Tr Tn))
  refine aD (aG (aC (aA (V (aM jL d8) (V (aI rfl (aN hST.has (Mt (Ma Mh)) rfl Tryz.isAgg111)) (V (eH Tryz.underlying111 rfl t) (V (aB rfl) (aD (aG ?_)))))))))
  replace hST := hST.sel (Kb (Kr (Db St)))
  refine mF (dP (fun i E W => ∃ (D : Value) (H : List Int) (z : List (Nat × Obj)) (Q : aY) (U : List (Nat × Obj)), (E 32 = .int .i64 (i : Nat) ∧ E 31 = .int .i64 (j.Kids.length : Nat)) ∧ aW d9 Q ∧ ST false (keys ((a, Obj.cells (#[k] : Array Value) 92 (0, 0)) :: (g ++ []))) w W Q ((a, Obj.cells (#[D] : Array Value) 92 (0, 0)) :: (z ++ U)) ∧ E 0 = (.pointer (some ⟨a, 0, none⟩)) ∧ E 30 = (.slice A1 j.Kids.length c2) ∧ bE 5 (cT .u8) 1 D H z ∧ gO b4 (j.Kids.drop i) H = some r) j.Kids.length t.len ⟨h2, g9.2, g3, d9, _, ⟨rfl, rfl⟩, (aW.refl _), (hST.sel St), d7, rfl, f5, a0⟩ (by decide) (by decide) (by decide) (fun _ _ _ h => by obtain ⟨_, _, _, _, _, eIN, _⟩ := h; exact eIN) ?_ ?_)
  · rintro f6 E W c5 ⟨D, H, z, Q, U, ⟨eI, eN⟩, G, hST, Y, Z, K, x⟩
    obtain ⟨c, h5, d2, d1, d3⟩ := dB c5
    rw [d2] at x
    rw [gO] at x
    refine aU (aC (aA (VQ (fN (i := (f6 : Int)) (x0 := c) aH.out Tryz.underlying111 Tryz.sizeOf113 Z eI (t.mono aQ.mono (((e9.trans c6).trans c7).trans G)) (Int.natCast_nonneg _) d1) (fun i3 ⟨_, ⟨i5, rfl, a7⟩, c8⟩ => V (aI rfl (bN hST.has c8 Tryz.isAgg113 Tryz.sizeOf113)) (VE (cA hST Tryz.zeroValue113 (fun h8 i2 hST => ?_)))))))
    obtain ⟨I, J, rfl⟩ := a7.form
    refine VO (aX (.agg (C2 c.Op c.K c.Role.Owner c.Role.Word I c.Kids.length J).toArray) ((C2 c.Op c.K c.Role.Owner c.Role.Word I c.Kids.length J).toArray) hST rfl rfl Tryz.sizeOf113 (by simp [Value.cells, Value.oneCell']) nb rfl (fun h9 hST => aD (aG (aA (V (aB Y) (V (aI rfl (aK hST.has Mh (C2 c.Op c.K c.Role.Owner c.Role.Word I c.Kids.length J) rfl Tryz.isAgg113 Tryz.sizeOf113)) (bS x fun f7 c9 x => ?_)))))))
    have hsz := hST.size
    refine VE (iu hST (Cb (Pb Pz) (Cr (Qb Qz) Cn)) Tryz.call471 (fun hH hN hsb hmm => (f2 a D H z c (.slice I c.Kids.length J) _ _ ⟨hH, hN, aW.refl _⟩ K (a7.mono aQ.mono hsb) c9)) (fun i0 i6 g0 h6 hST b1 hl249 hlift c1 => ?_))
    obtain ⟨f8, e2, M, rfl, d4⟩ := c1
    replace M := M.symm; subst M
    replace hST := hST.perm (Tb (Tr Tn))
    refine aD (cM (aG ?_))
    replace hST := hST.sel (Kb (Kr (Db St)))
    exact ⟨eI, f8, f7, e2, g0, _, ⟨rfl, eN⟩, (G.trans b1), (hST.sel St), Y, Z, d4, (by rw [d3]; exact x)⟩
  rintro E W ⟨D, H, z, Q, U, ⟨eI, eN⟩, G, hST, Y, Z, K, x⟩
  rw [List.drop_length] at x
  rw [gO] at x
  refine aG (jy ?_)
  have hx := sj x; subst hx
  exact ir rfl ⟨_, _, rfl, (hST.bkM (Kb (Kr Sn))), D, z, rfl, rfl, K⟩
theorem qS : ∀ (n : Nat) (i : Nat) (g : Value) (k : List Int) (c : List (Nat × Obj)) (j : Formula) (a : Value) (r : List Int) (w : World) {z : aY} (D : ie z ((i, Obj.cells (#[g] : Array Value) 92 (0, 0)) :: (c ++ [])) w) (x : bE 5 (cT .u8) 1 g k c) (t : Sl aH 5 z a j.Kids) (_ : iR n k j = some r),
    dJ false Tryz.prog 471 [(.pointer (some ⟨i, 0, none⟩)), (.agg #[(.int .i64 j.Op), (.int .i64 j.K), (.string j.Role.Owner), (.string j.Role.Word), a])] w ((i, Obj.cells (#[g] : Array Value) 92 (0, 0)) :: (c ++ [])) (fun v B W' => ∃ (y : Value) (u : List (Nat × Obj)), v = (.tuple #[]) ∧ B = ((i, Obj.cells (#[y] : Array Value) 92 (0, 0)) :: (u ++ [])) ∧ bE 5 (cT .u8) 1 y r u)
  | 0 => by intros; rename_i h; simp only [iR] at h; cases h
  | n + 1 => sm (iR n) (qS n)
theorem vK (k : Nat) (i : Value) (u : List Int) (c : List (Nat × Obj)) (a : Formula) (j : Value) (r : (Bool × (List Int))) (w : World) {Q : aY} (Y : ie Q ((k, Obj.cells (#[i] : Array Value) 92 (0, 0)) :: (c ++ [])) w) (t : bE 5 (cT .u8) 1 i u c) (g : Sl aH 5 Q j a.Kids) (hm : lS u a = some r) :
    dJ false Tryz.prog 469 [(.pointer (some ⟨k, 0, none⟩)), (.agg #[(.int .i64 a.Op), (.int .i64 a.K), (.string a.Role.Owner), (.string a.Role.Word), j])] w ((k, Obj.cells (#[i] : Array Value) 92 (0, 0)) :: (c ++ [])) (fun v U W' => ∃ (M : Value) (I : List (Nat × Obj)), v = (.bool (r.1)) ∧ U = ((k, Obj.cells (#[M] : Array Value) 92 (0, 0)) :: (I ++ [])) ∧ bE 5 (cT .u8) 1 M r.2 I) := by
  have hST := ST.startE (dd := false) Y
  unfold lS at hm
  refine cF 15 Tryz.func469 rfl (aC (aA ?_))
  obtain ⟨y, z, rfl⟩ := g.form
  refine VE (cH (v := (.agg (C2 a.Op a.K a.Role.Owner a.Role.Word y a.Kids.length z).toArray)) hST rfl (fun W4 b3 hST => V (aF rfl) (aD (aG (aC (aC (aA (V (aB rfl) (V (nH Tryz.underlying90 rfl rfl) (V (aB rfl) (Vg rfl rfl (aI rfl (aK hST.has Mh (C2 a.Op a.K a.Role.Owner a.Role.Word y a.Kids.length z) rfl Tryz.isAgg113 Tryz.sizeOf113)) (bS hm fun r5 K hm => np rfl rfl (Eg hST Tryz.call107 ((nm a (.slice y a.Kids.length z) _ _ (g.mono aQ.mono hST.sub_hp) K)) (fun W7 hST => Vg rfl rfl (iS rfl) (V (cI rfl rfl) ?_)))))))))))))))
  refine aD (aG (CI hm rfl (fun J hm => ?_) (fun J hm => ?_)))
  · refine aC (aA (V (aF rfl) (aD (aG ?_))))
    replace hST := hST.sel (Db St)
    refine aS (cR ?_)
    have hx := sj hm; subst hx
    exact dI (v := (.bool false)) rfl rfl ⟨_, _, rfl, (hST.bkM (Kb (Kr Sn))), i, c, rfl, rfl, t⟩
  refine aT (aG (aC (aA (V (aB rfl) (V (aI rfl (aK hST.has Mh (C2 a.Op a.K a.Role.Owner a.Role.Word y a.Kids.length z) rfl Tryz.isAgg113 Tryz.sizeOf113)) (bS hm fun r9 D hm => ?_))))))
  have hsz := hST.size
  refine VE (iu hST (Cb (Pb Pz) (Cr (Qb Qz) Cn)) Tryz.call471 (fun hH hN hsb hmm => ((qS bR) k i u c a (.slice y a.Kids.length z) _ _ ⟨hH, hN, aW.refl _⟩ t (g.mono aQ.mono hsb) D)) (fun a0 a2 a3 Z hST T hl14 hlift B => ?_))
  obtain ⟨N, H, x, rfl, G⟩ := B
  replace x := x.symm; subst x
  replace hST := hST.perm (Tb (Tr Tn))
  refine aD (aG ?_)
  replace hST := hST.sel (Kb (Kr (Db St)))
  refine aC (aA (V (aF rfl) (aD (aG (aS ?_)))))
  have hx := sj hm; subst hx
  exact dI (v := (.bool true)) rfl rfl ⟨_, _, rfl, (hST.bkM (Kb (Kr Sn))), N, H, rfl, rfl, G⟩
theorem pU (a : Formula) (g : Value) (r : List Int) (w : World) (c : Sl aH 5 (hp w) g a.Kids) (hm : jM a = some r) :
    fD false Tryz.prog 465 [(.agg #[(.int .i64 a.Op), (.int .i64 a.K), (.string a.Role.Owner), (.string a.Role.Word), g])] w 5 (cT .u8) 1 r := by
  have hST := ST.start (dd := false) w
  unfold jM at hm
  refine cF 11 Tryz.func465 rfl (aC (aA ?_))
  obtain ⟨k, t, rfl⟩ := c.form
  refine VE (cH (v := (.agg (C2 a.Op a.K a.Role.Owner a.Role.Word k a.Kids.length t).toArray)) hST rfl (fun W4 b3 hST => V (aF rfl) (aD (aG (aC (aA (V (dX (qs := #[]) (v := (.agg #[(.slice none 0 0)])) lT (cV Tryz.zeroValue92 Tryz.underlying92 (EJ _ Tryz.underlying92) (by kernel_rfl))) (VE (cH (v := (.agg #[(.slice none 0 0)])) hST rfl (fun W6 B hST => V (aF rfl) (aD (aG (aC (aA (V (aB rfl) (V (aI rfl (aK hST.has (Mt Mh) (C2 a.Op a.K a.Role.Owner a.Role.Word k a.Kids.length t) rfl Tryz.isAgg113 Tryz.sizeOf113)) ?_))))))))))))))))
  refine bS hm fun K D hm => ?_
  have hsz := hST.size
  refine VE (iu hST (Cb Pz (C0 Cn)) Tryz.call469 (fun hH hN hsb hmm => (vK B (.slice none 0 0) ([]) [] a (.slice k a.Kids.length t) _ _ ⟨hH, hN, aW.refl _⟩ (bE.nil _ _ _) (c.mono aQ.mono hsb) D)) (fun W9 U Y M hST I hl12 hlift u => ?_))
  obtain ⟨H, N, i, rfl, y⟩ := u
  replace i := i.symm; subst i
  replace hST := hST.perm (Tb (Tr Tn))
  refine aD (aG ?_)
  replace hST := hST.sel (Kb (Kr (Db St)))
  refine aC (aA (V (aB rfl) (bS hm fun T x hm => VE (mh hST Tryz.call66 (fD.weak (qx B H K.2 _ _ (y.sl (fun _ => rfl) (fun b o hq => hST.at_ (Mt (Ml hq)))) (At.of (hST.at_ Mh) _ rfl) x)) (fun Q G Z z hST J hl25 j => V (aF rfl) (aD (aG ?_)))))))
  replace hST := hST.sel (Kr (Db (Dr St)))
  refine aS ?_
  have hx := sj hm; subst hx
  exact dI (v := G) rfl rfl ⟨_, z, rfl, hST.backRow (fun p hq => (Ml hq)) j.nd, j⟩
theorem uE (a : Formula) (j : Value) (c : Formula) (k : Value) (r : Int) (w : World) (g : Sl aH 5 (hp w) j a.Kids) (i : Sl aH 5 (hp w) k c.Kids) (hm : jN a c = some r) :
    bW false Tryz.prog 458 [(.agg #[(.int .i64 a.Op), (.int .i64 a.K), (.string a.Role.Owner), (.string a.Role.Word), j]), (.agg #[(.int .i64 c.Op), (.int .i64 c.K), (.string c.Role.Owner), (.string c.Role.Word), k])] w (.int .i64 r) := by
  have hST := ST.start (dd := false) w
  unfold jN at hm
  refine cF 10 Tryz.func458 rfl (aC (aA ?_))
  obtain ⟨x, z, rfl⟩ := g.form
  refine VE (cH (v := (.agg (C2 a.Op a.K a.Role.Owner a.Role.Word x a.Kids.length z).toArray)) hST rfl (fun W4 b3 hST => ?_))
  obtain ⟨y, B, rfl⟩ := i.form
  refine VE (cH (v := (.agg (C2 c.Op c.K c.Role.Owner c.Role.Word y c.Kids.length B).toArray)) hST rfl (fun W8 b7 hST => V (aF rfl) (aD (aG (aC ?_)))))
  replace hST := hST.drew
  have hS0 := hST.has.sel (Kb (Kb Sn))
  refine cU hS0 bO (XH 0 rfl hS0 (fun _ hS => aI rfl (aK hS (Mt Mh) (C2 a.Op a.K a.Role.Owner a.Role.Word x a.Kids.length z) rfl Tryz.isAgg113 Tryz.sizeOf113)) (XH 2 rfl hS0 (fun _ hS => aI rfl (aK hS Mh (C2 c.Op c.K c.Role.Owner c.Role.Word y c.Kids.length B) rfl Tryz.isAgg113 Tryz.sizeOf113)) (bS hm fun K H hm => XE 1 rfl (mh hST Tryz.call465 ((pU a (.slice x a.Kids.length z) _ _ (g.mono aQ.mono hST.sub_hp) H)) (fun Y N a4 T hST t hl56 D => ?_)))))
  have hS0 := hST.has.selS t (Dr (Kb (Kb Sn)))
  refine ⟨hS0, (bS hm fun M I hm => XE 3 rfl (mh hST Tryz.call465 ((pU c (.slice y c.Kids.length B) _ _ (i.mono aQ.mono (t.trans hST.sub_hp)) I)) (fun Z Q a5 U hST u hl65 G => ?_)))⟩
  have hS0 := hST.has.selS (t.trans u) (Dr (Dr (Kb (Kb Sn))))
  refine ⟨hS0, (bS hm fun a3 J hm => XE 4 rfl (Eg hST Tryz.call323 (bW.weak (qT N K Q M _ _ (D.sl (fun _ => rfl) (fun b o hq => hST.at_ (Ma (Ml hq)))) (G.sl (fun _ => rfl) (fun b o hq => hST.at_ (Ml hq))) J)) (fun a2 hST => ?_)))⟩
  have hS0 := hST.has.selS (t.trans u) (Dr (Dr (Kb (Kb Sn))))
  refine ⟨hS0, (X 5 rfl hS0 (aF rfl) (dC (by kernel_rfl) (aG ?_)))⟩
  replace hST := hST.sel (Dr (Dr (Db (Db St))))
  refine aS ?_
  have hx := sj hm; subst hx
  exact rP hST
theorem rF (g : Value) (k : List Formula) (r : List Formula) (w : World) {G : aY} (Y : ie G [] w) (u : Sl aH 5 G g k) (hm : kY k = some r) :
    dO false Tryz.prog 436 [g] w G [] (fun v U μ1 => ∃ (T : Value) (I : List (Nat × Obj)), v = T ∧ U = (I ++ []) ∧ bX 113 aH 5 μ1 T r I) := by
  have hST := ST.startE (dd := false) Y
  unfold kY at hm
  refine cF 9 Tryz.func436 rfl (aC (aA (V (aF rfl) (aD (aG (aC (aA (V (aB rfl) (bS hm fun Z Q hm => ?_)))))))))
  have hsz := hST.size
  refine VE (je hST (List.Perm.refl _) Tryz.call456 (fun hH hN hsb hmm => dO.weak (rf g k _ _ ⟨hH, hN, hsb⟩ (u.mono aQ.mono (aW.refl _)) Q)) (fun W3 v7 μ4 L9 hST y hl6 K => ?_) (L0 := []))
  obtain ⟨i, H, a, rfl, B⟩ := K
  replace a := a.symm; subst a
  replace hST := hST.perm (Tr Tn)
  refine V (aF rfl) (aD (aG (aC (aA (V (aB rfl) (bS hm fun a5 z hm => ?_))))))
  have hsz := hST.size
  refine VE (je hST (Cr Qz Cn) Tryz.call457 (fun hH hN hsb hmm => (oF i Z H (.func (.func 458) #[] #[]) (fun (x : (Formula × Formula)) => jN x.1 x.2) _ _ ⟨hH, hN, hsb⟩ B ⟨458, #[], #[], rfl, Tryz.call458, fun W x vs r hs hR hm => by obtain ⟨_, _, rfl, M, N⟩ := hR; obtain ⟨u0, rfl, k0⟩ := M.out; obtain ⟨t0, rfl, j0⟩ := N.out; exact uE x.1 u0 x.2 t0 r W k0 j0 hm⟩ z)) (fun a4 a6 a7 a3 hST j hl19 t => ?_))
  obtain ⟨J, c, rfl, D⟩ := t
  replace c := c.symm; subst c
  replace hST := hST.perm (Tr Tn)
  refine aD (aG (aC (aA (V (aB rfl) (V (aF rfl) (aD (aG (aS ?_))))))))
  have hx := sj hm; subst hx
  exact dI (v := i) rfl rfl ⟨_, _, _, rfl, (hST.bkM (Kr Sn)), (y.trans j), (hl6.trans hl19), (ST.sub_hpx hST (eQ.mem (Kr Sn))), i, J, rfl, rfl, D⟩
theorem pd (g : Value) (a0 : List Formula) (x : List (Nat × Obj)) (Z : Value) (f1 : ((Formula × Formula)) → Option Bool) (r : List Formula) (w : World) {μ0 : aY} (h0 : ie μ0 (x ++ []) w) (B : bX 113 aH 5 μ0 g a0 x) (d2 : nY Tryz.prog Z μ0 (mO aH aH) (fun (r : Bool) => (.bool r)) f1) (hm : gL a0 f1 = some r) :
    dO false Tryz.prog 439 [g, Z] w μ0 (x ++ []) (fun v L1 μ1 => ∃ (y1 : Value), v = y1 ∧ L1 = [] ∧ Sl aH 5 μ1 y1 (r)) := by
  have hST := ST.startE (dd := false) h0
  unfold gL at hm
  refine cF 66 Tryz.func439 rfl (aC (aA (V (aF rfl) (aD (aG (aC (aC (aA (V (aB rfl) (V (oD Tryz.underlying111 rfl B) (V (aP rfl rfl rfl) (aD (aG (CI hm rfl (fun i1 hm => ?_) (fun i1 hm => ?_)))))))))))))))
  · refine aC (aA (V (aB rfl) (V (aF rfl) (aD (aG (aS (cR ?_)))))))
    have hx := sj hm; subst hx
    refine dI (v := g) rfl rfl ?_
    obtain ⟨μ2, hST, i0, hl4, i8⟩ := ST.pubD aQ hST B
    exact ⟨_, _, _, rfl, (hST.bkM Sn), i0, hl4, (ST.sub_hpx hST (eQ.mem Sn)), g, rfl, rfl, i8⟩
  refine aT (aG (aC (aC (aA (V (aF rfl) (aD (aG (aU (gH (fun m E W => ∃ (t : Int) (b7 : List (Nat × Obj)), ST false (keys (x ++ [])) w W μ0 (x ++ b7) ∧ E 0 = g ∧ E 1 = Z ∧ E 5 = (.int .i64 t) ∧ dR a0 f1 m t = some r) bR ⟨1, _, (hST.sel St), rfl, rfl, rfl, hm⟩ ?_)))))))))
  rintro m E W ⟨t, b7, hST, y, a3, G, a⟩
  cases m with
  | zero => rw [dR] at a; cases a
  | succ g8 =>
    rw [dR] at a
    refine aC (aC (aA (V (aB G) (V (aB y) (V (oD Tryz.underlying111 rfl B) (V (aP rfl rfl rfl) (aD (aG (CI a rfl (fun d3 a => ?_) (fun d3 a => ?_))))))))))
    · refine aT (aG (aC (aU (aC ?_))))
      replace hST := hST.drew
      have hS0 := hST.has.sel (Kr Sn)
      refine cU hS0 bO (X 0 rfl hS0 (aB a3) (X 1 rfl hS0 (aB y) (X 2 rfl hS0 (aB G) (bS a fun h5 b2 a => XQ 3 rfl hS0 (cQ (i := t) aH.out Tryz.underlying111 Tryz.sizeOf113 rfl rfl B (bM b2) (bJ b2)) (fun j9 ⟨_, ⟨h1, rfl, e7⟩, e0, i2⟩ => XH 4 rfl hS0 (fun _ hS => aI rfl (bN (gD.hp _) (e0.mono (dZ (fun b o hq => hS.2 b o (Ml hq)))) Tryz.isAgg113 Tryz.sizeOf113)) (X 5 rfl hS0 (aB y) (X 6 rfl hS0 (aB G) (X 7 rfl hS0 (aP rfl rfl rfl) (bS a fun h6 b3 a => XQ 8 rfl hS0 (cQ (i := (IntKind.i64.wrap (t - 1))) aH.out Tryz.underlying111 Tryz.sizeOf113 rfl rfl B (bM b3) (bJ b3)) (fun k0 ⟨_, ⟨h2, rfl, e8⟩, e1, i3⟩ => XH 9 rfl hS0 (fun _ hS => aI rfl (bN (gD.hp _) (e1.mono (dZ (fun b o hq => hS.2 b o (Ml hq)))) Tryz.isAgg113 Tryz.sizeOf113)) (bS a fun k5 e5 a => XE 10 rfl (oT ((h5, h6)) hST d2 (aW.refl _) (mO.mk aQ aQ (aH.mk ⟨h1, rfl, e7⟩) (aH.mk ⟨h2, rfl, e8⟩) hST.sub_hp) rfl (no rfl rfl) e5 (fun j4 hST => ?_)))))))))))))
      have hS0 := hST.has.sel (Kr Sn)
      refine ⟨hS0, (dC (by kernel_rfl) (aG (CI a rfl (fun d4 a => ?_) (fun d4 a => ?_))))⟩
      · refine aC (aA (V (aB y) (V (aB G) (bS a fun _ a7 a => VQ (qw (i := t) Tryz.underlying111 Tryz.sizeOf113 rfl rfl B (nE a7) (nR a7)) (fun c4 K => V (aF rfl) (aD (aG (aC (aC (aA (V (aF rfl) (aD (aG ?_)))))))))))))
        refine CJ a (fun T E W => ∃ (a2 : List (Nat × Obj)) (b9 : List (Nat × Obj)), ST false (keys (x ++ [])) w W μ0 (a2 ++ b9) ∧ E 0 = g ∧ E 5 = (.int .i64 T.2) ∧ bX 113 aH 5 μ0 g T.1 a2) (fun T d8 => ?_) ?_
        · refine aU (gH (fun m E W => ∃ (a5 : List Formula) (J : List (Nat × Obj)) (U : Int) (u : Int) (c0 : List (Nat × Obj)), ST false (keys (x ++ [])) w W μ0 (J ++ c0) ∧ E 0 = g ∧ E 1 = Z ∧ E 5 = (.int .i64 U) ∧ E 6 = c4 ∧ E 7 = (.int .i64 u) ∧ bX 113 aH 5 μ0 g a5 J ∧ dQ t f1 m a5 U u = some T) bR ⟨a0, x, t, 1, _, (hST.sel St), y, a3, G, rfl, rfl, B, d8⟩ ?_)
          rintro m E W ⟨a5, J, U, u, c0, hST, N, a4, Q, H, I, k, j⟩
          cases m with
          | zero => rw [dQ] at j; cases j
          | succ g9 =>
            rw [dQ] at j
            refine aC (aC (aA (V (aB I) (V (aB H) (V (A4 Tryz.underlying111 rfl K k) (V (aP rfl rfl rfl) (aD (aG (CI j rfl (fun d5 j => ?_) (fun d5 j => ?_))))))))))
            · refine aT (aG (aC (CJ j (fun a6 E W => ∃ (M : List (Nat × Obj)) (c1 : List (Nat × Obj)), ST false (keys (x ++ [])) w W μ0 (M ++ c1) ∧ E 0 = g ∧ E 1 = Z ∧ E 5 = (.int .i64 a6.2) ∧ E 6 = c4 ∧ E 7 = (.int .i64 u) ∧ bX 113 aH 5 μ0 g a6.1 M) (fun a6 c => ?_) ?_)))
              · refine aU (aC ?_)
                replace hST := hST.drew
                have hS0 := hST.has.sel (Kr Sn)
                refine cU hS0 bO (X 0 rfl hS0 (aB a4) (X 1 rfl hS0 (aB H) (X 2 rfl hS0 (aB I) (bS c fun h8 b4 c => XQ 3 rfl hS0 (qm (i := u) aH.out Tryz.underlying111 Tryz.sizeOf113 rfl rfl k K (bM b4) (bJ b4)) (fun k1 ⟨_, ⟨h3, rfl, f4⟩, e2, i4⟩ => XH 4 rfl hS0 (fun _ hS => aI rfl (bN (gD.hp _) (e2.mono (dZ (fun b o hq => hS.2 b o (Ml hq)))) Tryz.isAgg113 Tryz.sizeOf113)) (X 5 rfl hS0 (aB H) (X 6 rfl hS0 (aB I) (X 7 rfl hS0 (aP rfl rfl rfl) (bS c fun h9 b5 c => XQ 8 rfl hS0 (qm (i := (IntKind.i64.wrap (u - 1))) aH.out Tryz.underlying111 Tryz.sizeOf113 rfl rfl k K (bM b5) (bJ b5)) (fun k2 ⟨_, ⟨h4, rfl, f5⟩, e3, i5⟩ => XH 9 rfl hS0 (fun _ hS => aI rfl (bN (gD.hp _) (e3.mono (dZ (fun b o hq => hS.2 b o (Ml hq)))) Tryz.isAgg113 Tryz.sizeOf113)) (bS c fun k6 e6 c => XE 10 rfl (oT ((h8, h9)) hST d2 (aW.refl _) (mO.mk aQ aQ (aH.mk ⟨h3, rfl, f4⟩) (aH.mk ⟨h4, rfl, f5⟩) hST.sub_hp) rfl (no rfl rfl) e6 (fun j6 hST => ?_)))))))))))))
                have hS0 := hST.has.sel (Kr Sn)
                refine ⟨hS0, (X 11 rfl hS0 (iS rfl) (dC (by kernel_rfl) (aG (CI c rfl (fun d6 c => ?_) (fun d6 c => ?_)))))⟩
                · refine aC (aA (V (aB N) (V (aB Q) (V (aB H) (V (aB I) (bS c fun c7 b6 c => VQ (qm (i := u) aH.out Tryz.underlying111 Tryz.sizeOf113 rfl rfl k K (bM b6) (bJ b6)) (fun k3 ⟨_, ⟨k8, rfl, b1⟩, e4, i6⟩ => V (aI rfl (bN (gD.hp _) (e4.mono (dZ (fun b o hq => hST.has.2 b o (Ml hq)))) Tryz.isAgg113 Tryz.sizeOf113)) (bS c fun l0 Y c => VQ (cQ (i := U) aH.out Tryz.underlying111 Tryz.sizeOf113 rfl rfl k (bM Y) (bJ Y)) (fun k4 ⟨_, ⟨k9, rfl, i9⟩, i7, d7⟩ => ?_)))))))))
                  obtain ⟨f7, g0, rfl⟩ := b1.form
                  refine VO (jC (x1 := c7) aQ hST k rfl rfl (aH.mk ⟨(.slice f7 c7.Kids.length g0), rfl, b1⟩) d7 (bJ Y) Tryz.sizeOf113 (fun j7 f8 hST d1 => aD (aG (aA (V (aB Q) (V (aP rfl rfl rfl) (V (aF rfl) (aD (cM (aG ?_))))))))))
                  have hx := sj c; subst hx
                  exact ⟨f8, _, (hST.sel St), N, a4, rfl, H, I, d1⟩
                refine aT (cM (aG ?_))
                have hx := sj c; subst hx
                exact ⟨J, _, (hST.sel St), N, a4, Q, H, I, k⟩
              rintro ⟨g7, h7⟩ E W ⟨M, c1, hST, g1, g2, g3, g4, g5, f3⟩ d9
              exact aA (V (aB g5) (V (aP rfl rfl rfl) (V (aF rfl) (aD (aG ⟨g9, Nat.lt_succ_self _, g7, M, h7, ((IntKind.i64.wrap (u + 1))), _, (hST.sel St), g1, g2, g3, g4, rfl, f3, d9⟩)))))
            refine gI (gc (gc (li (aG ?_))))
            have hx := sj j; subst hx
            exact ⟨J, _, (hST.sel St), N, Q, k⟩
        rintro ⟨j8, c6⟩ E W ⟨a2, b9, hST, c2, c3, b0⟩ D
        refine aC (aA (V (aB c2) (V (aB c3) (bS D fun _ a8 D => VQ (qw (i := c6) Tryz.underlying111 Tryz.sizeOf113 rfl rfl b0 (nE a8) (nR a8)) (fun k7 e9 => VO (tq (z := (⟨0, 0, K0, []⟩ : Formula)) (zs := C5) aQ hST b0 (aH.mk ⟨(.slice none 0 0), rfl, (Sl.nil _ _ _)⟩) Tryz.underlying111 Tryz.zeroValue113 e9 rfl rfl (fun j5 j3 hST d0 => aD (aG (aC (aA (V (aB c2) (V (aB c3) (bS D fun _ a9 D => VQ (vL (i := c6) Tryz.underlying111 Tryz.sizeOf113 rfl rfl d0 (nE a9) (nR a9)) (fun c5 f0 => ?_))))))))))))))
        refine V (aF rfl) (aD (aG (aS (gA (cR (cR (gA (cR ?_))))))))
        have hx := sj D; subst hx
        refine dI (v := c5) rfl rfl ?_
        obtain ⟨l1, hST, c8, hl6562, f2⟩ := ST.pubD aQ hST f0
        exact ⟨_, _, _, rfl, (hST.bkM Sn), c8, hl6562, (ST.sub_hpx hST (eQ.mem Sn)), c5, rfl, rfl, f2⟩
      exact aT (cM (aG (aA (V (aB G) (V (aP rfl rfl rfl) (V (aF rfl) (aD (aG ⟨g8, Nat.lt_succ_self _, ((IntKind.i64.wrap (t + 1))), _, (hST.sel St), y, a3, rfl, a⟩))))))))
    refine gI (gc (gc (li (aG (aC (aA (V (aB y) (V (aF rfl) (aD (aG (aS ?_)))))))))))
    have hx := sj a; subst hx
    refine dI (v := g) rfl rfl ?_
    obtain ⟨l2, hST, c9, hl7116, f6⟩ := ST.pubD aQ hST B
    exact ⟨_, _, _, rfl, (hST.bkM Sn), c9, hl7116, (ST.sub_hpx hST (eQ.mem Sn)), g, rfl, rfl, f6⟩
theorem jB (G : Value) (N : List Formula) (H : Value) (a1 : List Formula) (I : Value) (f2 : ((Formula × Formula)) → Option Bool) (r : Bool) (w : World) (x : Sl aH 5 (hp w) G N) (Q : Sl aH 5 (hp w) H a1) (a7 : nY Tryz.prog I (hp w) (mO aH aH) (fun (r : Bool) => (.bool r)) f2) (hm : dF N a1 f2 = some r) :
    bW false Tryz.prog 459 [G, H, I] w (.bool r) := by
  have hST := ST.start (dd := false) w
  unfold dF at hm
  refine cF 32 Tryz.func459 rfl (aC (aA (V (aF rfl) (aD (aG (aC (aC (aA (V (aB rfl) (V (eH Tryz.underlying111 rfl x) (V (aB rfl) (V (eH Tryz.underlying111 rfl Q) (V (aP rfl rfl rfl) (aD ?_))))))))))))))
  refine aG (CI hm rfl (fun b0 hm => ?_) (fun b0 hm => ?_))
  · refine aC (aA (V (aF rfl) (aD (aG (aS (cR ?_))))))
    have hx := sj hm; subst hx
    exact rP hST
  refine aT (aG (aC (aC (aA (V (aB rfl) (V (eH Tryz.underlying111 rfl x) (V (aB rfl) (aD (aG (dP (fun i E W => ∃  (y : List (Nat × Obj)), (E 17 = .int .i64 (i : Nat) ∧ E 16 = .int .i64 (N.length : Nat)) ∧ ST false dW w W (hp w) y ∧ E 1 = H ∧ E 2 = I ∧ E 15 = G ∧ bH a1 f2 (N.drop i) i = some r) N.length x.len ⟨_, ⟨rfl, rfl⟩, (hST.sel St), rfl, rfl, rfl, hm⟩ (by decide) (by decide) (by decide) (fun _ _ _ h => by obtain ⟨_, eIN, _⟩ := h; exact eIN) ?_ ?_))))))))))
  · rintro a4 E W U ⟨y, ⟨eI, eN⟩, hST, z, B, D, a⟩
    obtain ⟨g, c5, a9, a8, a3⟩ := dB U
    rw [a9] at a
    rw [bH] at a
    refine aU (aC (aA (V (aB eI) (VQ (fN (i := (a4 : Int)) (x0 := g) aH.out Tryz.underlying111 Tryz.sizeOf113 D eI x (Int.natCast_nonneg _) a8) (fun b9 ⟨_, ⟨c2, rfl, J⟩, Y⟩ => V (aI rfl (bN hST.has Y Tryz.isAgg113 Tryz.sizeOf113)) (VE (cA hST Tryz.zeroValue113 (fun b1 b6 hST => V (aF rfl) ?_))))))))
    obtain ⟨j, t, rfl⟩ := J.form
    refine VO (aX (.agg (C2 g.Op g.K g.Role.Owner g.Role.Word j g.Kids.length t).toArray) ((C2 g.Op g.K g.Role.Owner g.Role.Word j g.Kids.length t).toArray) hST rfl rfl Tryz.sizeOf113 (by simp [Value.cells, Value.oneCell']) nb rfl (fun b2 hST => aD (aG (aC (aA (V (aB z) (V (aB rfl) (bS a fun c M a => VQ (fN (i := (a4 : Int)) (x0 := c) aH.out Tryz.underlying111 Tryz.sizeOf113 rfl rfl Q (bM M) (bJ M)) (fun c0 ⟨_, ⟨c3, rfl, K⟩, Z⟩ => V (aI rfl (bN hST.has Z Tryz.isAgg113 Tryz.sizeOf113)) (VE (cA hST Tryz.zeroValue113 (fun b3 b7 hST => ?_))))))))))))
    obtain ⟨k, u, rfl⟩ := K.form
    refine VO (aX (.agg (C2 c.Op c.K c.Role.Owner c.Role.Word k c.Kids.length u).toArray) ((C2 c.Op c.K c.Role.Owner c.Role.Word k c.Kids.length u).toArray) hST rfl rfl Tryz.sizeOf113 (by simp [Value.cells, Value.oneCell']) nb rfl (fun b4 hST => aD (aG (aC (aA (V (aB B) (V (aI rfl (aK hST.has (Mt Mh) (C2 g.Op g.K g.Role.Owner g.Role.Word j g.Kids.length t) rfl Tryz.isAgg113 Tryz.sizeOf113)) (V (aI rfl (aK hST.has Mh (C2 c.Op c.K c.Role.Owner c.Role.Word k c.Kids.length u) rfl Tryz.isAgg113 Tryz.sizeOf113)) (bS a fun c1 a2 a => VE (oT ((g, c)) hST a7 (aW.refl _) (mO.mk aQ aQ (aH.mk ⟨(.slice j g.Kids.length t), rfl, J⟩) (aH.mk ⟨(.slice k c.Kids.length u), rfl, K⟩) hST.sub_hp) rfl (no rfl rfl) a2 (fun b5 hST => V (iS rfl) (aD (aG ?_)))))))))))))
    replace hST := hST.sel (Db (Db St))
    refine CI a rfl (fun T a => ?_) (fun T a => ?_)
    · refine aC (aA (V (aF rfl) (aD (aG (aS (gA (cR (gA (cR ?_)))))))))
      have hx := sj a; subst hx
      exact rP hST
    exact aT (cM (aG ⟨eI, _, ⟨rfl, eN⟩, (hST.sel St), z, B, D, (by rw [a3]; exact a)⟩))
  rintro E W ⟨y, ⟨eI, eN⟩, hST, z, B, D, a⟩
  rw [List.drop_length] at a
  rw [bH] at a
  refine aG (aC (aA (V (aF rfl) (aD (aG (aS ?_))))))
  have hx := sj a; subst hx
  exact rP hST
theorem te (M : Formula → Formula → Option Bool) (b5 : ∀ (a : Formula) (j : Value) (c : Formula) (k : Value) (r : Bool) (w : World) (u : Sl aH 5 (hp w) j a.Kids) (y : Sl aH 5 (hp w) k c.Kids), M a c = some r → bW false Tryz.prog 440 [(.agg #[(.int .i64 a.Op), (.int .i64 a.K), (.string a.Role.Owner), (.string a.Role.Word), j]), (.agg #[(.int .i64 c.Op), (.int .i64 c.K), (.string c.Role.Owner), (.string c.Role.Word), k])] w (.bool r)) (a : Formula) (j : Value) (c : Formula) (k : Value) (r : Bool) (w : World) (u : Sl aH 5 (hp w) j a.Kids) (y : Sl aH 5 (hp w) k c.Kids) (hm : lB M a c = some r) :
    bW false Tryz.prog 440 [(.agg #[(.int .i64 a.Op), (.int .i64 a.K), (.string a.Role.Owner), (.string a.Role.Word), j]), (.agg #[(.int .i64 c.Op), (.int .i64 c.K), (.string c.Role.Owner), (.string c.Role.Word), k])] w (.bool r) := by
  have hST := ST.start (dd := false) w
  unfold lB at hm
  refine cF 31 Tryz.func440 rfl (aC (aA ?_))
  obtain ⟨N, Y, rfl⟩ := u.form
  refine VE (cH (v := (.agg (C2 a.Op a.K a.Role.Owner a.Role.Word N a.Kids.length Y).toArray)) hST rfl (fun W4 T hST => ?_))
  obtain ⟨Q, Z, rfl⟩ := y.form
  refine VE (cH (v := (.agg (C2 c.Op c.K c.Role.Owner c.Role.Word Q c.Kids.length Z).toArray)) hST rfl (fun W8 U hST => V (aF rfl) (aD (aG (aC (aA (V (aM kC rfl) (V (aI rfl (aN hST.has (Mt Mh) rfl Tryz.isAgg3)) (V (aM kC rfl) (V (aI rfl (aN hST.has Mh rfl Tryz.isAgg3)) (V (aP rfl rfl rfl) (V (aB rfl) (LJ hm (fun a9 E W => ∃  (a2 : List (Nat × Obj)), ST false dW w W (hp w) ((U, Obj.cells ((C2 c.Op c.K c.Role.Owner c.Role.Word Q c.Kids.length Z).toArray : Array Value) 113 (0, 0)) :: ((T, Obj.cells ((C2 a.Op a.K a.Role.Owner a.Role.Word N a.Kids.length Y).toArray : Array Value) 113 (0, 0)) :: a2)) ∧ E 2 = (.pointer (some ⟨T, 0, none⟩)) ∧ E 3 = (.pointer (some ⟨U, 0, none⟩)) ∧ E 4 = (.bool false) ∧ E 16 = (.bool a9)) 6 ?_ (fun a9 D I => ?_))))))))))))))
  · rintro d1 E W ⟨a2, hST, J, K, a5, b6⟩ b0
    refine V (aB b6) (LJ b0 (fun a8 E W => ∃  (a3 : List (Nat × Obj)), ST false dW w W (hp w) ((U, Obj.cells ((C2 c.Op c.K c.Role.Owner c.Role.Word Q c.Kids.length Z).toArray : Array Value) 113 (0, 0)) :: ((T, Obj.cells ((C2 a.Op a.K a.Role.Owner a.Role.Word N a.Kids.length Y).toArray : Array Value) 113 (0, 0)) :: a3)) ∧ E 2 = (.pointer (some ⟨T, 0, none⟩)) ∧ E 3 = (.pointer (some ⟨U, 0, none⟩)) ∧ E 4 = (.bool false) ∧ E 23 = (.bool a8)) 6 ?_ (fun a8 B H => ?_))
    · rintro d2 E W ⟨a3, hST, b9, c0, a6, c1⟩ b1
      refine V (aB c1) (LJ b1 (fun a7 E W => ∃  (a4 : List (Nat × Obj)), ST false dW w W (hp w) a4 ∧ E 4 = (.bool false) ∧ E 30 = (.bool a7)) 6 ?_ (fun a7 z G => ?_))
      · rintro d3 E W ⟨a4, hST, c9, c3⟩ b2
        refine V (aF c3) (aD (aG (aS ?_)))
        have hx := sj b2; subst hx
        exact rP hST
      refine bC z (fun i z => ?_) (fun i z => ?_)
      · refine Vg rfl (cB i) (aM jL b9) (Vg rfl (cB i) (aI rfl (aN hST.has (Mt Mh) rfl Tryz.isAgg111)) (Vg rfl (cB i) (aM jL c0) (Vg rfl (cB i) (aI rfl (aN hST.has Mh rfl Tryz.isAgg111)) (bS z fun d0 b4 z => np rfl (cB i) (Eg hST Tryz.call459 ((jB (.slice N a.Kids.length Y) a.Kids (.slice Q c.Kids.length Z) c.Kids (.func (.func 440) #[] #[]) (fun (x : (Formula × Formula)) => M x.1 x.2) _ _ (u.mono aQ.mono hST.sub_hp) (y.mono aQ.mono hST.sub_hp) ⟨440, #[], #[], rfl, Tryz.call440, fun W x vs r hs hR hm => by obtain ⟨_, _, rfl, c4, c5⟩ := hR; obtain ⟨u0, rfl, k0⟩ := c4.out; obtain ⟨t0, rfl, j0⟩ := c5.out; exact b5 x.1 u0 x.2 t0 r W k0 j0 hm⟩ b4)) (fun c8 hST => V (cD (cB i) rfl) ?_))))))
        have hx := sj z; subst hx
        exact G _ _ ⟨_, (hST.sel (Db (Db St))), a6, rfl⟩
      refine Vn rfl (cB i) (Vn rfl (cB i) (Vn rfl (cB i) (Vn rfl (cB i) (Vn rfl (cB i) (V (cI (cB i) rfl) ?_)))))
      have hx := sj z; subst hx
      exact G _ _ ⟨_, (hST.sel (Db (Db St))), a6, rfl⟩
    refine bC B (fun g B => ?_) (fun g B => ?_)
    · refine Vg rfl (cB g) (aM nL J) (Vg rfl (cB g) (aI rfl (aK hST.has (Mt Mh) (aO a.Role) rfl Tryz.isAgg28 Tryz.sizeOf28)) (Vg rfl (cB g) (aM nL K) (Vg rfl (cB g) (aI rfl (aK hST.has Mh (aO c.Role) rfl Tryz.isAgg28 Tryz.sizeOf28)) (Vg rfl (cB g) (qc rfl rfl (kT Tryz.eqGuardType28) (nP (ot _ a.Role c.Role))) (V (cD (cB g) rfl) ?_)))))
      have hx := sj B; subst hx
      exact H _ _ ⟨_, (hST.sel St), J, K, a5, rfl⟩
    refine Vn rfl (cB g) (Vn rfl (cB g) (Vn rfl (cB g) (Vn rfl (cB g) (Vn rfl (cB g) (V (cI (cB g) rfl) ?_)))))
    have hx := sj B; subst hx
    exact H _ _ ⟨_, (hST.sel St), J, K, a5, rfl⟩
  refine bC D (fun t D => ?_) (fun t D => ?_)
  · refine Vg rfl (cB t) (aM nK rfl) (Vg rfl (cB t) (aI rfl (aN hST.has (Mt Mh) rfl Tryz.isAgg3)) (Vg rfl (cB t) (aM nK rfl) (Vg rfl (cB t) (aI rfl (aN hST.has Mh rfl Tryz.isAgg3)) (Vg rfl (cB t) (aP rfl rfl rfl) (V (cD (cB t) rfl) ?_)))))
    have hx := sj D; subst hx
    exact I _ _ ⟨_, (hST.sel St), rfl, rfl, rfl, rfl⟩
  refine Vn rfl (cB t) (Vn rfl (cB t) (Vn rfl (cB t) (Vn rfl (cB t) (Vn rfl (cB t) (V (cI (cB t) rfl) ?_)))))
  have hx := sj D; subst hx
  exact I _ _ ⟨_, (hST.sel St), rfl, rfl, rfl, rfl⟩
theorem rL : ∀ (n : Nat) (g : Formula) (a : Value) (i : Formula) (c : Value) (r : Bool) (w : World) (j : Sl aH 5 (hp w) a g.Kids) (k : Sl aH 5 (hp w) c i.Kids) (_ : gJ n g i = some r),
    bW false Tryz.prog 440 [(.agg #[(.int .i64 g.Op), (.int .i64 g.K), (.string g.Role.Owner), (.string g.Role.Word), a]), (.agg #[(.int .i64 i.Op), (.int .i64 i.K), (.string i.Role.Owner), (.string i.Role.Word), c])] w (.bool r)
  | 0 => by intros; rename_i h; simp only [gJ] at h; cases h
  | n + 1 => te (gJ n) (rL n)
theorem lu (j : Nat) (a0 : bK) (c : Int) (K : Value) (a2 : List Formula) (r : (Formula × bK)) (w : World) {μ0 : aY} (h0 : ie μ0 ((j, Obj.cells ((cK a0).toArray : Array Value) 376 (0, 0)) :: []) w) (b5 : Sl aH 5 μ0 K a2) (hm : fO a0 c a2 = some r) :
    dO false Tryz.prog 407 [(.pointer (some ⟨j, 0, none⟩)), (.int .i64 c), K] w μ0 ((j, Obj.cells ((cK a0).toArray : Array Value) 376 (0, 0)) :: []) (fun v L1 μ1 => ∃ (y1 : Value), v = (.agg #[(.int .i64 ((r.1).Op)), (.int .i64 ((r.1).K)), (.string (((r.1).Role).Owner)), (.string (((r.1).Role).Word)), y1]) ∧ L1 = ((j, Obj.cells ((cK (r.2)).toArray : Array Value) 376 (0, 0)) :: []) ∧ Sl aH 5 μ1 y1 ((r.1).Kids)) := by
  have hST := ST.startE (dd := false) h0
  unfold fO at hm
  refine cF 37 Tryz.func407 rfl (aC (aA (VE (cA hST Tryz.zeroValue113 (fun W2 b1 hST => aD (aG (aC (aA (V (aB rfl) (V (aP rfl rfl rfl) (VE (cA hST Tryz.zeroValue3 (fun W4 b3 hST => VO (aX (.int .i64 ((IntKind.i64.wrap (5 - c)))) (#[(.int .i64 ((IntKind.i64.wrap (5 - c))))]) hST rfl rfl Tryz.sizeOf3 (vC _ ((IntKind.i64.wrap (5 - c)))) nb rfl (fun W5 hST => aD (aG (aC ?_)))))))))))))))))
  refine aA (V (aB rfl) (V (aB rfl) (bS hm fun r6 d1 hm => ?_)))
  have hsz := hST.size
  refine VE (je hST (List.Perm.refl _) Tryz.call437 (fun hH hN hsb hmm => dO.weak (xO c K a2 _ _ ⟨hH, hN, hsb⟩ (b5.mono aQ.mono (aW.refl _)) d1)) (fun W8 f4 μ9 e2 hST B hl11 b0 => ?_) (L0 := []))
  obtain ⟨a7, H, rfl, a3⟩ := b0
  replace H := H.symm; subst H
  replace hST := hST.perm Tn
  refine V (aF rfl) (aD (aG (aC (aC (aA (V (aB rfl) (V (ko (by exact lQ rfl) rfl) (bS hm fun f3 c1 hm => VE (Eg hST Tryz.call310 ((me a7 r6 (.func (.func 438) #[] #[(.pointer (some ⟨b3, 0, none⟩))]) (fun (x : Formula) => ii x ((IntKind.i64.wrap (5 - c)))) _ _ (a3.mono aQ.mono hST.sub_hp) ⟨438, #[], #[(.pointer (some ⟨b3, 0, none⟩))], rfl, Tryz.call438, fun W x vs r hs hR hm => by obtain ⟨_, rfl, U⟩ := hR; obtain ⟨u0, rfl, k0⟩ := U.out; exact (qa x u0 b3 ((IntKind.i64.wrap (5 - c))) r W k0 (At.of (hs _ _ (hST.at_ Mh)) _ rfl) hm).weak⟩ c1)) (fun e5 hST => aD (aG (CI hm rfl (fun b6 hm => ?_) (fun b6 hm => ?_)))))))))))))
  · refine aC (aA (V (aI rfl (aN hST.has Mh rfl Tryz.isAgg3)) (V (dX (qs := #[(0, (.int .i64 ((IntKind.i64.wrap (5 - c)))))]) (v := (.agg (Bo ((IntKind.i64.wrap (5 - c)))).toArray)) (fH rfl) (cV Tryz.zeroValue113 Tryz.underlying113 (nQ _ Tryz.underlying113) (by kernel_rfl))) ?_)))
    replace hST := hST.perm (Nb (Pb Pz) Nz)
    refine VO (aX (.agg (Bo ((IntKind.i64.wrap (5 - c)))).toArray) ((Bo ((IntKind.i64.wrap (5 - c)))).toArray) hST rfl rfl Tryz.sizeOf113 (by simp [Value.cells, Value.oneCell']) nb rfl (fun e6 hST => aD (aG ?_)))
    replace hST := hST.sel (Kb (Db St))
    refine aS (cR ?_)
    have hx := sj hm; subst hx
    exact ju (v := (.agg (Bo ((IntKind.i64.wrap (5 - c)))).toArray)) rfl rfl (aK hST.has Mh (Bo ((IntKind.i64.wrap (5 - c)))) rfl Tryz.isAgg113 Tryz.sizeOf113) ⟨_, _, _, rfl, (hST.bkM (Db (Kb Sn))), B, hl11, (ST.sub_hpx hST (eQ.mem (Db (Kb Sn)))), (.slice none 0 0), rfl, rfl, (Sl.nil _ _ _)⟩
  refine aT (aG ?_)
  replace hST := hST.sel (Db St)
  refine aC (aA (V (aB rfl) (bS hm fun d2 c2 hm => ?_)))
  have hsz := hST.size
  refine VE (je hST (List.Perm.refl _) Tryz.call436 (fun hH hN hsb hmm => (rF a7 r6 _ _ ⟨hH, hN, hsb⟩ (a3.mono aQ.mono (aW.refl _)) c2)) (fun e7 f5 f9 e3 hST N hl29 b2 => ?_) (L0 := []))
  obtain ⟨d5, c7, I, rfl, c4⟩ := b2
  replace I := I.symm; subst I
  replace hST := hST.perm (Tr Tn)
  refine bS hm fun z c3 hm => ?_
  have hsz := hST.size
  refine VE (je hST (Cr Qz Cn) Tryz.call439 (fun hH hN hsb hmm => (pd d5 d2 c7 (.func (.func 440) #[] #[]) (fun (x : (Formula × Formula)) => gJ bR x.1 x.2) _ _ ⟨hH, hN, hsb⟩ c4 ⟨440, #[], #[], rfl, Tryz.call440, fun W x vs r hs hR hm => by obtain ⟨_, _, rfl, U, d0⟩ := hR; obtain ⟨u0, rfl, k0⟩ := U.out; obtain ⟨t0, rfl, j0⟩ := d0.out; exact (rL bR) x.1 u0 x.2 t0 r W k0 j0 hm⟩ c3)) (fun e8 f6 d7 e4 hST Q hl42 b4 => ?_))
  obtain ⟨d6, J, rfl, y⟩ := b4
  replace J := J.symm; subst J
  replace hST := hST.perm Tn
  refine V (aF rfl) (aD (aG (aC (CJ hm (fun a6 E W => ∃  (a5 : List (Nat × Obj)), ST false (keys ((j, Obj.cells ((cK a0).toArray : Array Value) 376 (0, 0)) :: [])) w W d7 ((b1, Obj.cells (C5.toArray : Array Value) 113 (0, 0)) :: ((j, Obj.cells ((cK a6).toArray : Array Value) 376 (0, 0)) :: a5)) ∧ E 1 = (.int .i64 c) ∧ E 6 = (.pointer (some ⟨b1, 0, none⟩)) ∧ E 8 = d6) (fun a6 u => ?_) ?_))))
  · refine aC (aA (V (aB rfl) (V (eH Tryz.underlying111 rfl y) (V (aP rfl rfl rfl) (aD (aG (CI u rfl (fun b9 u => ?_) (fun b9 u => ?_))))))))
    · refine aA (V (aB rfl) (V (bP rfl) (V (aM zX rfl) ?_)))
      replace hST := hST.perm (Nb (Pb Pz) Nz)
      refine VO (aX (.int .i64 12) ((cK ((⟨12⟩ : bK))).toArray) hST rfl rfl Tryz.sizeOf57 (vC _ 12) nb rfl (fun f1 hST => aD (aG ?_)))
      have hx := sj u; subst hx
      exact ⟨_, (hST.sel (Sb (Pb Pz) St)), rfl, rfl, rfl⟩
    refine aT (aG ?_)
    have hx := sj u; subst hx
    exact ⟨_, (hST.sel St), rfl, rfl, rfl⟩
  rintro f8 E W ⟨a5, hST, c9, M, T⟩ g
  refine aC (aC (aA (V (aB T) (V (eH Tryz.underlying111 rfl y) (V (aP rfl rfl rfl) (aD (aG (CI g rfl (fun b7 g => ?_) (fun b7 g => ?_)))))))))
  · refine aC (aA (V (aB T) (bS g fun a Z g => VQ (fN (i := 0) (x0 := a) aH.out Tryz.underlying111 Tryz.sizeOf113 rfl rfl y (bM Z) (bJ Z)) (fun f2 ⟨_, ⟨f7, rfl, Y⟩, c0⟩ => V (aI rfl (bN hST.has c0 Tryz.isAgg113 Tryz.sizeOf113)) ?_))))
    obtain ⟨D, G, rfl⟩ := Y.form
    refine VO (aX (.agg (C2 a.Op a.K a.Role.Owner a.Role.Word D a.Kids.length G).toArray) ((C2 a.Op a.K a.Role.Owner a.Role.Word D a.Kids.length G).toArray) hST M rfl Tryz.sizeOf113 (by simp [Value.cells, Value.oneCell']) nb rfl (fun e9 hST => aD (aG (aS (cR ?_)))))
    have hx := sj g; subst hx
    exact ju (v := (.agg (C2 a.Op a.K a.Role.Owner a.Role.Word D a.Kids.length G).toArray)) rfl M (aK hST.has Mh (C2 a.Op a.K a.Role.Owner a.Role.Word D a.Kids.length G) rfl Tryz.isAgg113 Tryz.sizeOf113) ⟨_, _, _, rfl, (hST.bkM (Db (Kb Sn))), ((B.trans N).trans Q), ((hl11.trans hl29).trans hl42), (ST.sub_hpx hST (eQ.mem (Db (Kb Sn)))), (.slice D a.Kids.length G), rfl, rfl, Y⟩
  refine aT (aG (aC (aA (V (aB c9) (V (aB T) ?_)))))
  obtain ⟨k, t, rfl⟩ := y.form
  refine V (dX (qs := #[(0, (.int .i64 c)), (3, (.slice k z.length t))]) (v := (.agg #[(.int .i64 c), (.int .i64 0), (.string zS), (.string zS), (.slice k z.length t)])) (iK rfl rfl) (cV Tryz.zeroValue113 Tryz.underlying113 (nQ _ Tryz.underlying113) (by kernel_rfl))) (VO (aX (.agg #[(.int .i64 c), (.int .i64 0), (.string zS), (.string zS), (.slice k z.length t)]) (#[(.int .i64 c), (.int .i64 0), (.string zS), (.string zS), (.slice k z.length t)]) hST M rfl Tryz.sizeOf113 (by simp [Value.cells, Value.oneCell']) nb rfl (fun f0 hST => aD (aG (aS ?_)))))
  have hx := sj g; subst hx
  exact ju (v := (.agg #[(.int .i64 c), (.int .i64 0), (.string zS), (.string zS), (.slice k z.length t)])) rfl M (aK hST.has Mh [(.int .i64 c), (.int .i64 0), (.string zS), (.string zS), (.slice k z.length t)] rfl Tryz.isAgg113 Tryz.sizeOf113) ⟨_, _, _, rfl, (hST.bkM (Db (Kb Sn))), ((B.trans N).trans Q), ((hl11.trans hl29).trans hl42), (ST.sub_hpx hST (eQ.mem (Db (Kb Sn)))), (.slice k z.length t), rfl, rfl, y⟩
theorem pV (G : Nat) (a0 : bK) (a1 : Int) (c2 : Value) (a2 : List Formula) (r : (Formula × bK)) (w : World) {μ0 : aY} (h0 : ie μ0 ((G, Obj.cells ((cK a0).toArray : Array Value) 376 (0, 0)) :: []) w) (c1 : Sl aH 5 μ0 c2 a2) (hm : ip a0 a1 a2 = some r) :
    dO false Tryz.prog 406 [(.pointer (some ⟨G, 0, none⟩)), (.int .i64 a1), c2] w μ0 ((G, Obj.cells ((cK a0).toArray : Array Value) 376 (0, 0)) :: []) (fun v L1 μ1 => ∃ (y1 : Value), v = (.agg #[(.int .i64 ((r.1).Op)), (.int .i64 ((r.1).K)), (.string (((r.1).Role).Owner)), (.string (((r.1).Role).Word)), y1]) ∧ L1 = ((G, Obj.cells ((cK (r.2)).toArray : Array Value) 376 (0, 0)) :: []) ∧ Sl aH 5 μ1 y1 ((r.1).Kids)) := by
  have hST := ST.startE (dd := false) h0
  unfold ip at hm
  refine cF 58 Tryz.func406 rfl (aC (aA (VE (cA hST Tryz.zeroValue113 (fun W2 b1 hST => aD (aG (aC (aA (V (aF rfl) (aD (aG (aC (aC (aA (V (aB rfl) ?_)))))))))))))))
  refine V (eH Tryz.underlying111 rfl c1) (V (aB rfl) (aD (aG (dP (fun i E W => ∃ (x : Int) (K : Value) (J : List Formula) (N : List (Nat × Obj)) (c0 : List (Nat × Obj)), (E 12 = .int .i64 (i : Nat) ∧ E 11 = .int .i64 (a2.length : Nat)) ∧ ST false (keys ((G, Obj.cells ((cK a0).toArray : Array Value) 376 (0, 0)) :: [])) w W μ0 ((b1, Obj.cells (C5.toArray : Array Value) 113 (0, 0)) :: ((G, Obj.cells ((cK a0).toArray : Array Value) 376 (0, 0)) :: (N ++ c0))) ∧ E 0 = (.pointer (some ⟨G, 0, none⟩)) ∧ E 1 = (.int .i64 x) ∧ E 6 = (.pointer (some ⟨b1, 0, none⟩)) ∧ E 7 = K ∧ E 10 = c2 ∧ bX 113 aH 5 μ0 K J N ∧ dG a0 (a2.drop i) x J = some r) a2.length c1.len ⟨a1, (.slice none 0 0), ([]), [], _, ⟨rfl, rfl⟩, (hST.sel St), rfl, rfl, rfl, rfl, rfl, (bX.nil _ _ _ _), hm⟩ (by decide) (by decide) (by decide) (fun _ _ _ h => by obtain ⟨_, _, _, _, _, eIN, _⟩ := h; exact eIN) ?_ ?_))))
  · rintro g9 E W f2 ⟨x, K, J, N, c0, ⟨eI, eN⟩, hST, U, H, u, I, b0, D, a⟩
    obtain ⟨c, h6, g6, g5, b7⟩ := dB f2
    rw [g6] at a
    rw [dG] at a
    refine aU (aC (aA (VQ (fN (i := (g9 : Int)) (x0 := c) aH.out Tryz.underlying111 Tryz.sizeOf113 b0 eI c1 (Int.natCast_nonneg _) g5) (fun k5 ⟨_, ⟨k8, rfl, Y⟩, f3⟩ => V (aI rfl (bN hST.has f3 Tryz.isAgg113 Tryz.sizeOf113)) (VE (cA hST Tryz.zeroValue113 (fun i4 k2 hST => ?_)))))))
    obtain ⟨y, z, rfl⟩ := Y.form
    refine VO (aX (.agg (C2 c.Op c.K c.Role.Owner c.Role.Word y c.Kids.length z).toArray) ((C2 c.Op c.K c.Role.Owner c.Role.Word y c.Kids.length z).toArray) hST rfl rfl Tryz.sizeOf113 (by simp [Value.cells, Value.oneCell']) nb rfl (fun i5 hST => aD (aG (aU (aC (aA (V (aI rfl (aK hST.has Mh (C2 c.Op c.K c.Role.Owner c.Role.Word y c.Kids.length z) rfl Tryz.isAgg113 Tryz.sizeOf113)) (bS a fun k6 f4 a => VE (Eg hST Tryz.call433 (bW.weak (po c (.slice y c.Kids.length z) 2 _ _ (Y.mono aQ.mono hST.sub_hp) f4)) (fun i6 hST => V (aF rfl) (aD (aG (CI a rfl (fun e5 a => ?_) (fun e5 a => ?_))))))))))))))
    · refine aA (V (aB H) (V (aP rfl rfl rfl) (V (aF rfl) (aD (cM (cM (aG ?_)))))))
      replace hST := hST.sel (Db St)
      exact ⟨eI, ((IntKind.i64.wrap (x - 1))), K, J, N, _, ⟨rfl, eN⟩, (hST.sel St), U, rfl, u, I, b0, D, (by rw [b7]; exact a)⟩
    refine aC (aA (V (aI rfl (aK hST.has Mh (C2 c.Op c.K c.Role.Owner c.Role.Word y c.Kids.length z) rfl Tryz.isAgg113 Tryz.sizeOf113)) (bS a fun k7 f5 a => VE (Eg hST Tryz.call433 (bW.weak (po c (.slice y c.Kids.length z) 3 _ _ (Y.mono aQ.mono hST.sub_hp) f5)) (fun i7 hST => V (iS rfl) (V (aF rfl) (aD (aG (CI a rfl (fun e6 a => ?_) (fun e6 a => ?_))))))))))
    · refine aA (V (aB I) (V (aI rfl (aK hST.has Mh (C2 c.Op c.K c.Role.Owner c.Role.Word y c.Kids.length z) rfl Tryz.isAgg113 Tryz.sizeOf113)) (VE (bU (qs := #[(0, (.agg (C2 c.Op c.K c.Role.Owner c.Role.Word y c.Kids.length z).toArray))]) (cs := (C2 c.Op c.K c.Role.Owner c.Role.Word y c.Kids.length z).toArray) hST (fH rfl) (eF [(.agg (C2 c.Op c.K c.Role.Owner c.Role.Word y c.Kids.length z).toArray)] Tryz.underlying111 Tryz.sizeOf113 Tryz.zeroValue113 (by decide) rfl (by intro v hv; simp only [List.mem_cons, List.not_mem_nil, or_false] at hv; rcases hv with rfl <;> rfl) rfl rfl) (fun i8 k3 hST => ?_)))))
      replace hST := hST.perm (Nr (Qb (Qb (Qb (Qb Qz)))) Nz)
      refine bS a fun h1 e7 a => VE (mJ (B := N) aQ hST (by decide) Tryz.underlying111 gB.1 gB.2.1 rfl gB.2.2.1 gB.2.2.2 rfl rfl D (rJ.lit aQ (l := [c]) (.cons (ys := C2 c.Op c.K c.Role.Owner c.Role.Word y c.Kids.length z) (aH.mk ⟨(.slice y c.Kids.length z), rfl, Y⟩) .nil) rfl nb (hST.at_ (Ma Mh))) e7 (fun i9 h2 g7 hST e4 => V (aF rfl) (aD (cM (cM (aG ?_))))))
      replace hST := hST.sel (Kr (Db (Db St)))
      exact ⟨eI, x, h2, h1, g7, _, ⟨rfl, eN⟩, (hST.sel (Sb (Pr Pz) (Sb (Pr Pz) St))), U, H, u, rfl, b0, e4, (by rw [b7]; exact a)⟩
    refine aT (cM (cM (aG ?_)))
    replace hST := hST.sel (Db St)
    exact ⟨eI, x, K, J, N, _, ⟨rfl, eN⟩, (hST.sel St), U, H, u, I, b0, D, (by rw [b7]; exact a)⟩
  rintro E W ⟨x, K, J, N, c0, ⟨eI, eN⟩, hST, U, H, u, I, b0, D, a⟩
  rw [List.drop_length] at a
  rw [dG] at a
  refine aG (aC (aU (aC (aA (V (aB H) (V (aP rfl rfl rfl) (V (aF rfl) (aD (aG (CI a rfl (fun e8 a => ?_) (fun e8 a => ?_)))))))))))
  · refine aC (aA (bS a fun g f6 a => ?_))
    have hsz := hST.size
    refine VE (je hST (List.Perm.refl _) Tryz.call434 (fun hH hN hsb hmm => dO.weak (vT  _ _ ⟨hH, hN, hsb⟩  f6)) (fun j0 k9 m0 h8 hST c9 hl223 d9 => ?_) (L0 := []))
    obtain ⟨l4, b2, rfl, c3⟩ := d9
    replace b2 := b2.symm; subst b2
    replace hST := hST.perm Tn
    obtain ⟨Z, a6, rfl⟩ := c3.form
    refine VO (aX (.agg #[(.int .i64 ((g).Op)), (.int .i64 ((g).K)), (.string (((g).Role).Owner)), (.string (((g).Role).Word)), (.slice Z ((g).Kids).length a6)]) (#[(.int .i64 ((g).Op)), (.int .i64 ((g).K)), (.string (((g).Role).Owner)), (.string (((g).Role).Word)), (.slice Z ((g).Kids).length a6)]) hST u rfl Tryz.sizeOf113 (by simp [Value.cells, Value.oneCell']) nb rfl (fun j3 hST => aD (aG ?_)))
    replace hST := hST.sel (Kb (Kb (Dr St)))
    refine aS (gA (cR ?_))
    have hx := sj a; subst hx
    exact ju (v := (.agg #[(.int .i64 ((g).Op)), (.int .i64 ((g).K)), (.string (((g).Role).Owner)), (.string (((g).Role).Word)), (.slice Z ((g).Kids).length a6)])) rfl u (aK hST.has Mh [(.int .i64 ((g).Op)), (.int .i64 ((g).K)), (.string (((g).Role).Owner)), (.string (((g).Role).Word)), (.slice Z ((g).Kids).length a6)] rfl Tryz.isAgg113 Tryz.sizeOf113) ⟨_, _, _, rfl, (hST.bkM (Db (Kb Sn))), c9, hl223, (ST.sub_hpx hST (eQ.mem (Db (Kb Sn)))), (.slice Z ((g).Kids).length a6), rfl, rfl, c3⟩
  refine aC (aA (V (aB H) (V (aB I) (V (oD Tryz.underlying111 rfl D) (V (aP rfl rfl rfl) (V (aF rfl) (aD (aG (CI a rfl (fun e9 a => ?_) (fun e9 a => ?_))))))))))
  · refine aC (aA (bS a fun j f7 a => ?_))
    have hsz := hST.size
    refine VE (je hST (List.Perm.refl _) Tryz.call435 (fun hH hN hsb hmm => dO.weak (xf  _ _ ⟨hH, hN, hsb⟩  f7)) (fun j4 l0 m1 h9 hST d0 hl240 e0 => ?_) (L0 := []))
    obtain ⟨l5, b3, rfl, c4⟩ := e0
    replace b3 := b3.symm; subst b3
    replace hST := hST.perm Tn
    obtain ⟨a3, a7, rfl⟩ := c4.form
    refine VO (aX (.agg #[(.int .i64 ((j).Op)), (.int .i64 ((j).K)), (.string (((j).Role).Owner)), (.string (((j).Role).Word)), (.slice a3 ((j).Kids).length a7)]) (#[(.int .i64 ((j).Op)), (.int .i64 ((j).K)), (.string (((j).Role).Owner)), (.string (((j).Role).Word)), (.slice a3 ((j).Kids).length a7)]) hST u rfl Tryz.sizeOf113 (by simp [Value.cells, Value.oneCell']) nb rfl (fun j5 hST => aD (aG ?_)))
    replace hST := hST.sel (Kb (Kb (Dr St)))
    refine aS (gA (cR ?_))
    have hx := sj a; subst hx
    exact ju (v := (.agg #[(.int .i64 ((j).Op)), (.int .i64 ((j).K)), (.string (((j).Role).Owner)), (.string (((j).Role).Word)), (.slice a3 ((j).Kids).length a7)])) rfl u (aK hST.has Mh [(.int .i64 ((j).Op)), (.int .i64 ((j).K)), (.string (((j).Role).Owner)), (.string (((j).Role).Word)), (.slice a3 ((j).Kids).length a7)] rfl Tryz.isAgg113 Tryz.sizeOf113) ⟨_, _, _, rfl, (hST.bkM (Db (Kb Sn))), d0, hl240, (ST.sub_hpx hST (eQ.mem (Db (Kb Sn)))), (.slice a3 ((j).Kids).length a7), rfl, rfl, c4⟩
  refine aC (aA (V (aB H) (V (aB I) (V (oD Tryz.underlying111 rfl D) (V (aP rfl rfl rfl) (V (aF rfl) (aD (aG (CI a rfl (fun f0 a => ?_) (fun f0 a => ?_))))))))))
  · refine aC (aA (V (aB U) (V (aB I) ?_)))
    replace hST := hST.perm (Nr (Qb (Qb Qz)) Nz)
    obtain ⟨m2, hST, d1, hl254, g1⟩ := ST.pubD aQ hST D
    refine bS a fun k f8 a => ?_
    have hsz := hST.size
    refine VE (je hST (Cb (Pb Pz) Cn) Tryz.call407 (fun hH hN hsb hmm => (lu G a0 2 K J _ _ ⟨hH, hN, hsb⟩ (g1.mono aQ.mono (aW.refl _)) f8)) (fun j6 l1 m3 i0 hST d2 hl261 e1 => ?_))
    obtain ⟨l6, b4, rfl, c5⟩ := e1
    replace b4 := b4.symm; subst b4
    replace hST := hST.perm (Tb Tn)
    obtain ⟨a4, a8, rfl⟩ := c5.form
    replace hST := hST.perm (Nb (Pb Pz) Nz)
    refine VO (aX (.agg #[(.int .i64 ((k.1).Op)), (.int .i64 ((k.1).K)), (.string (((k.1).Role).Owner)), (.string (((k.1).Role).Word)), (.slice a4 ((k.1).Kids).length a8)]) (#[(.int .i64 ((k.1).Op)), (.int .i64 ((k.1).K)), (.string (((k.1).Role).Owner)), (.string (((k.1).Role).Word)), (.slice a4 ((k.1).Kids).length a8)]) hST u rfl Tryz.sizeOf113 (by simp [Value.cells, Value.oneCell']) nb rfl (fun j7 hST => aD (aG (aS (gA (cR ?_))))))
    have hx := sj a; subst hx
    exact ju (v := (.agg #[(.int .i64 ((k.1).Op)), (.int .i64 ((k.1).K)), (.string (((k.1).Role).Owner)), (.string (((k.1).Role).Word)), (.slice a4 ((k.1).Kids).length a8)])) rfl u (aK hST.has Mh [(.int .i64 ((k.1).Op)), (.int .i64 ((k.1).K)), (.string (((k.1).Role).Owner)), (.string (((k.1).Role).Word)), (.slice a4 ((k.1).Kids).length a8)] rfl Tryz.isAgg113 Tryz.sizeOf113) ⟨_, _, _, rfl, (hST.bkM (Db (Kb Sn))), (d1.trans d2), (hl254.trans hl261), (ST.sub_hpx hST (eQ.mem (Db (Kb Sn)))), (.slice a4 ((k.1).Kids).length a8), rfl, rfl, c5⟩
  refine aC (aA (V (aB H) (V (aP rfl rfl rfl) (V (aF rfl) (aD (aG (CI a rfl (fun f1 a => ?_) (fun f1 a => ?_))))))))
  · refine aC (aA (V (aB U) (V (aB I) ?_)))
    replace hST := hST.perm (Nr (Qb (Qb Qz)) Nz)
    obtain ⟨m4, hST, d3, hl275, g2⟩ := ST.pubD aQ hST D
    refine bS a fun t f9 a => ?_
    have hsz := hST.size
    refine VE (je hST (Cb (Pb Pz) Cn) Tryz.call407 (fun hH hN hsb hmm => (lu G a0 3 K J _ _ ⟨hH, hN, hsb⟩ (g2.mono aQ.mono (aW.refl _)) f9)) (fun j8 l2 m5 i1 hST d4 hl282 e2 => ?_))
    obtain ⟨l7, b5, rfl, c6⟩ := e2
    replace b5 := b5.symm; subst b5
    replace hST := hST.perm (Tb Tn)
    obtain ⟨a5, a9, rfl⟩ := c6.form
    replace hST := hST.perm (Nb (Pb Pz) Nz)
    refine VO (aX (.agg #[(.int .i64 ((t.1).Op)), (.int .i64 ((t.1).K)), (.string (((t.1).Role).Owner)), (.string (((t.1).Role).Word)), (.slice a5 ((t.1).Kids).length a9)]) (#[(.int .i64 ((t.1).Op)), (.int .i64 ((t.1).K)), (.string (((t.1).Role).Owner)), (.string (((t.1).Role).Word)), (.slice a5 ((t.1).Kids).length a9)]) hST u rfl Tryz.sizeOf113 (by simp [Value.cells, Value.oneCell']) nb rfl (fun j9 hST => aD (aG (aS (gA (cR ?_))))))
    have hx := sj a; subst hx
    exact ju (v := (.agg #[(.int .i64 ((t.1).Op)), (.int .i64 ((t.1).K)), (.string (((t.1).Role).Owner)), (.string (((t.1).Role).Word)), (.slice a5 ((t.1).Kids).length a9)])) rfl u (aK hST.has Mh [(.int .i64 ((t.1).Op)), (.int .i64 ((t.1).K)), (.string (((t.1).Role).Owner)), (.string (((t.1).Role).Word)), (.slice a5 ((t.1).Kids).length a9)] rfl Tryz.isAgg113 Tryz.sizeOf113) ⟨_, _, _, rfl, (hST.bkM (Db (Kb Sn))), (d3.trans d4), (hl275.trans hl282), (ST.sub_hpx hST (eQ.mem (Db (Kb Sn)))), (.slice a5 ((t.1).Kids).length a9), rfl, rfl, c6⟩
  refine aT (cM (aG (aC (aA (V (aB H) (V (aB I) ?_))))))
  replace hST := hST.perm (Nr (Qb (Qb Qz)) Nz)
  obtain ⟨m6, hST, d5, hl295, g3⟩ := ST.pubD aQ hST D
  refine bS a fun T g0 a => ?_
  have hsz := hST.size
  refine VE (je hST (List.Perm.refl _) Tryz.call436 (fun hH hN hsb hmm => (rF K J _ _ ⟨hH, hN, hsb⟩ (g3.mono aQ.mono (aW.refl _)) g0)) (fun k0 l3 m7 i2 hST d6 hl302 e3 => ?_) (L0 := []))
  obtain ⟨l8, i3, b6, rfl, c7⟩ := e3
  replace b6 := b6.symm; subst b6
  replace hST := hST.perm (Tr Tn)
  obtain ⟨M, Q, rfl⟩ := c7.form
  refine V (dX (qs := #[(0, (.int .i64 4)), (1, (.int .i64 x)), (3, (.slice M T.length Q))]) (v := (.agg #[(.int .i64 4), (.int .i64 x), (.string zS), (.string zS), (.slice M T.length Q)])) (vP rfl rfl rfl) (cV Tryz.zeroValue113 Tryz.underlying113 (nQ _ Tryz.underlying113) (by kernel_rfl))) ?_
  replace hST := hST.perm (Nb (Pr Pz) Nz)
  refine VO (aX (.agg #[(.int .i64 4), (.int .i64 x), (.string zS), (.string zS), (.slice M T.length Q)]) (#[(.int .i64 4), (.int .i64 x), (.string zS), (.string zS), (.slice M T.length Q)]) hST u rfl Tryz.sizeOf113 (by simp [Value.cells, Value.oneCell']) nb rfl (fun k1 hST => aD (aG (aS ?_))))
  have hx := sj a; subst hx
  refine ju (v := (.agg #[(.int .i64 4), (.int .i64 x), (.string zS), (.string zS), (.slice M T.length Q)])) rfl u (aK hST.has Mh [(.int .i64 4), (.int .i64 x), (.string zS), (.string zS), (.slice M T.length Q)] rfl Tryz.isAgg113 Tryz.sizeOf113) ?_
  replace hST := hST.perm (Nr (Qb Qz) Nz)
  obtain ⟨m8, hST, d7, hl316, g4⟩ := ST.pubD aQ hST c7
  exact ⟨_, _, _, rfl, (hST.bkM (Db (Kb Sn))), ((d5.trans d6).trans d7), ((hl295.trans hl302).trans hl316), (ST.sub_hpx hST (eQ.mem (Db (Kb Sn)))), (.slice M T.length Q), rfl, rfl, g4⟩
theorem pj (c9 : bK → Formula → Option ((Formula × bK))) (e9 : ∀ (u : Nat) (a0 : bK) (a : Formula) (y : Value) (r : (Formula × bK)) (w : World) {μ0 : aY} (h0 : ie μ0 ((u, Obj.cells ((cK a0).toArray : Array Value) 376 (0, 0)) :: []) w) (x : Sl aH 5 μ0 y a.Kids), c9 a0 a = some r → dO false Tryz.prog 351 [(.pointer (some ⟨u, 0, none⟩)), (.agg #[(.int .i64 a.Op), (.int .i64 a.K), (.string a.Role.Owner), (.string a.Role.Word), y])] w μ0 ((u, Obj.cells ((cK a0).toArray : Array Value) 376 (0, 0)) :: []) (fun v L1 μ1 => ∃ (y1 : Value), v = (.agg #[(.int .i64 ((r.1).Op)), (.int .i64 ((r.1).K)), (.string (((r.1).Role).Owner)), (.string (((r.1).Role).Word)), y1]) ∧ L1 = ((u, Obj.cells ((cK (r.2)).toArray : Array Value) 376 (0, 0)) :: []) ∧ Sl aH 5 μ1 y1 ((r.1).Kids))) (u : Nat) (a0 : bK) (a : Formula) (y : Value) (r : (Formula × bK)) (w : World) {μ0 : aY} (h0 : ie μ0 ((u, Obj.cells ((cK a0).toArray : Array Value) 376 (0, 0)) :: []) w) (x : Sl aH 5 μ0 y a.Kids) (hm : iJ c9 a0 a = some r) :
    dO false Tryz.prog 351 [(.pointer (some ⟨u, 0, none⟩)), (.agg #[(.int .i64 a.Op), (.int .i64 a.K), (.string a.Role.Owner), (.string a.Role.Word), y])] w μ0 ((u, Obj.cells ((cK a0).toArray : Array Value) 376 (0, 0)) :: []) (fun v L1 μ1 => ∃ (y1 : Value), v = (.agg #[(.int .i64 ((r.1).Op)), (.int .i64 ((r.1).K)), (.string (((r.1).Role).Owner)), (.string (((r.1).Role).Word)), y1]) ∧ L1 = ((u, Obj.cells ((cK (r.2)).toArray : Array Value) 376 (0, 0)) :: []) ∧ Sl aH 5 μ1 y1 ((r.1).Kids)) := by
  have hST := ST.startE (dd := false) h0
  unfold iJ at hm
  refine cF 39 Tryz.func351 rfl (aC (aA ?_))
  obtain ⟨A1, c2, rfl⟩ := x.form
  refine VE (cH (v := (.agg (C2 a.Op a.K a.Role.Owner a.Role.Word A1 a.Kids.length c2).toArray)) hST rfl (fun W4 b3 hST => VE (cA hST Tryz.zeroValue113 (fun W6 b5 hST => aD (aG (aC (aC (aA (V (aM kC rfl) (V (aI rfl (aN hST.has (Mt Mh) rfl Tryz.isAgg3)) (V (aP rfl rfl rfl) (aD (aG (CI hm rfl (fun f8 hm => ?_) (fun f8 hm => ?_)))))))))))))))
  · refine aC (aA (V (aI rfl (aK hST.has (Mt Mh) (C2 a.Op a.K a.Role.Owner a.Role.Word A1 a.Kids.length c2) rfl Tryz.isAgg113 Tryz.sizeOf113)) (VO (aX (.agg (C2 a.Op a.K a.Role.Owner a.Role.Word A1 a.Kids.length c2).toArray) ((C2 a.Op a.K a.Role.Owner a.Role.Word A1 a.Kids.length c2).toArray) hST rfl rfl Tryz.sizeOf113 (by simp [Value.cells, Value.oneCell']) nb rfl (fun W8 hST => aD (aG ?_))))))
    replace hST := hST.sel (Kb (Db St))
    refine aS (cR ?_)
    have hx := sj hm; subst hx
    exact ju (v := (.agg (C2 a.Op a.K a.Role.Owner a.Role.Word A1 a.Kids.length c2).toArray)) rfl rfl (aK hST.has Mh (C2 a.Op a.K a.Role.Owner a.Role.Word A1 a.Kids.length c2) rfl Tryz.isAgg113 Tryz.sizeOf113) ⟨_, _, _, rfl, (hST.bkM (Db (Kb Sn))), (aW.refl _), Lo.refl, (ST.sub_hpx hST (eQ.mem (Db (Kb Sn)))), (.slice A1 a.Kids.length c2), rfl, rfl, x⟩
  refine aT (aG (aC (aA (V (aF rfl) (aD (aG (aC (aC (aA (V (aM jL rfl) (V (aI rfl (aN hST.has (Mt Mh) rfl Tryz.isAgg111)) (V (eH Tryz.underlying111 rfl x) (V (aB rfl) (aD ?_))))))))))))))
  refine aG (dP (fun i E W => ∃ (I : Value) (H : List Formula) (T : List (Nat × Obj)) (D : bK) (J : aY) (b7 : List (Nat × Obj)), (E 15 = .int .i64 (i : Nat) ∧ E 14 = .int .i64 (a.Kids.length : Nat)) ∧ aW μ0 J ∧ Lo (keys ((u, Obj.cells ((cK a0).toArray : Array Value) 376 (0, 0)) :: [])) w μ0 J ∧ ST false (keys ((u, Obj.cells ((cK a0).toArray : Array Value) 376 (0, 0)) :: [])) w W J ((u, Obj.cells ((cK D).toArray : Array Value) 376 (0, 0)) :: ((b5, Obj.cells (C5.toArray : Array Value) 113 (0, 0)) :: ((b3, Obj.cells ((C2 a.Op a.K a.Role.Owner a.Role.Word A1 a.Kids.length c2).toArray : Array Value) 113 (0, 0)) :: (T ++ b7)))) ∧ E 0 = (.pointer (some ⟨u, 0, none⟩)) ∧ E 3 = (.pointer (some ⟨b3, 0, none⟩)) ∧ E 4 = (.pointer (some ⟨b5, 0, none⟩)) ∧ E 5 = I ∧ E 13 = (.slice A1 a.Kids.length c2) ∧ bX 113 aH 5 J I H T ∧ eJ c9 a (a.Kids.drop i) H D = some r) a.Kids.length x.len ⟨(.slice none 0 0), ([]), [], a0, μ0, _, ⟨rfl, rfl⟩, (aW.refl _), Lo.refl, (hST.sel (Sb (Pb (Pb Pz)) St)), rfl, rfl, rfl, rfl, rfl, (bX.nil _ _ _ _), hm⟩ (by decide) (by decide) (by decide) (fun _ _ _ h => by obtain ⟨_, _, _, _, _, _, eIN, _⟩ := h; exact eIN) ?_ ?_)
  · rintro f0 E W d7 ⟨I, H, T, D, J, b7, ⟨eI, eN⟩, z, hl234, hST, a2, a3, G, b0, b9, K, c⟩
    obtain ⟨t, f9, e5, e4, e6⟩ := dB d7
    rw [e5] at c
    rw [eJ] at c
    refine aU (aC (aA (VQ (fN (i := (f0 : Int)) (x0 := t) aH.out Tryz.underlying111 Tryz.sizeOf113 b9 eI (x.mono aQ.mono z) (Int.natCast_nonneg _) e4) (fun h5 ⟨_, ⟨h6, rfl, c0⟩, d8⟩ => V (aI rfl (bN hST.has d8 Tryz.isAgg113 Tryz.sizeOf113)) (VE (cA hST Tryz.zeroValue113 (fun g3 h3 hST => ?_)))))))
    obtain ⟨a7, a9, rfl⟩ := c0.form
    refine VO (aX (.agg (C2 t.Op t.K t.Role.Owner t.Role.Word a7 t.Kids.length a9).toArray) ((C2 t.Op t.K t.Role.Owner t.Role.Word a7 t.Kids.length a9).toArray) hST rfl rfl Tryz.sizeOf113 (by simp [Value.cells, Value.oneCell']) nb rfl (fun g4 hST => aD (aG (aA (V (aB b0) (V (aB a2) (V (aI rfl (aK hST.has Mh (C2 t.Op t.K t.Role.Owner t.Role.Word a7 t.Kids.length a9) rfl Tryz.isAgg113 Tryz.sizeOf113)) (bS c fun g d9 c => ?_))))))))
    have hsz := hST.size
    refine VE (je hST (Cb (Pb Pz) Cn) Tryz.call351 (fun hH hN hsb hmm => (e9 u D t (.slice a7 t.Kids.length a9) _ _ ⟨hH, hN, hsb⟩ (c0.mono aQ.mono (aW.refl _)) d9)) (fun g5 h7 f4 g0 hST b6 hl255 d1 => ?_))
    obtain ⟨i0, b1, rfl, c1⟩ := d1
    replace b1 := b1.symm; subst b1
    replace hST := hST.perm (Tb Tn)
    obtain ⟨M, U, rfl⟩ := c1.form
    refine VE (bU (qs := #[(0, (.agg #[(.int .i64 ((g.1).Op)), (.int .i64 ((g.1).K)), (.string (((g.1).Role).Owner)), (.string (((g.1).Role).Word)), (.slice M ((g.1).Kids).length U)]))]) (cs := #[(.int .i64 ((g.1).Op)), (.int .i64 ((g.1).K)), (.string (((g.1).Role).Owner)), (.string (((g.1).Role).Word)), (.slice M ((g.1).Kids).length U)]) hST (fH rfl) (eF [(.agg #[(.int .i64 ((g.1).Op)), (.int .i64 ((g.1).K)), (.string (((g.1).Role).Owner)), (.string (((g.1).Role).Word)), (.slice M ((g.1).Kids).length U)])] Tryz.underlying111 Tryz.sizeOf113 Tryz.zeroValue113 (by decide) rfl (by intro v hv; simp only [List.mem_cons, List.not_mem_nil, or_false] at hv; rcases hv with rfl <;> rfl) rfl rfl) (fun g6 h4 hST => ?_))
    replace hST := hST.perm (Nr (Qb (Qb (Qb (Qb (Qb Qz))))) Nz)
    refine bS c fun f1 d5 c => VE (mJ (B := T) aQ hST (by decide) Tryz.underlying111 gB.1 gB.2.1 rfl gB.2.2.1 gB.2.2.2 rfl rfl (K.mono aQ b6) (rJ.lit aQ (l := [g.1]) (.cons (ys := [(.int .i64 ((g.1).Op)), (.int .i64 ((g.1).K)), (.string (((g.1).Role).Owner)), (.string (((g.1).Role).Word)), (.slice M ((g.1).Kids).length U)]) (aH.mk ⟨(.slice M ((g.1).Kids).length U), rfl, c1⟩) .nil) rfl nb (hST.at_ (Ma Mh))) d5 (fun g7 f2 e8 hST d4 => V (aF rfl) (aD (cM (aG ?_)))))
    replace hST := hST.sel (Kr (Db (Kb (Db St))))
    exact ⟨eI, f2, f1, e8, g.2, f4, _, ⟨rfl, eN⟩, (z.trans b6), (hl234.trans hl255), (hST.sel (Sb (Pr Pz) (Sb (Pr Pz) (Sb (Pr Pz) St)))), a2, a3, G, rfl, b9, d4, (by rw [e6]; exact c)⟩
  rintro E W ⟨I, H, T, D, J, b7, ⟨eI, eN⟩, z, hl234, hST, a2, a3, G, b0, b9, K, c⟩
  rw [List.drop_length] at c
  rw [eJ] at c
  refine aG (aC (aC (aA (V (aM kC a3) (V (aI rfl (aN hST.has (Mt (Mt Mh)) rfl Tryz.isAgg3)) (V (aP rfl rfl rfl) (aD (aG (CI c rfl (fun d6 c => ?_) (fun d6 c => ?_))))))))))
  · refine aC (aA (V (aB a2) (V (aM nK a3) (V (aI rfl (aN hST.has (Mt (Mt Mh)) rfl Tryz.isAgg3)) (V (aB b0) ?_)))))
    replace hST := hST.perm (Nr (Qb (Qb (Qb Qz))) Nz)
    obtain ⟨i3, hST, c5, hl275, e2⟩ := ST.pubD aQ hST K
    refine bS c fun j e0 c => ?_
    have hsz := hST.size
    refine VE (je hST (Cb Pz Cn) Tryz.call406 (fun hH hN hsb hmm => (pV u D a.K I H _ _ ⟨hH, hN, hsb⟩ (e2.mono aQ.mono (aW.refl _)) e0)) (fun g8 h8 i4 g1 hST c6 hl282 d2 => ?_))
    obtain ⟨i1, b2, rfl, c3⟩ := d2
    replace b2 := b2.symm; subst b2
    replace hST := hST.perm (Tb Tn)
    obtain ⟨N, Y, rfl⟩ := c3.form
    replace hST := hST.perm (Nb (Pb Pz) Nz)
    refine VO (aX (.agg #[(.int .i64 ((j.1).Op)), (.int .i64 ((j.1).K)), (.string (((j.1).Role).Owner)), (.string (((j.1).Role).Word)), (.slice N ((j.1).Kids).length Y)]) (#[(.int .i64 ((j.1).Op)), (.int .i64 ((j.1).K)), (.string (((j.1).Role).Owner)), (.string (((j.1).Role).Word)), (.slice N ((j.1).Kids).length Y)]) hST G rfl Tryz.sizeOf113 (by simp [Value.cells, Value.oneCell']) nb rfl (fun g9 hST => aD (aG ?_)))
    replace hST := hST.sel (Kb (Kb (Db St)))
    refine aS (cR ?_)
    have hx := sj c; subst hx
    exact ju (v := (.agg #[(.int .i64 ((j.1).Op)), (.int .i64 ((j.1).K)), (.string (((j.1).Role).Owner)), (.string (((j.1).Role).Word)), (.slice N ((j.1).Kids).length Y)])) rfl G (aK hST.has Mh [(.int .i64 ((j.1).Op)), (.int .i64 ((j.1).K)), (.string (((j.1).Role).Owner)), (.string (((j.1).Role).Word)), (.slice N ((j.1).Kids).length Y)] rfl Tryz.isAgg113 Tryz.sizeOf113) ⟨_, _, _, rfl, (hST.bkM (Db (Kb Sn))), ((z.trans c5).trans c6), ((hl234.trans hl275).trans hl282), (ST.sub_hpx hST (eQ.mem (Db (Kb Sn)))), (.slice N ((j.1).Kids).length Y), rfl, rfl, c3⟩
  refine aT (aG (aC (aA (V (aB a2) (V (aM kC a3) (V (aI rfl (aN hST.has (Mt (Mt Mh)) rfl Tryz.isAgg3)) (V (aB b0) ?_)))))))
  replace hST := hST.perm (Nr (Qb (Qb (Qb Qz))) Nz)
  obtain ⟨i5, hST, c7, hl295, e3⟩ := ST.pubD aQ hST K
  refine bS c fun k e1 c => ?_
  have hsz := hST.size
  refine VE (je hST (Cb Pz Cn) Tryz.call407 (fun hH hN hsb hmm => (lu u D a.Op I H _ _ ⟨hH, hN, hsb⟩ (e3.mono aQ.mono (aW.refl _)) e1)) (fun h1 h9 i6 g2 hST c8 hl302 d3 => ?_))
  obtain ⟨i2, b4, rfl, c4⟩ := d3
  replace b4 := b4.symm; subst b4
  replace hST := hST.perm (Tb Tn)
  obtain ⟨Q, Z, rfl⟩ := c4.form
  replace hST := hST.perm (Nb (Pb Pz) Nz)
  refine VO (aX (.agg #[(.int .i64 ((k.1).Op)), (.int .i64 ((k.1).K)), (.string (((k.1).Role).Owner)), (.string (((k.1).Role).Word)), (.slice Q ((k.1).Kids).length Z)]) (#[(.int .i64 ((k.1).Op)), (.int .i64 ((k.1).K)), (.string (((k.1).Role).Owner)), (.string (((k.1).Role).Word)), (.slice Q ((k.1).Kids).length Z)]) hST G rfl Tryz.sizeOf113 (by simp [Value.cells, Value.oneCell']) nb rfl (fun h2 hST => aD (aG ?_)))
  replace hST := hST.sel (Kb (Kb (Db St)))
  refine aS ?_
  have hx := sj c; subst hx
  exact ju (v := (.agg #[(.int .i64 ((k.1).Op)), (.int .i64 ((k.1).K)), (.string (((k.1).Role).Owner)), (.string (((k.1).Role).Word)), (.slice Q ((k.1).Kids).length Z)])) rfl G (aK hST.has Mh [(.int .i64 ((k.1).Op)), (.int .i64 ((k.1).K)), (.string (((k.1).Role).Owner)), (.string (((k.1).Role).Word)), (.slice Q ((k.1).Kids).length Z)] rfl Tryz.isAgg113 Tryz.sizeOf113) ⟨_, _, _, rfl, (hST.bkM (Db (Kb Sn))), ((z.trans c7).trans c8), ((hl234.trans hl295).trans hl302), (ST.sub_hpx hST (eQ.mem (Db (Kb Sn)))), (.slice Q ((k.1).Kids).length Z), rfl, rfl, c4⟩
theorem nT : ∀ (n : Nat) (c : Nat) (j : bK) (g : Formula) (a : Value) (r : (Formula × bK)) (w : World) {k : aY} (y : ie k ((c, Obj.cells ((cK j).toArray : Array Value) 376 (0, 0)) :: []) w) (i : Sl aH 5 k a g.Kids) (_ : fA n j g = some r),
    dO false Tryz.prog 351 [(.pointer (some ⟨c, 0, none⟩)), (.agg #[(.int .i64 g.Op), (.int .i64 g.K), (.string g.Role.Owner), (.string g.Role.Word), a])] w k ((c, Obj.cells ((cK j).toArray : Array Value) 376 (0, 0)) :: []) (fun v u x => ∃ (t : Value), v = (.agg #[(.int .i64 ((r.1).Op)), (.int .i64 ((r.1).K)), (.string (((r.1).Role).Owner)), (.string (((r.1).Role).Word)), t]) ∧ u = ((c, Obj.cells ((cK (r.2)).toArray : Array Value) 376 (0, 0)) :: []) ∧ Sl aH 5 x t ((r.1).Kids))
  | 0 => by intros; rename_i h; simp only [fA] at h; cases h
  | n + 1 => pj (fA n) (nT n)
theorem uI (c : Formula) (u : Value) (r : (Formula × Int)) (w : World) {Z : aY} (h0 : ie Z [] w) (k : Sl aH 5 Z u c.Kids) (hm : ni c = some r) :
    dO false Tryz.prog 306 [(.agg #[(.int .i64 c.Op), (.int .i64 c.K), (.string c.Role.Owner), (.string c.Role.Word), u])] w Z [] (fun v L1 μ1 => ∃ (y1 : Value), v = (.tuple #[(.agg #[(.int .i64 ((r.1).Op)), (.int .i64 ((r.1).K)), (.string (((r.1).Role).Owner)), (.string (((r.1).Role).Word)), y1]), (.int .i64 (r.2))]) ∧ L1 = [] ∧ Sl aH 5 μ1 y1 ((r.1).Kids)) := by
  have hST := ST.startE (dd := false) h0
  unfold ni at hm
  refine cF 27 Tryz.func306 rfl (aC (aA ?_))
  obtain ⟨H, I, rfl⟩ := k.form
  refine VE (cH (v := (.agg (C2 c.Op c.K c.Role.Owner c.Role.Word H c.Kids.length I).toArray)) hST rfl (fun W4 b3 hST => VE (cA hST Tryz.zeroValue113 (fun W6 b5 hST => V (aF rfl) (aD (aG (aC (aC (aA (V (aI rfl (aK hST.has (Mt Mh) (C2 c.Op c.K c.Role.Owner c.Role.Word H c.Kids.length I) rfl Tryz.isAgg113 Tryz.sizeOf113)) (bS hm fun r7 a5 hm => VE (Eg hST Tryz.call107 ((nm c (.slice H c.Kids.length I) _ _ (k.mono aQ.mono hST.sub_hp) a5)) (fun W9 hST => V (iS rfl) (aD (aG (CI hm rfl (fun Q hm => ?_) (fun Q hm => ?_)))))))))))))))))
  · refine aC (aA (V (dX (qs := #[]) (v := (.agg C5.toArray)) lT (cV Tryz.zeroValue113 Tryz.underlying113 (nQ _ Tryz.underlying113) (by kernel_rfl))) (VO (aX (.agg C5.toArray) (C5.toArray) hST rfl rfl Tryz.sizeOf113 (by simp [Value.cells, Value.oneCell']) nb rfl (fun b6 hST => V (aF rfl) (aD (aG ?_)))))))
    replace hST := hST.sel (Kb (Db St))
    refine aS (cR ?_)
    have hx := sj hm; subst hx
    exact kd (v0 := (.agg C5.toArray)) (v1 := (.int .i64 11)) rfl rfl (aK hST.has Mh C5 rfl Tryz.isAgg113 Tryz.sizeOf113) rfl ⟨_, _, _, rfl, (hST.bkM Sn), (aW.refl _), Lo.refl, (ST.sub_hpx hST (eQ.mem Sn)), (.slice none 0 0), rfl, rfl, (Sl.nil _ _ _)⟩
  refine aT (aG (aC (aA (V (dX (qs := #[]) (v := (.agg (cK K6).toArray)) lT (cV Tryz.zeroValue376 Tryz.underlying376 (E9 _ Tryz.underlying376) (by kernel_rfl))) (VE (cH (v := (.agg (cK K6).toArray)) hST rfl (fun b7 a1 hST => V (aF rfl) (aD (aG (aC (aA (V (aB rfl) (V (aI rfl (aK hST.has (Mt (Mt Mh)) (C2 c.Op c.K c.Role.Owner c.Role.Word H c.Kids.length I) rfl Tryz.isAgg113 Tryz.sizeOf113)) (bS hm fun a U hm => ?_))))))))))))))
  have hsz := hST.size
  refine VE (je hST (Cb Pz Cn) Tryz.call351 (fun hH hN hsb hmm => ((nT bR) a1 K6 c (.slice H c.Kids.length I) _ _ ⟨hH, hN, hsb⟩ (k.mono aQ.mono (aW.refl _)) U)) (fun b9 c7 a9 b4 hST D hl20 N => ?_))
  obtain ⟨c9, y, rfl, z⟩ := N
  replace y := y.symm; subst y
  replace hST := hST.perm (Tb Tn)
  refine VE (cA hST Tryz.zeroValue113 (fun c0 K hST => ?_))
  obtain ⟨i, j, rfl⟩ := z.form
  refine VO (aX (.agg #[(.int .i64 ((a.1).Op)), (.int .i64 ((a.1).K)), (.string (((a.1).Role).Owner)), (.string (((a.1).Role).Word)), (.slice i ((a.1).Kids).length j)]) (#[(.int .i64 ((a.1).Op)), (.int .i64 ((a.1).K)), (.string (((a.1).Role).Owner)), (.string (((a.1).Role).Word)), (.slice i ((a.1).Kids).length j)]) hST rfl rfl Tryz.sizeOf113 (by simp [Value.cells, Value.oneCell']) nb rfl (fun c1 hST => aD (aG ?_)))
  replace hST := hST.sel (Kb (Kb (Kb (Db St))))
  refine aC (aC (aA (V (aB rfl) (V (bP rfl) (V (aM zX rfl) (V (aI rfl (aN hST.has (Mt Mh) rfl Tryz.isAgg57)) (V (aP rfl rfl rfl) (V (aB rfl) (LJ hm (fun M E W => ∃  (J : List (Nat × Obj)), ST false (keys []) w W a9 ((K, Obj.cells (#[(.int .i64 ((a.1).Op)), (.int .i64 ((a.1).K)), (.string (((a.1).Role).Owner)), (.string (((a.1).Role).Word)), (.slice i ((a.1).Kids).length j)] : Array Value) 113 (0, 0)) :: ((b5, Obj.cells (C5.toArray : Array Value) 113 (0, 0)) :: J)) ∧ E 2 = (.pointer (some ⟨b5, 0, none⟩)) ∧ E 5 = (.pointer (some ⟨K, 0, none⟩)) ∧ E 24 = (.bool M)) 4 ?_ (fun M t G => ?_))))))))))
  · rintro c8 E W ⟨J, hST, B, a3, a4⟩ x
    refine aD (aG (CI x a4 (fun T x => ?_) (fun T x => ?_)))
    · refine aC (aA (V (dX (qs := #[]) (v := (.agg C5.toArray)) lT (cV Tryz.zeroValue113 Tryz.underlying113 (nQ _ Tryz.underlying113) (by kernel_rfl))) ?_))
      replace hST := hST.perm (Nb (Pb Pz) Nz)
      refine VO (aX (.agg C5.toArray) (C5.toArray) hST B rfl Tryz.sizeOf113 (by simp [Value.cells, Value.oneCell']) nb rfl (fun c3 hST => V (aF rfl) (aD (aG ?_))))
      replace hST := hST.sel (Kb (Db St))
      refine aS (cR ?_)
      have hx := sj x; subst hx
      exact kd (v0 := (.agg C5.toArray)) (v1 := (.int .i64 12)) rfl B (aK hST.has Mh C5 rfl Tryz.isAgg113 Tryz.sizeOf113) rfl ⟨_, _, _, rfl, (hST.bkM Sn), D, hl20, (ST.sub_hpx hST (eQ.mem Sn)), (.slice none 0 0), rfl, rfl, (Sl.nil _ _ _)⟩
    refine aT (aG (aC (aA (V (aI a3 (aK hST.has Mh [(.int .i64 ((a.1).Op)), (.int .i64 ((a.1).K)), (.string (((a.1).Role).Owner)), (.string (((a.1).Role).Word)), (.slice i ((a.1).Kids).length j)] rfl Tryz.isAgg113 Tryz.sizeOf113)) ?_))))
    replace hST := hST.perm (Nb (Pb Pz) Nz)
    refine VO (aX (.agg #[(.int .i64 ((a.1).Op)), (.int .i64 ((a.1).K)), (.string (((a.1).Role).Owner)), (.string (((a.1).Role).Word)), (.slice i ((a.1).Kids).length j)]) (#[(.int .i64 ((a.1).Op)), (.int .i64 ((a.1).K)), (.string (((a.1).Role).Owner)), (.string (((a.1).Role).Word)), (.slice i ((a.1).Kids).length j)]) hST B rfl Tryz.sizeOf113 (by simp [Value.cells, Value.oneCell']) nb rfl (fun c4 hST => V (aF rfl) (aD (aG ?_))))
    replace hST := hST.sel (Kb (Db St))
    refine aS ?_
    have hx := sj x; subst hx
    exact kd (v0 := (.agg #[(.int .i64 ((a.1).Op)), (.int .i64 ((a.1).K)), (.string (((a.1).Role).Owner)), (.string (((a.1).Role).Word)), (.slice i ((a.1).Kids).length j)])) (v1 := (.int .i64 0)) rfl B (aK hST.has Mh [(.int .i64 ((a.1).Op)), (.int .i64 ((a.1).K)), (.string (((a.1).Role).Owner)), (.string (((a.1).Role).Word)), (.slice i ((a.1).Kids).length j)] rfl Tryz.isAgg113 Tryz.sizeOf113) rfl ⟨_, _, _, rfl, (hST.bkM Sn), D, hl20, (ST.sub_hpx hST (eQ.mem Sn)), (.slice i ((a.1).Kids).length j), rfl, rfl, z⟩
  refine bC t (fun g t => ?_) (fun g t => ?_)
  · refine Vn rfl (cB g) (Vn rfl (cB g) (Vn rfl (cB g) (V (cD (cB g) rfl) ?_)))
    have hx := sj t; subst hx
    exact G _ _ ⟨_, (hST.sel (Kb (Db St))), rfl, rfl, rfl⟩
  refine Vg rfl (cB g) (aI rfl (aK hST.has Mh [(.int .i64 ((a.1).Op)), (.int .i64 ((a.1).K)), (.string (((a.1).Role).Owner)), (.string (((a.1).Role).Word)), (.slice i ((a.1).Kids).length j)] rfl Tryz.isAgg113 Tryz.sizeOf113)) (bS t fun c6 Y t => np rfl (cB g) (Eg hST Tryz.call107 ((nm a.1 (.slice i ((a.1).Kids).length j) _ _ (z.mono aQ.mono hST.sub_hp) Y)) (fun c5 hST => Vg rfl (cB g) (iS rfl) (V (cI (cB g) rfl) ?_))))
  have hx := sj t; subst hx
  exact G _ _ ⟨_, (hST.sel (Kb (Db St))), rfl, rfl, rfl⟩
theorem xR (a : Formula) (k : Value) (c : Formula) (t : Value) (r : (Formula × Int)) (w : World) {N : aY} (h0 : ie N [] w) (i : Sl aH 5 N k a.Kids) (j : Sl aH 5 N t c.Kids) (hm : mY a c = some r) :
    dO false Tryz.prog 307 [(.agg #[(.int .i64 a.Op), (.int .i64 a.K), (.string a.Role.Owner), (.string a.Role.Word), k]), (.agg #[(.int .i64 c.Op), (.int .i64 c.K), (.string c.Role.Owner), (.string c.Role.Word), t])] w N [] (fun v Z μ1 => ∃ (Y : Value), v = (.tuple #[(.agg #[(.int .i64 ((r.1).Op)), (.int .i64 ((r.1).K)), (.string (((r.1).Role).Owner)), (.string (((r.1).Role).Word)), Y]), (.int .i64 (r.2))]) ∧ Z = [] ∧ Sl aH 5 μ1 Y ((r.1).Kids)) := by
  have hST := ST.startE (dd := false) h0
  unfold mY at hm
  refine cF 13 Tryz.func307 rfl (aC (aA ?_))
  obtain ⟨u, z, rfl⟩ := i.form
  refine VE (cH (v := (.agg (C2 a.Op a.K a.Role.Owner a.Role.Word u a.Kids.length z).toArray)) hST rfl (fun W4 b3 hST => ?_))
  obtain ⟨y, G, rfl⟩ := j.form
  refine VE (cH (v := (.agg (C2 c.Op c.K c.Role.Owner c.Role.Word y c.Kids.length G).toArray)) hST rfl (fun W8 b7 hST => VE (cA hST Tryz.zeroValue113 (fun a5 b9 hST => V (aF rfl) (aD (aG (aC (aA (V (aI rfl (aK hST.has (Mt (Mt Mh)) (C2 a.Op a.K a.Role.Owner a.Role.Word u a.Kids.length z) rfl Tryz.isAgg113 Tryz.sizeOf113)) (V (aI rfl (aK hST.has (Mt Mh) (C2 c.Op c.K c.Role.Owner c.Role.Word y c.Kids.length G) rfl Tryz.isAgg113 Tryz.sizeOf113)) (VE (bU (qs := #[(0, (.agg (C2 a.Op a.K a.Role.Owner a.Role.Word u a.Kids.length z).toArray)), (1, (.agg (C2 c.Op c.K c.Role.Owner c.Role.Word y c.Kids.length G).toArray))]) (cs := #[(.int .i64 a.Op), (.int .i64 a.K), (.string a.Role.Owner), (.string a.Role.Word), (.slice u a.Kids.length z), (.int .i64 c.Op), (.int .i64 c.K), (.string c.Role.Owner), (.string c.Role.Word), (.slice y c.Kids.length G)]) hST (iK rfl rfl) (eF [(.agg (C2 a.Op a.K a.Role.Owner a.Role.Word u a.Kids.length z).toArray), (.agg (C2 c.Op c.K c.Role.Owner c.Role.Word y c.Kids.length G).toArray)] Tryz.underlying111 Tryz.sizeOf113 Tryz.zeroValue113 (by decide) rfl (by intro v hv; simp only [List.mem_cons, List.not_mem_nil, or_false] at hv; rcases hv with rfl | rfl <;> rfl) rfl rfl) (fun a6 I hST => V (dX (qs := #[(0, (.int .i64 2)), (3, (.slice (some ⟨I, 0, none⟩) 2 2))]) (v := (.agg #[(.int .i64 2), (.int .i64 0), (.string zS), (.string zS), (.slice (some ⟨I, 0, none⟩) 2 2)])) (iK rfl rfl) (cV Tryz.zeroValue113 Tryz.underlying113 (nQ _ Tryz.underlying113) (by kernel_rfl))) ?_)))))))))))))
  obtain ⟨b1, hST, K, hl15, U⟩ := ST.pubD (B := [(I, Obj.cells (#[(.int .i64 a.Op), (.int .i64 a.K), (.string a.Role.Owner), (.string a.Role.Word), (.slice u a.Kids.length z), (.int .i64 c.Op), (.int .i64 c.K), (.string c.Role.Owner), (.string c.Role.Word), (.slice y c.Kids.length G)] : Array Value) 113 (0, 0))]) aQ hST (bX.lit aQ (l := [a, c]) (.cons (ys := C2 a.Op a.K a.Role.Owner a.Role.Word u a.Kids.length z) (aH.mk ⟨(.slice u a.Kids.length z), rfl, i⟩) (.cons (ys := C2 c.Op c.K c.Role.Owner c.Role.Word y c.Kids.length G) (aH.mk ⟨(.slice y c.Kids.length G), rfl, j⟩) .nil)) rfl nb rfl)
  refine bS hm fun g T hm => ?_
  have hsz := hST.size
  refine VE (je hST (List.Perm.refl _) Tryz.call306 (fun hH hN hsb hmm => (uI ((⟨2, 0, K0, [a, c]⟩ : Formula)) (.slice (some ⟨I, 0, none⟩) 2 2) _ _ ⟨hH, hN, hsb⟩ (U.mono aQ.mono (aW.refl _)) T)) (fun a7 a9 b2 a4 hST M hl22 Q => ?_) (L0 := []))
  obtain ⟨b0, H, rfl, J⟩ := Q
  replace H := H.symm; subst H
  replace hST := hST.perm Tn
  refine V (bQ rfl rfl) (V (bQ rfl rfl) ?_)
  obtain ⟨x, D, rfl⟩ := J.form
  refine VO (aX (.agg #[(.int .i64 ((g.1).Op)), (.int .i64 ((g.1).K)), (.string (((g.1).Role).Owner)), (.string (((g.1).Role).Word)), (.slice x ((g.1).Kids).length D)]) (#[(.int .i64 ((g.1).Op)), (.int .i64 ((g.1).K)), (.string (((g.1).Role).Owner)), (.string (((g.1).Role).Word)), (.slice x ((g.1).Kids).length D)]) hST rfl rfl Tryz.sizeOf113 (by simp [Value.cells, Value.oneCell']) nb rfl (fun a8 hST => V (aF rfl) (aD (aG ?_))))
  replace hST := hST.sel (Kb (Db (Db St)))
  refine aS ?_
  have hx := sj hm; subst hx
  exact kd (v0 := (.agg #[(.int .i64 ((g.1).Op)), (.int .i64 ((g.1).K)), (.string (((g.1).Role).Owner)), (.string (((g.1).Role).Word)), (.slice x ((g.1).Kids).length D)])) (v1 := (.int .i64 g.2)) rfl rfl (aK hST.has Mh [(.int .i64 ((g.1).Op)), (.int .i64 ((g.1).K)), (.string (((g.1).Role).Owner)), (.string (((g.1).Role).Word)), (.slice x ((g.1).Kids).length D)] rfl Tryz.isAgg113 Tryz.sizeOf113) rfl ⟨_, _, _, rfl, (hST.bkM Sn), (K.trans M), (hl15.trans hl22), (ST.sub_hpx hST (eQ.mem Sn)), (.slice x ((g.1).Kids).length D), rfl, rfl, J⟩
theorem zj (d1 : Value) (a0 : List Formula) (r : (Formula × Int)) (w : World) {μ0 : aY} (h0 : ie μ0 [] w) (c7 : Sl aH 5 μ0 d1 a0) (hm : md a0 = some r) :
    dO false Tryz.prog 213 [d1] w μ0 [] (fun v L1 μ1 => ∃ (y1 : Value), v = (.tuple #[(.agg #[(.int .i64 ((r.1).Op)), (.int .i64 ((r.1).K)), (.string (((r.1).Role).Owner)), (.string (((r.1).Role).Word)), y1]), (.int .i64 (r.2))]) ∧ L1 = [] ∧ Sl aH 5 μ1 y1 ((r.1).Kids)) := by
  have hST := ST.startE (dd := false) h0
  unfold md at hm
  refine cF 36 Tryz.func213 rfl (aC (aA (VE (cA hST Tryz.zeroValue113 (fun W2 b1 hST => V (aF rfl) (aD (aG (aC (aA (V (aB rfl) (bS hm fun x6 e3 hm => VQ (fN (i := 0) (x0 := x6) aH.out Tryz.underlying111 Tryz.sizeOf113 rfl rfl c7 (bM e3) (bJ e3)) (fun p3 ⟨_, ⟨v8, rfl, f2⟩, f1⟩ => V (aI rfl (bN hST.has f1 Tryz.isAgg113 Tryz.sizeOf113)) (bS hm fun j e6 hm => ?_)))))))))))))
  have hsz := hST.size
  refine VE (je hST (List.Perm.refl _) Tryz.call306 (fun hH hN hsb hmm => (uI x6 v8 _ _ ⟨hH, hN, hsb⟩ (f2.mono aQ.mono (aW.refl _)) e6)) (fun h9 i2 a9 h8 hST a4 hl15 e5 => ?_) (L0 := []))
  obtain ⟨i3, b6, rfl, d0⟩ := e5
  replace b6 := b6.symm; subst b6
  replace hST := hST.perm Tn
  refine V (aB rfl) (V (bQ rfl rfl) (V (bQ rfl rfl) (VE (cA hST Tryz.zeroValue113 (fun i0 b7 hST => ?_)))))
  obtain ⟨c2, c5, rfl⟩ := d0.form
  refine VO (aX (.agg #[(.int .i64 ((j.1).Op)), (.int .i64 ((j.1).K)), (.string (((j.1).Role).Owner)), (.string (((j.1).Role).Word)), (.slice c2 ((j.1).Kids).length c5)]) (#[(.int .i64 ((j.1).Op)), (.int .i64 ((j.1).K)), (.string (((j.1).Role).Owner)), (.string (((j.1).Role).Word)), (.slice c2 ((j.1).Kids).length c5)]) hST rfl rfl Tryz.sizeOf113 (by simp [Value.cells, Value.oneCell']) nb rfl (fun i1 hST => V (aF rfl) (aD (aG (aC (aC (aA (V (aB rfl) (bS hm fun _ c8 hm => VQ (uR (i := 1) Tryz.underlying111 Tryz.sizeOf113 rfl rfl (c7.mono aQ.mono a4) (nE c8) (nR c8)) (fun f3 b5 => V (eH Tryz.underlying111 rfl b5.1) (V (aB rfl) (aD (aG (CJ hm (fun u E W => ∃ (a6 : Value) (U : aY) (c3 : List (Nat × Obj)), aW a9 U ∧ Lo (keys []) w a9 U ∧ ST false (keys []) w W U ((b7, Obj.cells (#[(.int .i64 u.2.1), (.int .i64 u.2.2.1), (.string u.2.2.2.1.Owner), (.string u.2.2.2.1.Word), a6] : Array Value) 113 (0, 0)) :: ((b1, Obj.cells (C5.toArray : Array Value) 113 (0, 0)) :: c3)) ∧ E 2 = (.pointer (some ⟨b1, 0, none⟩)) ∧ E 4 = (.pointer (some ⟨b7, 0, none⟩)) ∧ E 5 = (.int .i64 u.1) ∧ Sl aH 5 U a6 u.2.2.2.2) (fun u d7 => ?_) ?_))))))))))))))
  · refine dP (fun i E W => ∃ (a7 : Int) (G : Int) (H : Int) (y : Role) (x : Value) (N : List Formula) (z : aY) (b2 : List (Nat × Obj)), (E 18 = .int .i64 (i : Nat) ∧ E 17 = .int .i64 (((a0.drop (Int.toNat 1))).length : Nat)) ∧ aW a9 z ∧ Lo (keys []) w a9 z ∧ ST false (keys []) w W z ((b7, Obj.cells (#[(.int .i64 G), (.int .i64 H), (.string y.Owner), (.string y.Word), x] : Array Value) 113 (0, 0)) :: ((b1, Obj.cells (C5.toArray : Array Value) 113 (0, 0)) :: b2)) ∧ E 2 = (.pointer (some ⟨b1, 0, none⟩)) ∧ E 4 = (.pointer (some ⟨b7, 0, none⟩)) ∧ E 5 = (.int .i64 a7) ∧ E 16 = f3 ∧ Sl aH 5 z x N ∧ jx (((a0.drop (Int.toNat 1))).drop i) a7 G H y N = some u) ((a0.drop (Int.toNat 1))).length b5.1.len ⟨j.2, ((j.1).Op), ((j.1).K), ((j.1).Role), (.slice c2 ((j.1).Kids).length c5), ((j.1).Kids), a9, _, ⟨rfl, rfl⟩, (aW.refl _), Lo.refl, (hST.sel St), rfl, rfl, rfl, rfl, d0, d7⟩ (by decide) (by decide) (by decide) (fun _ _ _ h => by obtain ⟨_, _, _, _, _, _, _, _, eIN, _⟩ := h; exact eIN) ?_ ?_
    · rintro e7 E W d6 ⟨a7, G, H, y, x, N, z, b2, ⟨eI, eN⟩, t, hl254, hST, a2, D, a3, b4, I, c⟩
      obtain ⟨a, f6, e1, e0, e2⟩ := dB d6
      rw [e1] at c
      rw [jx] at c
      refine aU (aC (aA (VQ (fN (i := (e7 : Int)) (x0 := a) aH.out Tryz.underlying111 Tryz.sizeOf113 b4 eI (b5.1.mono aQ.mono t) (Int.natCast_nonneg _) e0) (fun g8 ⟨_, ⟨h2, rfl, c0⟩, d8⟩ => V (aI rfl (bN hST.has d8 Tryz.isAgg113 Tryz.sizeOf113)) (VE (cA hST Tryz.zeroValue113 (fun g2 g6 hST => ?_)))))))
      obtain ⟨Y, Z, rfl⟩ := c0.form
      refine VO (aX (.agg (C2 a.Op a.K a.Role.Owner a.Role.Word Y a.Kids.length Z).toArray) ((C2 a.Op a.K a.Role.Owner a.Role.Word Y a.Kids.length Z).toArray) hST rfl rfl Tryz.sizeOf113 (by simp [Value.cells, Value.oneCell']) nb rfl (fun g3 hST => aD (aG (aC (aC (aA (V (aB a3) (V (aP rfl rfl rfl) (aD (aG (CI c rfl (fun d5 c => ?_) (fun d5 c => ?_))))))))))))
      · refine gI (gc (EP (by simp) (gc (li (aG ?_)))))
        have hx := sj c; subst hx
        exact ⟨x, z, _, t, hl254, (hST.sel (Db St)), a2, D, a3, I⟩
      refine aT (aG (aA (V (aI D (aK hST.has (Mt Mh) [(.int .i64 G), (.int .i64 H), (.string y.Owner), (.string y.Word), x] rfl Tryz.isAgg113 Tryz.sizeOf113)) (V (aI rfl (aK hST.has Mh (C2 a.Op a.K a.Role.Owner a.Role.Word Y a.Kids.length Z) rfl Tryz.isAgg113 Tryz.sizeOf113)) (bS c fun g d9 c => ?_)))))
      have hsz := hST.size
      refine VE (je hST (List.Perm.refl _) Tryz.call307 (fun hH hN hsb hmm => (xR ((⟨G, H, y, N⟩ : Formula)) x a (.slice Y a.Kids.length Z) _ _ ⟨hH, hN, hsb⟩ (I.mono aQ.mono (aW.refl _)) (c0.mono aQ.mono (aW.refl _)) d9)) (fun g4 h3 f0 f9 hST c9 hl275 d3 => ?_) (L0 := []))
      obtain ⟨h6, a5, rfl, c1⟩ := d3
      replace a5 := a5.symm; subst a5
      replace hST := hST.perm Tn
      refine V (aB rfl) (V (bQ rfl rfl) (V (bQ rfl rfl) ?_))
      obtain ⟨b0, b3, rfl⟩ := c1.form
      replace hST := hST.perm (Nb (Pb Pz) Nz)
      refine VO (aX (.agg #[(.int .i64 ((g.1).Op)), (.int .i64 ((g.1).K)), (.string (((g.1).Role).Owner)), (.string (((g.1).Role).Word)), (.slice b0 ((g.1).Kids).length b3)]) (#[(.int .i64 ((g.1).Op)), (.int .i64 ((g.1).K)), (.string (((g.1).Role).Owner)), (.string (((g.1).Role).Word)), (.slice b0 ((g.1).Kids).length b3)]) hST D rfl Tryz.sizeOf113 (by simp [Value.cells, Value.oneCell']) nb rfl (fun g5 hST => V (aF rfl) (aD (cM (aG ?_)))))
      replace hST := hST.sel (Kb (Db St))
      exact ⟨eI, g.2, ((g.1).Op), ((g.1).K), ((g.1).Role), (.slice b0 ((g.1).Kids).length b3), ((g.1).Kids), f0, _, ⟨rfl, eN⟩, (t.trans c9), (hl254.trans hl275), (hST.sel St), a2, D, rfl, b4, c1, (by rw [e2]; exact c)⟩
    rintro E W ⟨a7, G, H, y, x, N, z, b2, ⟨eI, eN⟩, t, hl254, hST, a2, D, a3, b4, I, c⟩
    rw [List.drop_length] at c
    rw [jx] at c
    refine aG ?_
    have hx := sj c; subst hx
    exact ⟨x, z, _, t, hl254, (hST.sel St), a2, D, a3, I⟩
  rintro ⟨e8, Q, T, k, M⟩ E W ⟨a6, U, c3, a8, hl156, hST, a1, e4, c6, b9⟩ B
  refine aC (aC (aA (V (aB c6) (V (aP rfl rfl rfl) (aD (aG (CI B rfl (fun d4 B => ?_) (fun d4 B => ?_))))))))
  · refine aC (aA (V (dX (qs := #[]) (v := (.agg C5.toArray)) lT (cV Tryz.zeroValue113 Tryz.underlying113 (nQ _ Tryz.underlying113) (by kernel_rfl))) (V (aB c6) ?_)))
    replace hST := hST.perm (Nb (Pb Pz) Nz)
    refine VO (aX (.agg C5.toArray) (C5.toArray) hST a1 rfl Tryz.sizeOf113 (by simp [Value.cells, Value.oneCell']) nb rfl (fun g0 hST => V (aF rfl) (aD (aG ?_))))
    replace hST := hST.sel (Kb (Db St))
    refine aS (cR ?_)
    have hx := sj B; subst hx
    exact kd (v0 := (.agg C5.toArray)) (v1 := (.int .i64 e8)) rfl a1 (aK hST.has Mh C5 rfl Tryz.isAgg113 Tryz.sizeOf113) rfl ⟨_, _, _, rfl, (hST.bkM Sn), (a4.trans a8), (hl15.trans hl156), (ST.sub_hpx hST (eQ.mem Sn)), (.slice none 0 0), rfl, rfl, (Sl.nil _ _ _)⟩
  refine aT (aG (aC (aA (V (aI e4 (aK hST.has Mh [(.int .i64 Q), (.int .i64 T), (.string k.Owner), (.string k.Word), a6] rfl Tryz.isAgg113 Tryz.sizeOf113)) ?_))))
  obtain ⟨J, K, rfl⟩ := b9.form
  replace hST := hST.perm (Nb (Pb Pz) Nz)
  refine VO (aX (.agg (C2 Q T k.Owner k.Word J M.length K).toArray) ((C2 Q T k.Owner k.Word J M.length K).toArray) hST a1 rfl Tryz.sizeOf113 (by simp [Value.cells, Value.oneCell']) nb rfl (fun g1 hST => V (aF rfl) (aD (aG ?_))))
  replace hST := hST.sel (Kb (Db St))
  refine aS ?_
  have hx := sj B; subst hx
  exact kd (v0 := (.agg (C2 Q T k.Owner k.Word J M.length K).toArray)) (v1 := (.int .i64 0)) rfl a1 (aK hST.has Mh (C2 Q T k.Owner k.Word J M.length K) rfl Tryz.isAgg113 Tryz.sizeOf113) rfl ⟨_, _, _, rfl, (hST.bkM Sn), (a4.trans a8), (hl15.trans hl156), (ST.sub_hpx hST (eQ.mem Sn)), (.slice J M.length K), rfl, rfl, b9⟩
theorem AR (k : bT) (G : Value) (H : Value) (a1 : Cred) (r : (Formula × Int)) (w : World) {μ0 : aY} (h0 : ie μ0 [] w) (t : Sl bB 15 μ0 G k.Creds) (y : Sl cN 8 μ0 H k.Acks) (hm : oO k a1 = some r) :
    dO false Tryz.prog 106 [(.agg #[(.string k.Name), G, H]), (.agg (aJ a1).toArray)] w μ0 [] (fun v L1 μ1 => ∃ (y1 : Value), v = (.tuple #[(.agg #[(.int .i64 ((r.1).Op)), (.int .i64 ((r.1).K)), (.string (((r.1).Role).Owner)), (.string (((r.1).Role).Word)), y1]), (.int .i64 (r.2))]) ∧ L1 = [] ∧ Sl aH 5 μ1 y1 ((r.1).Kids)) := by
  have hST := ST.startE (dd := false) h0
  unfold oO at hm
  refine cF 41 Tryz.func106 rfl (aC (aA ?_))
  obtain ⟨A1, c2, rfl⟩ := t.form
  obtain ⟨A3, c4, rfl⟩ := y.form
  refine VE (cH (v := (.agg (C6 k.Name A1 k.Creds.length c2 A3 k.Acks.length c4).toArray)) hST rfl (fun W6 b5 hST => VE (cH (v := (.agg (aJ a1).toArray)) hST rfl (fun W8 b7 hST => VE (cA hST Tryz.zeroValue113 (fun i2 b9 hST => V (aF rfl) (aD (aG (aC (aA (V (aI rfl (aK hST.has (Mt (Mt Mh)) (C6 k.Name A1 k.Creds.length c2 A3 k.Acks.length c4) rfl Tryz.isAgg110 Tryz.sizeOf110)) (V (aI rfl (aK hST.has (Mt Mh) (aJ a1) rfl Tryz.isAgg53 Tryz.sizeOf53)) (bS hm fun a e7 hm => ?_)))))))))))))
  have hsz := hST.size
  refine VE (je hST (List.Perm.refl _) Tryz.call212 (fun hH hN hsb hmm => (yB k (.slice A1 k.Creds.length c2) (.slice A3 k.Acks.length c4) a1 _ _ ⟨hH, hN, hsb⟩ (t.mono bD.mono (aW.refl _)) (y.mono dV.mono (aW.refl _)) e7)) (fun i3 j0 j6 i0 hST I hl16 e4 => ?_) (L0 := []))
  obtain ⟨j4, j5, a5, rfl, e9, c5⟩ := e4
  replace a5 := a5.symm; subst a5
  replace hST := hST.perm Tn
  refine V (aB rfl) (V (bQ rfl rfl) (V (bQ rfl rfl) (VE (cA hST Tryz.zeroValue138 (fun i4 i9 hST => ?_)))))
  obtain ⟨d9, e1, rfl⟩ := e9.form
  obtain ⟨z, D, rfl⟩ := c5.form
  refine VO (aX (.agg #[(.int .i64 ((((a.1).Signed).Cred).Kind)), (.string (((((a.1).Signed).Cred).Head).Owner)), (.string (((((a.1).Signed).Cred).Head).Word)), (.string ((((a.1).Signed).Cred).Who)), (.string (((((a.1).Signed).Cred).B).Owner)), (.string (((((a.1).Signed).Cred).B).Word)), (.string (((((a.1).Signed).Cred).C).Owner)), (.string (((((a.1).Signed).Cred).C).Word)), (.string ((((a.1).Signed).Cred).Word2)), (.slice d9 (((a.1).Signed).Tag).length e1), (.int .i64 (((a.1).Release).Op)), (.int .i64 (((a.1).Release).K)), (.string ((((a.1).Release).Role).Owner)), (.string ((((a.1).Release).Role).Word)), (.slice z (((a.1).Release).Kids).length D)]) (#[(.int .i64 ((((a.1).Signed).Cred).Kind)), (.string (((((a.1).Signed).Cred).Head).Owner)), (.string (((((a.1).Signed).Cred).Head).Word)), (.string ((((a.1).Signed).Cred).Who)), (.string (((((a.1).Signed).Cred).B).Owner)), (.string (((((a.1).Signed).Cred).B).Word)), (.string (((((a.1).Signed).Cred).C).Owner)), (.string (((((a.1).Signed).Cred).C).Word)), (.string ((((a.1).Signed).Cred).Word2)), (.slice d9 (((a.1).Signed).Tag).length e1), (.int .i64 (((a.1).Release).Op)), (.int .i64 (((a.1).Release).K)), (.string ((((a.1).Release).Role).Owner)), (.string ((((a.1).Release).Role).Word)), (.slice z (((a.1).Release).Kids).length D)]) hST rfl rfl Tryz.sizeOf138 (by simp [Value.cells, Value.oneCell']) nb rfl (fun i5 hST => V (aF rfl) (aD (aG (aC (aC (aA (V (aB rfl) (V (iS rfl) (aD (aG (CI hm rfl (fun e6 hm => ?_) (fun e6 hm => ?_)))))))))))))
  · refine aC (aA (V (dX (qs := #[]) (v := (.agg C5.toArray)) lT (cV Tryz.zeroValue113 Tryz.underlying113 (nQ _ Tryz.underlying113) (by kernel_rfl))) ?_))
    replace hST := hST.perm (Nb (Pb Pz) Nz)
    refine VO (aX (.agg C5.toArray) (C5.toArray) hST rfl rfl Tryz.sizeOf113 (by simp [Value.cells, Value.oneCell']) nb rfl (fun i6 hST => V (aF rfl) (aD (aG ?_))))
    replace hST := hST.sel (Kb (Db (Db (Db St))))
    refine aS (cR ?_)
    have hx := sj hm; subst hx
    exact kd (v0 := (.agg C5.toArray)) (v1 := (.int .i64 42)) rfl rfl (aK hST.has Mh C5 rfl Tryz.isAgg113 Tryz.sizeOf113) rfl ⟨_, _, _, rfl, (hST.bkM Sn), I, hl16, (ST.sub_hpx hST (eQ.mem Sn)), (.slice none 0 0), rfl, rfl, (Sl.nil _ _ _)⟩
  refine aT (aG (aC (aA (V (aM uv rfl) (V (aI rfl (aK hST.has Mh [(.int .i64 (((a.1).Release).Op)), (.int .i64 (((a.1).Release).K)), (.string ((((a.1).Release).Role).Owner)), (.string ((((a.1).Release).Role).Word)), (.slice z (((a.1).Release).Kids).length D)] rfl Tryz.isAgg113 Tryz.sizeOf113)) (VE (bU (qs := #[(0, (.agg #[(.int .i64 (((a.1).Release).Op)), (.int .i64 (((a.1).Release).K)), (.string ((((a.1).Release).Role).Owner)), (.string ((((a.1).Release).Role).Word)), (.slice z (((a.1).Release).Kids).length D)]))]) (cs := #[(.int .i64 (((a.1).Release).Op)), (.int .i64 (((a.1).Release).K)), (.string ((((a.1).Release).Role).Owner)), (.string ((((a.1).Release).Role).Word)), (.slice z (((a.1).Release).Kids).length D)]) hST (fH rfl) (eF [(.agg #[(.int .i64 (((a.1).Release).Op)), (.int .i64 (((a.1).Release).K)), (.string ((((a.1).Release).Role).Owner)), (.string ((((a.1).Release).Role).Word)), (.slice z (((a.1).Release).Kids).length D)])] Tryz.underlying111 Tryz.sizeOf113 Tryz.zeroValue113 (by decide) rfl (by intro v hv; simp only [List.mem_cons, List.not_mem_nil, or_false] at hv; rcases hv with rfl <;> rfl) rfl rfl) (fun i7 e0 hST => V (aF rfl) (aD (aG ?_))))))))))
  replace hST := hST.sel (Kb (Db St))
  refine aC (aC (aA (V (aI rfl (aK hST.has (Mt (Mt (Mt Mh))) (C6 k.Name A1 k.Creds.length c2 A3 k.Acks.length c4) rfl Tryz.isAgg110 Tryz.sizeOf110)) (V (aI rfl (aK hST.has (Mt (Mt Mh)) (aJ a1) rfl Tryz.isAgg53 Tryz.sizeOf53)) (bS hm fun c6 e8 hm => ?_)))))
  have hsz := hST.size
  refine VE (je hST (List.Perm.refl _) Tryz.call209 (fun hH hN hsb hmm => (xN k (.slice A1 k.Creds.length c2) (.slice A3 k.Acks.length c4) a1 _ _ ⟨hH, hN, hsb⟩ (t.mono bD.mono I) (y.mono dV.mono I) e8)) (fun i8 j3 e2 i1 hST a8 hl42 e5 => ?_) (L0 := []))
  obtain ⟨f6, a6, rfl, a7⟩ := e5
  replace a6 := a6.symm; subst a6
  replace hST := hST.perm Tn
  refine V (eH Tryz.underlying108 rfl a7) (V (aB rfl) (aD (aG ?_)))
  replace hST := hST.sel (Kb (Kb (Db (Db St))))
  replace hST := hST.row1
  refine dP (fun i E W => ∃ (Q : Value) (N : List Formula) (K : List (Nat × Obj)) (Z : List (Nat × Obj)), (E 27 = .int .i64 (i : Nat) ∧ E 26 = .int .i64 (c6.length : Nat)) ∧ ST false (keys []) w W e2 ((b9, Obj.cells (C5.toArray : Array Value) 113 (0, 0)) :: (K ++ Z)) ∧ E 4 = (.pointer (some ⟨b9, 0, none⟩)) ∧ E 8 = Q ∧ E 25 = f6 ∧ bX 113 aH 5 e2 Q N K ∧ jO (c6.drop i) N = some r) c6.length a7.len ⟨(.slice (some ⟨e0, 0, none⟩) 1 1), ([(a.1).Release]), [(e0, Obj.cells (#[(.int .i64 (((a.1).Release).Op)), (.int .i64 (((a.1).Release).K)), (.string ((((a.1).Release).Role).Owner)), (.string ((((a.1).Release).Role).Word)), (.slice z (((a.1).Release).Kids).length D)] : Array Value) 113 (0, 0))], _, ⟨rfl, rfl⟩, (hST.sel (Sb (Pr Pz) St)), rfl, rfl, rfl, (bX.lit aQ (l := [(a.1).Release]) (.cons (ys := [(.int .i64 (((a.1).Release).Op)), (.int .i64 (((a.1).Release).K)), (.string ((((a.1).Release).Role).Owner)), (.string ((((a.1).Release).Role).Word)), (.slice z (((a.1).Release).Kids).length D)]) (aH.mk ⟨(.slice z (((a.1).Release).Kids).length D), rfl, (c5.mono aQ.mono a8)⟩) .nil) rfl nb rfl), hm⟩ (by decide) (by decide) (by decide) (fun _ _ _ h => by obtain ⟨_, _, _, _, eIN, _⟩ := h; exact eIN) ?_ ?_
  · rintro f0 E W d0 ⟨Q, N, K, Z, ⟨eI, eN⟩, hST, T, a3, a4, U, j⟩
    obtain ⟨c, f7, d6, d5, d7⟩ := dB d0
    rw [d6] at j
    rw [jO] at j
    refine aU (aC (aA (VQ (fN (i := (f0 : Int)) (x0 := c) cN.out Tryz.underlying108 Tryz.sizeOf263 a4 eI a7 (Int.natCast_nonneg _) d5) (fun g9 ⟨_, ⟨h3, h4, rfl, a9, d3⟩, d1⟩ => V (aI rfl (bN hST.has d1 Tryz.isAgg263 Tryz.sizeOf263)) (VE (cA hST Tryz.zeroValue263 (fun g0 g6 hST => ?_)))))))
    obtain ⟨u, x, rfl⟩ := a9.form
    obtain ⟨b2, b6, rfl⟩ := d3.form
    refine VO (aX (.agg (C9 c.Role.Owner c.Role.Word c.Release.Op c.Release.K c.Release.Role.Owner c.Release.Role.Word u c.Release.Kids.length x b2 c.Closure.length b6).toArray) ((C9 c.Role.Owner c.Role.Word c.Release.Op c.Release.K c.Release.Role.Owner c.Release.Role.Word u c.Release.Kids.length x b2 c.Closure.length b6).toArray) hST rfl rfl Tryz.sizeOf263 (by simp [Value.cells, Value.oneCell']) nb rfl (fun g1 hST => aD (aG (aA (V (aB a3) (V (aM Al rfl) (V (aI rfl (aK hST.has Mh (C2 c.Release.Op c.Release.K c.Release.Role.Owner c.Release.Role.Word u c.Release.Kids.length x) rfl Tryz.isAgg113 Tryz.sizeOf113)) (VE (bU (qs := #[(0, (.agg (C2 c.Release.Op c.Release.K c.Release.Role.Owner c.Release.Role.Word u c.Release.Kids.length x).toArray))]) (cs := (C2 c.Release.Op c.Release.K c.Release.Role.Owner c.Release.Role.Word u c.Release.Kids.length x).toArray) hST (fH rfl) (eF [(.agg (C2 c.Release.Op c.Release.K c.Release.Role.Owner c.Release.Role.Word u c.Release.Kids.length x).toArray)] Tryz.underlying111 Tryz.sizeOf113 Tryz.zeroValue113 (by decide) rfl (by intro v hv; simp only [List.mem_cons, List.not_mem_nil, or_false] at hv; rcases hv with rfl <;> rfl) rfl rfl) (fun g2 g7 hST => ?_))))))))))
    replace hST := hST.perm (Nr (Qb (Qb (Qb Qz))) Nz)
    refine bS j fun f1 c9 j => VE (mJ (B := K) aQ hST (by decide) Tryz.underlying111 gB.1 gB.2.1 rfl gB.2.2.1 gB.2.2.2 rfl rfl U (rJ.lit aQ (l := [c.Release]) (.cons (ys := C2 c.Release.Op c.Release.K c.Release.Role.Owner c.Release.Role.Word u c.Release.Kids.length x) (aH.mk ⟨(.slice u c.Release.Kids.length x), rfl, a9⟩) .nil) rfl nb (hST.at_ (Ma Mh))) c9 (fun g3 f2 e3 hST c8 => V (aF rfl) (aD (cM (aG ?_)))))
    replace hST := hST.sel (Kr (Db (Db St)))
    exact ⟨eI, f2, f1, e3, _, ⟨rfl, eN⟩, (hST.sel (Sb (Pr Pz) St)), T, rfl, a4, c8, (by rw [d7]; exact j)⟩
  rintro E W ⟨Q, N, K, Z, ⟨eI, eN⟩, hST, T, a3, a4, U, j⟩
  rw [List.drop_length] at j
  rw [jO] at j
  refine aG (aC (aA (V (aB a3) ?_)))
  replace hST := hST.perm (Nr (Qb Qz) Nz)
  obtain ⟨h8, hST, c1, hl229, d4⟩ := ST.pubD aQ hST U
  refine bS j fun g d2 j => ?_
  have hsz := hST.size
  refine VE (je hST (List.Perm.refl _) Tryz.call213 (fun hH hN hsb hmm => (zj Q N _ _ ⟨hH, hN, hsb⟩ (d4.mono aQ.mono (aW.refl _)) d2)) (fun g4 h5 h9 f9 hST c3 hl236 c7 => ?_) (L0 := []))
  obtain ⟨h6, Y, rfl, b0⟩ := c7
  replace Y := Y.symm; subst Y
  replace hST := hST.perm Tn
  refine V (bQ rfl rfl) (V (bQ rfl rfl) ?_)
  obtain ⟨J, M, rfl⟩ := b0.form
  refine VO (aX (.agg #[(.int .i64 ((g.1).Op)), (.int .i64 ((g.1).K)), (.string (((g.1).Role).Owner)), (.string (((g.1).Role).Word)), (.slice J ((g.1).Kids).length M)]) (#[(.int .i64 ((g.1).Op)), (.int .i64 ((g.1).K)), (.string (((g.1).Role).Owner)), (.string (((g.1).Role).Word)), (.slice J ((g.1).Kids).length M)]) hST T rfl Tryz.sizeOf113 (by simp [Value.cells, Value.oneCell']) nb rfl (fun g5 hST => V (aF rfl) (aD (aG (aS ?_)))))
  have hx := sj j; subst hx
  exact kd (v0 := (.agg #[(.int .i64 ((g.1).Op)), (.int .i64 ((g.1).K)), (.string (((g.1).Role).Owner)), (.string (((g.1).Role).Word)), (.slice J ((g.1).Kids).length M)])) (v1 := (.int .i64 g.2)) rfl T (aK hST.has Mh [(.int .i64 ((g.1).Op)), (.int .i64 ((g.1).K)), (.string (((g.1).Role).Owner)), (.string (((g.1).Role).Word)), (.slice J ((g.1).Kids).length M)] rfl Tryz.isAgg113 Tryz.sizeOf113) rfl ⟨_, _, _, rfl, (hST.bkM Sn), (((I.trans a8).trans c1).trans c3), (((hl16.trans hl42).trans hl229).trans hl236), (ST.sub_hpx hST (eQ.mem Sn)), (.slice J ((g.1).Kids).length M), rfl, rfl, b0⟩
theorem sL (Q : Formula → (Role → Option Bool) → Option Bool) (a5 : ∀ (g : Formula) (k : Value) (t : Value) (J : Role → Option Bool) (r : Bool) (w : World) (c : Sl aH 5 (hp w) k g.Kids) (K : pQ Tryz.prog t (hp w) (fun (x : Role) => [(.agg (aO x).toArray)]) (fun (r : Bool) => (.bool r)) J), Q g J = some r → bW false Tryz.prog 288 [(.agg #[(.int .i64 g.Op), (.int .i64 g.K), (.string g.Role.Owner), (.string g.Role.Word), k]), t] w (.bool r)) (g : Formula) (k : Value) (t : Value) (J : Role → Option Bool) (r : Bool) (w : World) (c : Sl aH 5 (hp w) k g.Kids) (K : pQ Tryz.prog t (hp w) (fun (x : Role) => [(.agg (aO x).toArray)]) (fun (r : Bool) => (.bool r)) J) (hm : kN Q g J = some r) :
    bW false Tryz.prog 288 [(.agg #[(.int .i64 g.Op), (.int .i64 g.K), (.string g.Role.Owner), (.string g.Role.Word), k]), t] w (.bool r) := by
  have hST := ST.start (dd := false) w
  unfold kN at hm
  refine cF 45 Tryz.func288 rfl (aC (aA ?_))
  obtain ⟨A1, c2, rfl⟩ := c.form
  refine VE (cH (v := (.agg (C2 g.Op g.K g.Role.Owner g.Role.Word A1 g.Kids.length c2).toArray)) hST rfl (fun W4 b3 hST => V (aF rfl) (aD (aG (aC (aC (aA (V (aM kC rfl) (V (aI rfl (aN hST.has Mh rfl Tryz.isAgg3)) (V (aP rfl rfl rfl) (aD (aG (CI hm rfl (fun a9 hm => ?_) (fun a9 hm => ?_))))))))))))))
  · refine aC (aA (V (aB rfl) (V (aM nL rfl) (V (aI rfl (aK hST.has Mh (aO g.Role) rfl Tryz.isAgg28 Tryz.sizeOf28)) (bS hm fun r6 b0 hm => VE (CA g.Role hST K (aW.refl _) rfl (lQ rfl) b0 (fun W8 hST => V (aF rfl) (aD (aG ?_)))))))))
    replace hST := hST.sel (Db St)
    refine aS (cR ?_)
    have hx := sj hm; subst hx
    exact rP hST
  refine aT (aG (aC (aA (V (aF rfl) (aD (aG (aC (aC (aA (V (aM jL rfl) (V (aI rfl (aN hST.has Mh rfl Tryz.isAgg111)) (V (eH Tryz.underlying111 rfl c) (V (aB rfl) (aD ?_))))))))))))))
  refine aG (dP (fun i E W => ∃ (z : Int) (I : List (Nat × Obj)), (E 18 = .int .i64 (i : Nat) ∧ E 17 = .int .i64 (g.Kids.length : Nat)) ∧ ST false dW w W (hp w) ((b3, Obj.cells ((C2 g.Op g.K g.Role.Owner g.Role.Word A1 g.Kids.length c2).toArray : Array Value) 113 (0, 0)) :: I) ∧ E 1 = t ∧ E 2 = (.pointer (some ⟨b3, 0, none⟩)) ∧ E 5 = (.int .i64 z) ∧ E 16 = (.slice A1 g.Kids.length c2) ∧ gv Q J g (g.Kids.drop i) z = some r) g.Kids.length c.len ⟨0, _, ⟨rfl, rfl⟩, (hST.sel St), rfl, rfl, rfl, rfl, hm⟩ (by decide) (by decide) (by decide) (fun _ _ _ h => by obtain ⟨_, _, eIN, _⟩ := h; exact eIN) ?_ ?_)
  · rintro b1 E W a4 ⟨z, I, ⟨eI, eN⟩, hST, G, u, y, H, a⟩
    obtain ⟨j, c1, a7, a6, N⟩ := dB a4
    rw [a7] at a
    rw [gv] at a
    refine aU (aC (aA (VQ (fN (i := (b1 : Int)) (x0 := j) aH.out Tryz.underlying111 Tryz.sizeOf113 H eI c (Int.natCast_nonneg _) a6) (fun b7 ⟨_, ⟨c0, rfl, M⟩, Z⟩ => V (aI rfl (bN hST.has Z Tryz.isAgg113 Tryz.sizeOf113)) (VE (cA hST Tryz.zeroValue113 (fun b2 b6 hST => ?_)))))))
    obtain ⟨B, D, rfl⟩ := M.form
    refine VO (aX (.agg (C2 j.Op j.K j.Role.Owner j.Role.Word B j.Kids.length D).toArray) ((C2 j.Op j.K j.Role.Owner j.Role.Word B j.Kids.length D).toArray) hST rfl rfl Tryz.sizeOf113 (by simp [Value.cells, Value.oneCell']) nb rfl (fun b4 hST => aD (aG (aC (aA (V (aI rfl (aK hST.has Mh (C2 j.Op j.K j.Role.Owner j.Role.Word B j.Kids.length D) rfl Tryz.isAgg113 Tryz.sizeOf113)) (V (aB G) (bS a fun b9 a1 a => VE (Eg hST Tryz.call288 ((a5 j (.slice B j.Kids.length D) t J _ _ (M.mono aQ.mono hST.sub_hp) (K.mono hST.sub_hp) a1)) (fun b5 hST => aD (aG ?_)))))))))))
    replace hST := hST.sel (Db St)
    refine CI a rfl (fun T a => ?_) (fun T a => ?_)
    · exact aA (V (aB y) (V (aP rfl rfl rfl) (V (aF rfl) (aD (cM (aG ⟨eI, ((IntKind.i64.wrap (z + 1))), _, ⟨rfl, eN⟩, (hST.sel St), G, u, rfl, H, (by rw [N]; exact a)⟩))))))
    exact aT (cM (aG ⟨eI, z, _, ⟨rfl, eN⟩, (hST.sel St), G, u, y, H, (by rw [N]; exact a)⟩))
  rintro E W ⟨z, I, ⟨eI, eN⟩, hST, G, u, y, H, a⟩
  rw [List.drop_length] at a
  rw [gv] at a
  refine aG (aC (aC (aA (V (aM kC u) (V (aI rfl (aN hST.has Mh rfl Tryz.isAgg3)) (aD (aG (aU (aC (aA (V (aP rfl rfl rfl) (V (aF rfl) (aD (aG ?_))))))))))))))
  refine CI a rfl (fun U a => ?_) (fun U a => ?_)
  · refine aC (aA (V (aB y) (V (aM jL u) (V (aI rfl (aN hST.has Mh rfl Tryz.isAgg111)) (V (eH Tryz.underlying111 rfl c) (V (aP rfl rfl rfl) (V (aF rfl) (aD (aG ?_)))))))))
    replace hST := hST.sel (Db St)
    refine aS (gA (cR ?_))
    have hx := sj a; subst hx
    exact rP hST
  refine aC (aA (V (aP rfl rfl rfl) (V (aF rfl) (aD (aG (CI a rfl (fun Y a => ?_) (fun Y a => ?_)))))))
  · refine aC (aA (V (aB y) (V (aP rfl rfl rfl) (V (aF rfl) (aD (aG ?_))))))
    replace hST := hST.sel (Db St)
    refine aS (gA (cR ?_))
    have hx := sj a; subst hx
    exact rP hST
  refine aT (cM (aG (aC (aA (V (aB y) (V (aM nK u) (V (aI rfl (aN hST.has Mh rfl Tryz.isAgg3)) (V (aP rfl rfl rfl) (V (aF rfl) (aD (aG ?_)))))))))))
  replace hST := hST.sel (Db St)
  refine aS ?_
  have hx := sj a; subst hx
  exact rP hST
theorem qK : ∀ (n : Nat) (c : Formula) (a : Value) (g : Value) (j : Role → Option Bool) (r : Bool) (w : World) (i : Sl aH 5 (hp w) a c.Kids) (k : pQ Tryz.prog g (hp w) (fun (x : Role) => [(.agg (aO x).toArray)]) (fun (r : Bool) => (.bool r)) j) (_ : iQ n c j = some r),
    bW false Tryz.prog 288 [(.agg #[(.int .i64 c.Op), (.int .i64 c.K), (.string c.Role.Owner), (.string c.Role.Word), a]), g] w (.bool r)
  | 0 => by intros; rename_i h; simp only [iQ] at h; cases h
  | n + 1 => sL (iQ n) (qK n)
theorem xc (a : Formula) (j : Value) (k : Value) (G : Role → Option Bool) (r : Bool) (w : World) (c : Sl aH 5 (hp w) j a.Kids) (z : pQ Tryz.prog k (hp w) (fun (x : Role) => [(.agg (aO x).toArray)]) (fun (r : Bool) => (.bool r)) G) (hm : mn a G = some r) :
    bW false Tryz.prog 183 [(.agg #[(.int .i64 a.Op), (.int .i64 a.K), (.string a.Role.Owner), (.string a.Role.Word), j]), k] w (.bool r) := by
  have hST := ST.start (dd := false) w
  unfold mn at hm
  refine cF 16 Tryz.func183 rfl (aC (aA ?_))
  obtain ⟨u, y, rfl⟩ := c.form
  refine VE (cH (v := (.agg (C2 a.Op a.K a.Role.Owner a.Role.Word u a.Kids.length y).toArray)) hST rfl (fun U Z hST => V (aF rfl) (aD (aG (aC (aA (V (aB rfl) (V (Bs Tryz.underlying242 z.form rfl rfl) (V (aB rfl) (Vg rfl rfl (aI rfl (aK hST.has Mh (C2 a.Op a.K a.Role.Owner a.Role.Word u a.Kids.length y) rfl Tryz.isAgg113 Tryz.sizeOf113)) (bS hm fun r5 K hm => np rfl rfl (Eg hST Tryz.call107 ((nm a (.slice u a.Kids.length y) _ _ (c.mono aQ.mono hST.sub_hp) K)) (fun Y hST => V (cD rfl rfl) (V (aB rfl) (LJ hm (fun D E W => ∃  (B : List (Nat × Obj)), ST false dW w W (hp w) B ∧ E 4 = (.bool false) ∧ E 15 = (.bool D)) 4 ?_ (fun D g t => ?_))))))))))))))))
  · rintro T E W ⟨B, hST, N, J⟩ H
    refine V (aF J) (aD (aG (aS ?_)))
    have hx := sj H; subst hx
    exact rP hST
  refine bC g (fun i g => ?_) (fun i g => ?_)
  · refine Vg rfl (cB i) (aI rfl (aK hST.has Mh (C2 a.Op a.K a.Role.Owner a.Role.Word u a.Kids.length y) rfl Tryz.isAgg113 Tryz.sizeOf113)) (Vg rfl (cB i) (aB rfl) (bS g fun Q I g => np rfl (cB i) (Eg hST Tryz.call288 (((qK bR) a (.slice u a.Kids.length y) k G _ _ (c.mono aQ.mono hST.sub_hp) (z.mono hST.sub_hp) I)) (fun M hST => V (cD (cB i) rfl) ?_))))
    have hx := sj g; subst hx
    exact t _ _ ⟨_, (hST.sel (Db St)), rfl, rfl⟩
  refine Vn rfl (cB i) (Vn rfl (cB i) (Vn rfl (cB i) (V (cI (cB i) rfl) ?_)))
  have hx := sj g; subst hx
  exact t _ _ ⟨_, (hST.sel (Db St)), rfl, rfl⟩
theorem vu (K : Nat) (a : Value) (G : List (Role × (List (ByteArray × Bool)))) (c : Value) (t : List Cred) (j : Value) (D : List (Role × (List Cred))) (g : Value) (u : List (ByteArray × (List Cred))) (i : Value) (B : List aZ) (J : Int) (I : Role) (a2 : ByteArray) (r : Bool) (w : World) (H : lz (fun (x : Role) => (.agg (aO x).toArray)) (dK Value.string (fun (x : Bool) => (Value.bool x))) (hp w) a G) (T : Sl (Pl aJ) 9 (hp w) c t) (Z : lz (fun (x : Role) => (.agg (aO x).toArray)) (bE 53 aJ 9) (hp w) j D) (U : lz Value.string (bE 53 aJ 9) (hp w) g u) (Y : Sl (Pl cZ) 3 (hp w) i B) (Q : At (hp w) (.pointer (some ⟨K, 0, none⟩)) [a, c, j, g, i, (.int .i64 J)]) (hm : mP G t D u B J I a2 = some r) :
    bW true Tryz.prog 149 [(.pointer (some ⟨K, 0, none⟩)), (.agg (aO I).toArray), (.string a2)] w (.bool r) := by
  have hST := ST.start (dd := true) w
  unfold mP at hm
  refine cF 19 Tryz.func149 rfl (aC (aA (VE (cH (v := (.agg (aO I).toArray)) hST rfl (fun W2 b1 hST => V (aF rfl) (aD (aG (aC ?_))))))))
  replace hST := hST.drew
  have hS0 := hST.has.sel (Kb Sn)
  refine cU hS0 bO (X 0 rfl hS0 (aB rfl) (X 1 rfl hS0 (sM Tryz.underlying171 rfl rfl) (X 2 rfl hS0 (aB rfl) (Xg 3 rfl rfl rfl hS0 (aB rfl) (Xg 4 rfl rfl rfl hS0 (bP rfl) (mA 5 rfl (by kernel_rfl) (.inr ⟨2, true, 9, rfl, rfl, by decide, rfl⟩) rfl (by decide) (fun _ _ h => h) hS0 (tX [a] nJ rfl Q rfl) (fun a6 a3 => ql 6 rfl rfl rfl hS0 (fun _ hS => aI rfl (lZ hS (y := a) a3 Tryz.isAgg290)) (ql 7 rfl rfl rfl hS0 (fun _ hS => aI rfl (aK hS Mh (aO I) rfl Tryz.isAgg28 Tryz.sizeOf28)) ?_))))))))
  obtain ⟨a4, a5, M, N⟩ := H
  refine ql 8 rfl rfl rfl hS0 (fun _ hS => iE (k := I) (z := (.map none)) pL Tryz.underlying290 Tryz.zeroValue296 rfl rfl M (fun b o hq => hS.1 b o (N b o hq))) (Xg 9 rfl rfl rfl hS0 (aB rfl) (ql 10 rfl rfl rfl hS0 (fun _ hS => pD (k := a2) (z := false) (vf := (fun (x : Bool) => (Value.bool x))) wB Tryz.underlying296 Tryz.zeroValue4 rfl rfl ((eG.mapAt bA.1 M I N).mono (fun b o hq => hS.1 b o hq))) (X 11 rfl hS0 (cD rfl rfl) (X 12 rfl hS0 (aF rfl) (dC (by kernel_rfl) (aG ?_))))))
  replace hST := hST.sel (Db St)
  refine aS ?_
  have hx := sj hm; subst hx
  exact rP hST
theorem wh (N : Role) (Q : Nat) (D : Nat) (t : Value) (B : List (Role × (List (ByteArray × Bool)))) (a : Value) (j : List Cred) (i : Value) (z : List (Role × (List Cred))) (c : Value) (k : List (ByteArray × (List Cred))) (g : Value) (u : List aZ) (I : Int) (T : Nat) (Y : ByteArray) (r : Bool) (w : World) (M : lz (fun (x : Role) => (.agg (aO x).toArray)) (dK Value.string (fun (x : Bool) => (Value.bool x))) (hp w) t B) (G : Sl (Pl aJ) 9 (hp w) a j) (K : lz (fun (x : Role) => (.agg (aO x).toArray)) (bE 53 aJ 9) (hp w) i z) (H : lz Value.string (bE 53 aJ 9) (hp w) c k) (J : Sl (Pl cZ) 3 (hp w) g u) (U : At (hp w) (.pointer (some ⟨D, 0, none⟩)) [t, a, i, c, g, (.int .i64 I)]) (Z : At (hp w) (.pointer (some ⟨Q, 0, none⟩)) [(.pointer (some ⟨D, 0, none⟩))]) (a1 : At (hp w) (.pointer (some ⟨T, 0, none⟩)) [(.string Y)]) (hm : jH N B j z k u I Y = some r) :
    bW true Tryz.prog 287 [(.agg (aO N).toArray), (.pointer (some ⟨Q, 0, none⟩)), (.pointer (some ⟨T, 0, none⟩))] w (.bool r) := by
  have hST := ST.start (dd := true) w
  unfold jH at hm
  refine cF 9 Tryz.func287 rfl (aC (aA (VE (cH (v := (.agg (aO N).toArray)) hST rfl (fun W2 b1 hST => V (aF rfl) (aD (aG (aC (aA (V (aI rfl (lZ hST.has (y := (.pointer (some ⟨D, 0, none⟩))) Z Tryz.isAgg171)) (V (aI rfl (aK hST.has Mh (aO N) rfl Tryz.isAgg28 Tryz.sizeOf28)) (V (aI rfl (lZ hST.has (y := (.string Y)) a1 Tryz.isAgg9)) (bS hm fun r3 a2 hm => VE (Eg hST Tryz.call149 ((vu D t B a j i z c k g u I N Y _ _ (M.mono hST.sub_hp) (G.mono (Pl.mono _) hST.sub_hp) (K.mono hST.sub_hp) (H.mono hST.sub_hp) (J.mono (Pl.mono _) hST.sub_hp) (U.mono hST.sub_hp) a2)) (fun W5 hST => V (aF rfl) ?_)))))))))))))))
  refine aD (aG ?_)
  replace hST := hST.sel (Db St)
  refine aS ?_
  have hx := sj hm; subst hx
  exact rP hST
theorem mC (k : bT) (H : Value) (K : Value) (c1 : Value) (a1 : List Cred) (a2 : ByteArray) (r : List Cred) (w : World) (g : Sl bB 15 (hp w) H k.Creds) (J : Sl cN 8 (hp w) K k.Acks) (h3 : Sl (Pl aJ) 9 (hp w) c1 a1) (hm : jd k a1 a2 = some r) :
    fD false Tryz.prog 80 [(.agg #[(.string k.Name), H, K]), c1, (.string a2)] w 53 aJ 9 r := by
  have hST := ST.start (dd := false) w
  unfold jd at hm
  refine cF 47 Tryz.func80 rfl (aC (aA ?_))
  obtain ⟨A1, c2, rfl⟩ := g.form
  obtain ⟨A3, c4, rfl⟩ := J.form
  refine VE (cH (v := (.agg (C6 k.Name A1 k.Creds.length c2 A3 k.Acks.length c4).toArray)) hST rfl (fun W6 b5 hST => V (aF rfl) (aD (aG (aC (aA (V (aB rfl) (V (aB rfl) (bS hm fun B i3 hm => ?_)))))))))
  have hsz := hST.size
  refine VE (iu hST (List.Perm.refl _) Tryz.call182 (fun _ _ _ _ => (yg c1 a1 a2 _ _ (h3.mono (Pl.mono _) hST.sub_hp) i3)) (fun W9 k9 g4 k8 hST a5 hl12 hlift h2 => ?_) (L0 := []))
  obtain ⟨N, a8, e0, f9, e1, g0, e2, g1, e3, g2, e4, g3, Q, c0, rfl, h4, h5, h6, h7, h8⟩ := h2
  replace c0 := c0.symm; subst c0
  replace hST := hST.perm (Tb (Tb (Tb (Tr (Tr (Tr (Tr (Tr Tn))))))))
  refine V (aF rfl) (aD (aG (aC (aA (V (aF rfl) (aD (aG (aC (aC (aA (V (aM kZ rfl) (V (aI rfl (aN hST.has (Mt (Mt (Mt (Ma (Ma (Ma (Ma (Ma Mh)))))))) rfl Tryz.isAgg107)) (V (eH Tryz.underlying107 rfl g) (V (aB rfl) ?_))))))))))))))
  refine aD (aG (dP (fun i E W => ∃ (D : Value) (I : List Cred) (G : List (Nat × Obj)) (a7 : aY) (b4 : List (Nat × Obj)), (E 19 = .int .i64 (i : Nat) ∧ E 18 = .int .i64 (k.Creds.length : Nat)) ∧ aW g4 a7 ∧ ST false dW w W a7 ((N, Obj.cells (#[(.pointer (some ⟨a8, 0, none⟩))] : Array Value) 171 (0, 0)) :: ((a8, Obj.cells (#[e0, e1, e2, e3, e4, (.int .i64 B.2.2.2.2.2.1)] : Array Value) 294 (0, 0)) :: ((Q, Obj.cells (#[(.string B.2.2.2.2.2.2)] : Array Value) 9 (0, 0)) :: ((b5, Obj.cells ((C6 k.Name A1 k.Creds.length c2 A3 k.Acks.length c4).toArray : Array Value) 110 (0, 0)) :: (G ++ (f9 ++ (g0 ++ (g1 ++ (g2 ++ (g3 ++ b4)))))))))) ∧ E 3 = (.pointer (some ⟨b5, 0, none⟩)) ∧ E 7 = (.func (.func 287) #[] #[(.pointer (some ⟨N, 0, none⟩)), (.pointer (some ⟨Q, 0, none⟩))]) ∧ E 8 = D ∧ E 17 = (.slice A1 k.Creds.length c2) ∧ bE 53 aJ 9 D I G ∧ ig k B (k.Creds.drop i) I = some r) k.Creds.length g.len ⟨(.slice none 0 0), ([]), [], g4, _, ⟨rfl, rfl⟩, (aW.refl _), (hST.sel (Kb (Kb (Kb (Sb (Pr (Pr (Pr (Pr (Pr Pz))))) St))))), rfl, rfl, rfl, rfl, (bE.nil _ _ _), hm⟩ (by decide) (by decide) (by decide) (fun _ _ _ h => by obtain ⟨_, _, _, _, _, eIN, _⟩ := h; exact eIN) ?_ ?_))
  · rintro d8 E W f0 ⟨D, I, G, a7, b4, ⟨eI, eN⟩, u, hST, Y, Z, a3, a4, M, j⟩
    obtain ⟨a, i4, f8, f7, c6⟩ := dB f0
    rw [f8] at j
    rw [ig] at j
    refine aU (aC (aA (VQ (fN (i := (d8 : Int)) (x0 := a) bB.out Tryz.underlying107 Tryz.sizeOf138 a4 eI (g.mono bD.mono (a5.trans u)) (Int.natCast_nonneg _) f7) (fun j9 ⟨_, ⟨k2, k3, rfl, f5, f6⟩, f1⟩ => V (aI rfl (bN hST.has f1 Tryz.isAgg138 Tryz.sizeOf138)) (VE (cA hST Tryz.zeroValue138 (fun i7 d0 hST => ?_)))))))
    obtain ⟨b2, b7, rfl⟩ := f5.form
    obtain ⟨b3, b9, rfl⟩ := f6.form
    refine VO (aX (.agg (C3 a.Signed.Cred.Kind a.Signed.Cred.Head.Owner a.Signed.Cred.Head.Word a.Signed.Cred.Who a.Signed.Cred.B.Owner a.Signed.Cred.B.Word a.Signed.Cred.C.Owner a.Signed.Cred.C.Word a.Signed.Cred.Word2 b2 a.Signed.Tag.length b7 a.Release.Op a.Release.K a.Release.Role.Owner a.Release.Role.Word b3 a.Release.Kids.length b9).toArray) ((C3 a.Signed.Cred.Kind a.Signed.Cred.Head.Owner a.Signed.Cred.Head.Word a.Signed.Cred.Who a.Signed.Cred.B.Owner a.Signed.Cred.B.Word a.Signed.Cred.C.Owner a.Signed.Cred.C.Word a.Signed.Cred.Word2 b2 a.Signed.Tag.length b7 a.Release.Op a.Release.K a.Release.Role.Owner a.Release.Role.Word b3 a.Release.Kids.length b9).toArray) hST rfl rfl Tryz.sizeOf138 (by simp [Value.cells, Value.oneCell']) nb rfl (fun i8 hST => aD (aG (aC (aA (V (aI Y (aK hST.has (Mt (Mt (Mt (Mt Mh)))) (C6 k.Name A1 k.Creds.length c2 A3 k.Acks.length c4) rfl Tryz.isAgg110 Tryz.sizeOf110)) (V (aM qh rfl) (V (aM rK rfl) (V (aI rfl (aK hST.has Mh (aJ a.Signed.Cred) rfl Tryz.isAgg53 Tryz.sizeOf53)) (bS j fun c f2 j => ?_))))))))))
    have hsz := hST.size
    refine VE (je hST (List.Perm.refl _) Tryz.call106 (fun hH hN hsb hmm => (AR k (.slice A1 k.Creds.length c2) (.slice A3 k.Acks.length c4) a.Signed.Cred _ _ ⟨hH, hN, hsb⟩ (g.mono bD.mono (a5.trans u)) (J.mono dV.mono (a5.trans u)) f2)) (fun i9 k4 c3 i6 hST a9 hl422 e6 => ?_) (L0 := []))
    obtain ⟨k6, a6, rfl, c7⟩ := e6
    replace a6 := a6.symm; subst a6
    replace hST := hST.perm Tn
    refine V (aB rfl) (V (bQ rfl rfl) (V (bQ rfl rfl) (VE (cA hST Tryz.zeroValue113 (fun j0 j8 hST => ?_)))))
    obtain ⟨T, U, rfl⟩ := c7.form
    refine VO (aX (.agg #[(.int .i64 ((c.1).Op)), (.int .i64 ((c.1).K)), (.string (((c.1).Role).Owner)), (.string (((c.1).Role).Word)), (.slice T ((c.1).Kids).length U)]) (#[(.int .i64 ((c.1).Op)), (.int .i64 ((c.1).K)), (.string (((c.1).Role).Owner)), (.string (((c.1).Role).Word)), (.slice T ((c.1).Kids).length U)]) hST rfl rfl Tryz.sizeOf113 (by simp [Value.cells, Value.oneCell']) nb rfl (fun j3 hST => V (aF rfl) (aD (aG (aC (aA (V (aB rfl) (V (aP rfl rfl rfl) (V (aB rfl) (LJ j (fun d9 E W => ∃  (c9 : List (Nat × Obj)), ST false dW w W c3 ((d0, Obj.cells ((C3 a.Signed.Cred.Kind a.Signed.Cred.Head.Owner a.Signed.Cred.Head.Word a.Signed.Cred.Who a.Signed.Cred.B.Owner a.Signed.Cred.B.Word a.Signed.Cred.C.Owner a.Signed.Cred.C.Word a.Signed.Cred.Word2 b2 a.Signed.Tag.length b7 a.Release.Op a.Release.K a.Release.Role.Owner a.Release.Role.Word b3 a.Release.Kids.length b9).toArray : Array Value) 138 (0, 0)) :: ((N, Obj.cells (#[(.pointer (some ⟨a8, 0, none⟩))] : Array Value) 171 (0, 0)) :: ((a8, Obj.cells (#[e0, e1, e2, e3, e4, (.int .i64 B.2.2.2.2.2.1)] : Array Value) 294 (0, 0)) :: ((Q, Obj.cells (#[(.string B.2.2.2.2.2.2)] : Array Value) 9 (0, 0)) :: ((b5, Obj.cells ((C6 k.Name A1 k.Creds.length c2 A3 k.Acks.length c4).toArray : Array Value) 110 (0, 0)) :: (G ++ (f9 ++ (g0 ++ (g1 ++ (g2 ++ (g3 ++ c9))))))))))) ∧ E 3 = (.pointer (some ⟨b5, 0, none⟩)) ∧ E 7 = (.func (.func 287) #[] #[(.pointer (some ⟨N, 0, none⟩)), (.pointer (some ⟨Q, 0, none⟩))]) ∧ E 8 = D ∧ E 10 = (.pointer (some ⟨d0, 0, none⟩)) ∧ E 17 = (.slice A1 k.Creds.length c2) ∧ E 18 = (.int .i64 ((k.Creds.length : Int))) ∧ E 19 = (.int .i64 ((d8 : Int))) ∧ E 37 = (.bool d9)) 4 ?_ (fun d9 z b0 => ?_)))))))))))
    · rintro k5 E W ⟨c9, hST, d2, d3, d4, h0, d5, d6, d7, h1⟩ y
      refine aD (aG (CI y h1 (fun e8 y => ?_) (fun e8 y => ?_)))
      · refine aA (V (aB d4) (V (aM qh h0) (V (aM rK rfl) (V (aI rfl (aK hST.has Mh (aJ a.Signed.Cred) rfl Tryz.isAgg53 Tryz.sizeOf53)) (VE (bU (qs := #[(0, (.agg (aJ a.Signed.Cred).toArray))]) (cs := (aJ a.Signed.Cred).toArray) hST (fH rfl) (eF [(.agg (aJ a.Signed.Cred).toArray)] Tryz.underlying22 Tryz.sizeOf53 Tryz.zeroValue53 (by decide) rfl (by intro v hv; simp only [List.mem_cons, List.not_mem_nil, or_false] at hv; rcases hv with rfl <;> rfl) rfl rfl) (fun j4 g9 hST => ?_)))))))
        replace hST := hST.perm (Nr (Qb (Qb (Qb (Qb (Qb (Qb Qz)))))) Nz)
        refine bS y fun h9 e9 y => VE (kj (enc := aJ) (v := D) (vs := (.slice (some ⟨g9, 0, none⟩) 1 1)) (R := G) hST bV (by decide) gC Tryz.underlying22 io.1 io.2.1 rfl io.2.2.1 io.2.2.2 rfl rfl M (Sl.lit (enc := aJ) (l := [a.Signed.Cred]) bV rfl nb rfl (hST.at_ (Ma Mh))) e9 (fun j5 i0 g5 hST e7 => V (aF rfl) (aD (cM (aG ?_)))))
        replace hST := hST.sel (Kr (Db (Db St)))
        exact ⟨d7, i0, h9, g5, c3, _, ⟨rfl, d6⟩, (u.trans a9), (hST.sel (Sb (Pr Pz) (Sb (Pr Pz) (Sb (Pr Pz) (Sb (Pr Pz) St))))), d2, d3, rfl, d5, e7, (by rw [c6]; exact y)⟩
      refine aT (cM (aG ?_))
      replace hST := hST.sel (Db St)
      exact ⟨d7, D, I, G, c3, _, ⟨rfl, d6⟩, (u.trans a9), (hST.sel St), d2, d3, d4, d5, M, (by rw [c6]; exact y)⟩
    refine bC z (fun t z => ?_) (fun t z => ?_)
    · refine Vg rfl (cB t) (aI rfl (aK hST.has Mh [(.int .i64 ((c.1).Op)), (.int .i64 ((c.1).K)), (.string (((c.1).Role).Owner)), (.string (((c.1).Role).Word)), (.slice T ((c.1).Kids).length U)] rfl Tryz.isAgg113 Tryz.sizeOf113)) (Vg rfl (cB t) (aB Z) (bS z fun k0 f3 z => np rfl (cB t) (Eg hST Tryz.call183 ((xc c.1 (.slice T ((c.1).Kids).length U) (.func (.func 287) #[] #[(.pointer (some ⟨N, 0, none⟩)), (.pointer (some ⟨Q, 0, none⟩))]) (fun (x : Role) => jH x B.1 B.2.1 B.2.2.1 B.2.2.2.1 B.2.2.2.2.1 B.2.2.2.2.2.1 B.2.2.2.2.2.2) _ _ (c7.mono aQ.mono hST.sub_hp) ⟨287, #[], #[(.pointer (some ⟨N, 0, none⟩)), (.pointer (some ⟨Q, 0, none⟩))], rfl, Tryz.call287, fun W x r hs hm => (wh x N a8 e0 B.1 e1 B.2.1 e2 B.2.2.1 e3 B.2.2.2.1 e4 B.2.2.2.2.1 B.2.2.2.2.2.1 Q B.2.2.2.2.2.2 r W (h4.at (fun b o hq => hs _ _ ((fun b o hq => hST.at_ (Mt (Mt (Mt (Mt (Mt (Mt (Ma (Ml hq))))))))) b o hq))) (h5.sl bV (fun b o hq => hs _ _ ((fun b o hq => hST.at_ (Mt (Mt (Mt (Mt (Mt (Mt (Ma (Ma (Ml hq)))))))))) b o hq))) (h6.at (fun b o hq => hs _ _ ((fun b o hq => hST.at_ (Mt (Mt (Mt (Mt (Mt (Mt (Ma (Ma (Ma (Ml hq))))))))))) b o hq))) (h7.at (fun b o hq => hs _ _ ((fun b o hq => hST.at_ (Mt (Mt (Mt (Mt (Mt (Mt (Ma (Ma (Ma (Ma (Ml hq)))))))))))) b o hq))) ((h8.slL ph).mono (Pl.mono _) (dZ (fun b o hq => hs _ _ ((fun b o hq => hST.at_ (Mt (Mt (Mt (Mt (Mt (Mt (Ma (Ma (Ma (Ma (Ma (Ml hq))))))))))))) b o hq)))) (At.of (hs _ _ (hST.at_ (Mt (Mt (Mt Mh))))) _ rfl) (At.of (hs _ _ (hST.at_ (Mt (Mt Mh)))) _ rfl) (At.of (hs _ _ (hST.at_ (Mt (Mt (Mt (Mt Mh)))))) _ rfl) hm).weak⟩ f3)) (fun j6 hST => V (cD (cB t) rfl) ?_))))
      have hx := sj z; subst hx
      exact b0 _ _ ⟨_, (hST.sel (Db St)), Y, Z, a3, rfl, a4, eN, eI, rfl⟩
    refine Vn rfl (cB t) (Vn rfl (cB t) (Vn rfl (cB t) (V (cI (cB t) rfl) ?_)))
    have hx := sj z; subst hx
    exact b0 _ _ ⟨_, (hST.sel (Db St)), Y, Z, a3, rfl, a4, eN, eI, rfl⟩
  rintro E W ⟨D, I, G, a7, b4, ⟨eI, eN⟩, u, hST, Y, Z, a3, a4, M, j⟩
  rw [List.drop_length] at j
  rw [ig] at j
  refine aG ?_
  replace hST := hST.sel (Db (Db (Db (Db (Kr (Dr (Dr (Dr (Dr (Dr St))))))))))
  refine aC (aA (V (aB a3) (bS j fun k1 f4 j => VE (mh hST Tryz.call116 ((vG D I _ _ (M.sl bV (fun b o hq => hST.at_ (Ml hq))) f4)) (fun j7 i1 k7 g6 hST i2 hl470 c5 => V (aF rfl) (aD (aG ?_)))))))
  replace hST := hST.sel (Kr (Dr St))
  refine aS ?_
  have hx := sj j; subst hx
  exact dI (v := i1) rfl rfl ⟨_, g6, rfl, hST.backRow (fun p hq => (Ml hq)) c5.nd, c5⟩
theorem vU (c : Cred) (g : Nat) (a : Value) (j : List Cred) (r : Bool) (w : World) (k : Sl (Pl aJ) 9 (hp w) a j) (i : At (hp w) (.pointer (some ⟨g, 0, none⟩)) [a]) (hm : lO c j = some r) :
    bW true Tryz.prog 282 [(.agg (aJ c).toArray), (.pointer (some ⟨g, 0, none⟩))] w (.bool r) := by
  have hST := ST.start (dd := true) w
  unfold lO at hm
  refine cF 8 Tryz.func282 rfl (aC (aA (VE (cH (v := (.agg (aJ c).toArray)) hST rfl (fun u z hST => V (aF rfl) (aD (aG (aC (aA (V (aI rfl (lZ hST.has (y := a) i Tryz.isAgg22)) (V (aI rfl (aK hST.has Mh (aJ c) rfl Tryz.isAgg53 Tryz.sizeOf53)) (bS hm fun B t hm => VE (Eg hST Tryz.call201 ((qb a j c _ _ (k.mono (Pl.mono _) hST.sub_hp) t)) (fun x hST => V (iS rfl) (V (aF rfl) ?_)))))))))))))))
  refine aD (aG ?_)
  replace hST := hST.sel (Db St)
  refine aS ?_
  have hx := sj hm; subst hx
  exact rP hST
theorem tO (c : Value) (t : List Cred) (k : Value) (g : List Cred) (r : List Cred) (w : World) (B : Sl (Pl aJ) 9 (hp w) c t) (i : Sl (Pl aJ) 9 (hp w) k g) (hm : mD t g = some r) :
    fD false Tryz.prog 175 [c, k] w 53 aJ 9 r := by
  have hST := ST.start (dd := false) w
  unfold mD at hm
  refine cF 9 Tryz.func175 rfl (aC (aA ?_))
  obtain ⟨H, K, rfl⟩ := i.form
  refine VE (cH (v := (.slice H g.length K)) hST rfl (fun W4 u hST => V (aF rfl) (aD (aG (aC (aA (V (aB rfl) (bS hm fun U M hm => VE (mh hST Tryz.call228 (fD.weak (nj c t _ _ (B.mono (Pl.mono _) hST.sub_hp) M)) (fun W7 N μ8 I hST D hl10 z => V (ko (by exact lQ rfl) rfl) (bS hm fun a2 G hm => ?_)))))))))))
  have hsz := hST.size
  refine VE (iu hST (Cr Qz Cn) Tryz.call143 (fun hH hN hsb hmm => (ll N U I (.func (.func 282) #[] #[(.pointer (some ⟨u, 0, none⟩))]) (fun (x : Cred) => lO x g) _ _ ⟨hH, hN, aW.refl _⟩ z ⟨282, #[], #[(.pointer (some ⟨u, 0, none⟩))], rfl, Tryz.call282, fun W x r hs hm => (vU x u (.slice H g.length K) g r W (i.mono (Pl.mono _) ((D.trans hsb).trans hs)) (At.of (hs _ _ (hmm _ _ Mh)) _ rfl) hm).weak⟩ G)) (fun Z a3 a4 Y hST T hl19 hlift y => ?_))
  obtain ⟨Q, J, a, rfl, j⟩ := y
  replace a := a.symm; subst a
  replace hST := hST.perm (Tr Tn)
  refine V (aF rfl) (aD (aG ?_))
  replace hST := hST.sel (Kr (Db St))
  refine aS ?_
  have hx := sj hm; subst hx
  exact dI (v := Q) rfl rfl ⟨_, J, rfl, hST.backRow (fun p hq => (Ml hq)) j.nd, j⟩
theorem pO (a : eW) (B : Value) (G : Value) (x : Value) (z : Value) (y : Value) (U : Value) (r : ((List Cred) × (List Cred))) (w : World) (k : Sl bB 15 (hp w) B a.Owner.Creds) (t : Sl cN 8 (hp w) G a.Owner.Acks) (g : Sl bB 15 (hp w) x a.Client.Creds) (j : Sl cN 8 (hp w) z a.Client.Acks) (K : Sl aH 5 (hp w) y a.Formula.Kids) (a9 : Sl iN 2 (hp w) U a.Keys) (hm : ji a = some r) :
    dJ false Tryz.prog 74 [(.agg #[(.string a.Owner.Name), B, G, (.string a.Client.Name), x, z, (.int .i64 a.Formula.Op), (.int .i64 a.Formula.K), (.string a.Formula.Role.Owner), (.string a.Formula.Role.Word), y, (.int .i64 a.Plan), (.int .i64 a.Rooms.at0), (.int .i64 a.Rooms.at1), (.int .i64 a.Timeout), (.int .i64 a.Tries), (.int .i64 a.Budget), U])] w [] (fun v L1 W' => ∃ (y1 : Value) (S2 : List (Nat × Obj)) (y4 : Value) (S5 : List (Nat × Obj)), v = (.tuple #[y1, y4]) ∧ L1 = (S2 ++ (S5 ++ [])) ∧ bE 53 aJ 9 y1 r.1 S2 ∧ bE 53 aJ 9 y4 r.2 S5) := by
  have hST := ST.start (dd := false) w
  unfold ji at hm
  refine cF 48 Tryz.func74 rfl (aC (aA ?_))
  obtain ⟨A1, c2, rfl⟩ := k.form
  obtain ⟨A3, c4, rfl⟩ := t.form
  obtain ⟨A5, c6, rfl⟩ := g.form
  obtain ⟨A7, c8, rfl⟩ := j.form
  obtain ⟨A9, d3, rfl⟩ := K.form
  obtain ⟨c7, d4, rfl⟩ := a9.form
  refine VE (cH (v := (.agg (C1 a.Owner.Name A1 a.Owner.Creds.length c2 A3 a.Owner.Acks.length c4 a.Client.Name A5 a.Client.Creds.length c6 A7 a.Client.Acks.length c8 a.Formula.Op a.Formula.K a.Formula.Role.Owner a.Formula.Role.Word A9 a.Formula.Kids.length d3 a.Plan a.Rooms.at0 a.Rooms.at1 a.Timeout a.Tries a.Budget c7 a.Keys.length d4).toArray)) hST rfl (fun i8 c1 hST => V (aF rfl) (V (aF rfl) (aD (aG (aC ?_))))))
  replace hST := hST.drew
  have hS0 := hST.has.sel (Kb Sn)
  refine cU hS0 bO (X 0 rfl hS0 (aM mr rfl) (XH 1 rfl hS0 (fun _ hS => aI rfl (aK hS Mh (C6 a.Owner.Name A1 a.Owner.Creds.length c2 A3 a.Owner.Acks.length c4) rfl Tryz.isAgg110 Tryz.sizeOf110)) (X 3 rfl hS0 (aM mG rfl) (XH 4 rfl hS0 (fun _ hS => aI rfl (aK hS Mh (C6 a.Client.Name A5 a.Client.Creds.length c6 A7 a.Client.Acks.length c8) rfl Tryz.isAgg110 Tryz.sizeOf110)) (bS hm fun h1 f8 hm => XE 2 rfl (mh hST Tryz.call174 ((uV a.Owner (.slice A1 a.Owner.Creds.length c2) (.slice A3 a.Owner.Acks.length c4) _ _ (k.mono bD.mono hST.sub_hp) (t.mono dV.mono hST.sub_hp) f8)) (fun i9 h3 j3 g7 hST D hl56 f6 => ?_)))))))
  have hS0 := hST.has.selS D (Dr (Kb Sn))
  refine ⟨hS0, (bS hm fun h2 f9 hm => XE 5 rfl (mh hST Tryz.call174 ((uV a.Client (.slice A5 a.Client.Creds.length c6) (.slice A7 a.Client.Acks.length c8) _ _ (g.mono bD.mono (D.trans hST.sub_hp)) (j.mono dV.mono (D.trans hST.sub_hp)) f9)) (fun j0 h4 e8 g8 hST M hl65 f7 => ?_)))⟩
  have hS0 := hST.has.selS (D.trans M) (Dr (Dr (Kb Sn)))
  refine ⟨hS0, (X 6 rfl hS0 (aF rfl) (X 7 rfl hS0 (aF rfl) (dC (by kernel_rfl) (aG (mF (aU (gH (fun m E W => ∃ (I : Value) (a7 : List Cred) (a1 : List (Nat × Obj)) (J : Value) (a8 : List Cred) (a2 : List (Nat × Obj)) (c0 : aY) (c9 : List (Nat × Obj)), aW e8 c0 ∧ ST false dW w W c0 ((c1, Obj.cells ((C1 a.Owner.Name A1 a.Owner.Creds.length c2 A3 a.Owner.Acks.length c4 a.Client.Name A5 a.Client.Creds.length c6 A7 a.Client.Acks.length c8 a.Formula.Op a.Formula.K a.Formula.Role.Owner a.Formula.Role.Word A9 a.Formula.Kids.length d3 a.Plan a.Rooms.at0 a.Rooms.at1 a.Timeout a.Tries a.Budget c7 a.Keys.length d4).toArray : Array Value) 116 (0, 0)) :: (a2 ++ (a1 ++ c9))) ∧ E 1 = (.pointer (some ⟨c1, 0, none⟩)) ∧ E 4 = I ∧ E 5 = J ∧ bE 53 aJ 9 I a7 a1 ∧ bE 53 aJ 9 J a8 a2 ∧ jp a m a7 a8 = some r) bR ⟨h3, h1, g7, h4, h2, g8, e8, _, (aW.refl _), (hST.sel (Sb (Pr (Pr Pz)) St)), rfl, rfl, rfl, f6, f7, hm⟩ ?_)))))))⟩
  rintro m E W ⟨I, a7, a1, J, a8, a2, c0, c9, H, hST, T, a3, a4, Y, Z, i⟩
  cases m with
  | zero => rw [jp] at i; cases i
  | succ g0 =>
    rw [jp] at i
    refine aU (aC (aA (V (aB a3) (V (aM mr T) (V (aI rfl (aK hST.has Mh (C6 a.Owner.Name A1 a.Owner.Creds.length c2 A3 a.Owner.Acks.length c4) rfl Tryz.isAgg110 Tryz.sizeOf110)) (V (aB a4) (V (aM mG T) (V (aM pk rfl) (V (aI rfl (aN hST.has Mh rfl Tryz.isAgg9)) (bS i fun g1 e4 i => VE (mh hST Tryz.call80 ((mC a.Owner (.slice A1 a.Owner.Creds.length c2) (.slice A3 a.Owner.Acks.length c4) J a8 a.Client.Name _ _ (k.mono bD.mono (((D.trans M).trans H).trans hST.sub_hp)) (t.mono dV.mono (((D.trans M).trans H).trans hST.sub_hp)) (Z.sl bV (fun b o hq => hST.at_ (Mt (Ml hq)))) e4)) (fun i0 g5 i5 h8 hST a5 hl387 e1 => bS i fun g2 e5 i => VE (mh hST Tryz.call175 ((tO I a7 g5 g1 _ _ (Y.sl bV (fun b o hq => hST.at_ (Ma (Mt (Ma (Ml hq)))))) (e1.sl bV (fun b o hq => hST.at_ (Ml hq))) e5)) (fun i1 d8 i6 d1 hST a6 hl396 c3 => V (aF rfl) ?_))))))))))))))
    refine aD (aG ?_)
    replace hST := hST.sel (Kr (Dr St))
    refine aC (aA (V (aB a4) (V (aM mG T) (V (aI rfl (aK hST.has (Ma Mh) (C6 a.Client.Name A5 a.Client.Creds.length c6 A7 a.Client.Acks.length c8) rfl Tryz.isAgg110 Tryz.sizeOf110)) (V (aB a3) (V (aM mr T) (V (aM pk rfl) (V (aI rfl (aN hST.has (Ma Mh) rfl Tryz.isAgg9)) (bS i fun g3 e6 i => VE (mh hST Tryz.call80 ((mC a.Client (.slice A5 a.Client.Creds.length c6) (.slice A7 a.Client.Acks.length c8) I a7 a.Owner.Name _ _ (g.mono bD.mono (((((D.trans M).trans H).trans a5).trans a6).trans hST.sub_hp)) (j.mono dV.mono (((((D.trans M).trans H).trans a5).trans a6).trans hST.sub_hp)) (Y.sl bV (fun b o hq => hST.at_ (Ma (Mt (Ma (Ml hq)))))) e6)) (fun i2 g6 i7 h9 hST d5 hl405 e2 => bS i fun g4 e7 i => VE (mh hST Tryz.call175 ((tO J a8 g6 g3 _ _ (Z.sl bV (fun b o hq => hST.at_ (Ma (Ma (Mt (Ml hq)))))) (e2.sl bV (fun b o hq => hST.at_ (Ml hq))) e7)) (fun i3 d9 e0 d2 hST d6 hl414 c5 => V (aF rfl) (aD ?_))))))))))))))
    refine aG ?_
    replace hST := hST.sel (Kr (Dr St))
    refine aC (aC (aA (V (aB rfl) (V (eP Tryz.underlying22 rfl c3) (V (aB a3) (V (eP Tryz.underlying22 rfl Y) (V (aP rfl rfl rfl) (V (aB rfl) (LJ i (fun d7 E W => ∃  (d0 : List (Nat × Obj)), ST false dW w W e0 ((c1, Obj.cells ((C1 a.Owner.Name A1 a.Owner.Creds.length c2 A3 a.Owner.Acks.length c4 a.Client.Name A5 a.Client.Creds.length c6 A7 a.Client.Acks.length c8 a.Formula.Op a.Formula.K a.Formula.Role.Owner a.Formula.Role.Word A9 a.Formula.Kids.length d3 a.Plan a.Rooms.at0 a.Rooms.at1 a.Timeout a.Tries a.Budget c7 a.Keys.length d4).toArray : Array Value) 116 (0, 0)) :: (d2 ++ (d1 ++ (a2 ++ (a1 ++ d0))))) ∧ E 1 = (.pointer (some ⟨c1, 0, none⟩)) ∧ E 4 = I ∧ E 5 = J ∧ E 6 = d8 ∧ E 7 = d9 ∧ E 43 = (.bool d7)) 6 ?_ (fun d7 Q b0 => ?_))))))))))
    · rintro i4 E W ⟨d0, hST, f0, f1, f2, f3, f4, f5⟩ N
      refine aD (aG (CI N f5 (fun e3 N => ?_) (fun e3 N => ?_)))
      · refine aC (aA (V (aB f1) (V (aB f2) (V (aF rfl) (V (aF rfl) (aD (aG ?_)))))))
        replace hST := hST.sel (Db (Dr (Dr St)))
        refine aS (cR (gA (cR (gA (cR ?_)))))
        have hx := sj N; subst hx
        exact tR (v := I) (u := J) rfl rfl rfl ⟨_, _, rfl, (hST.bkL (Sr (Qr Qz) (Kr Sn))), I, a1, J, a2, rfl, rfl, Y, Z⟩
      refine aT (aG ?_)
      replace hST := hST.sel (Kb (Kr (Kr (Dr (Dr St)))))
      exact aA (V (aB f3) (V (aB f4) (V (aF rfl) (V (aF rfl) (aD (cM (aG ⟨g0, Nat.lt_succ_self _, d8, g2, d1, d9, g4, d2, e0, _, ((((H.trans a5).trans a6).trans d5).trans d6), (hST.sel St), f0, rfl, rfl, c3, c5, N⟩)))))))
    refine bC Q (fun c Q => ?_) (fun c Q => ?_)
    · refine Vg rfl (cB c) (aB rfl) (Vg rfl (cB c) (eP Tryz.underlying22 rfl c5) (Vg rfl (cB c) (aB a4) (Vg rfl (cB c) (eP Tryz.underlying22 rfl Z) (Vg rfl (cB c) (aP rfl rfl rfl) (V (cD (cB c) rfl) ?_)))))
      have hx := sj Q; subst hx
      exact b0 _ _ ⟨_, (hST.sel (Sb (Pr (Pr Pz)) St)), T, a3, a4, rfl, rfl, rfl⟩
    refine Vn rfl (cB c) (Vn rfl (cB c) (Vn rfl (cB c) (Vn rfl (cB c) (Vn rfl (cB c) (V (cI (cB c) rfl) ?_)))))
    have hx := sj Q; subst hx
    exact b0 _ _ ⟨_, (hST.sel (Sb (Pr (Pr Pz)) St)), T, a3, a4, rfl, rfl, rfl⟩
theorem rp (g : bT) (D : Value) (K : Value) (i : bT) (G : Value) (M : Value) (r : ((List Cred) × (List Cred) × Int)) (w : World) (x : Sl bB 15 (hp w) D g.Creds) (I : Sl cN 8 (hp w) K g.Acks) (y : Sl bB 15 (hp w) G i.Creds) (J : Sl cN 8 (hp w) M i.Acks) (hm : ma g i = some r) :
    dJ false Tryz.prog 79 [(.agg #[(.string g.Name), D, K]), (.agg #[(.string i.Name), G, M])] w [] (fun v L1 W' => ∃ (y1 : Value) (S2 : List (Nat × Obj)) (y4 : Value) (S5 : List (Nat × Obj)), v = (.tuple #[y1, y4, (.int .i64 (r.2.2))]) ∧ L1 = (S2 ++ (S5 ++ [])) ∧ bE 53 aJ 9 y1 r.1 S2 ∧ bE 53 aJ 9 y4 r.2.1 S5) := by
  have hST := ST.start (dd := false) w
  unfold ma at hm
  refine cF 41 Tryz.func79 rfl (aC (aA ?_))
  obtain ⟨A1, c2, rfl⟩ := x.form
  obtain ⟨A3, c4, rfl⟩ := I.form
  refine VE (cH (v := (.agg (C6 g.Name A1 g.Creds.length c2 A3 g.Acks.length c4).toArray)) hST rfl (fun W6 b5 hST => ?_))
  obtain ⟨A7, c8, rfl⟩ := y.form
  obtain ⟨A9, a6, rfl⟩ := J.form
  refine VE (cH (v := (.agg (C6 i.Name A7 i.Creds.length c8 A9 i.Acks.length a6).toArray)) hST rfl (fun f8 b0 hST => V (aF rfl) (V (aF rfl) (V (aF rfl) (aD (aG (aC (aA (V (aF rfl) (V (aF rfl) (aD (aG (aC (aA (V (aF rfl) ?_)))))))))))))))
  refine aD (aG (mF (aU (gH (fun m E W => ∃ (t : Value) (a4 : List Cred) (N : List (Nat × Obj)) (u : Value) (a5 : List Cred) (Q : List (Nat × Obj)) (H : Int) (a9 : aY) (b9 : List (Nat × Obj)), aW (hp w) a9 ∧ ST false dW w W a9 ((b0, Obj.cells ((C6 i.Name A7 i.Creds.length c8 A9 i.Acks.length a6).toArray : Array Value) 110 (0, 0)) :: ((b5, Obj.cells ((C6 g.Name A1 g.Creds.length c2 A3 g.Acks.length c4).toArray : Array Value) 110 (0, 0)) :: (Q ++ (N ++ b9)))) ∧ E 2 = (.pointer (some ⟨b5, 0, none⟩)) ∧ E 3 = (.pointer (some ⟨b0, 0, none⟩)) ∧ E 7 = t ∧ E 8 = u ∧ E 9 = (.int .i64 H) ∧ bE 53 aJ 9 t a4 N ∧ bE 53 aJ 9 u a5 Q ∧ kh g i m a4 a5 H = some r) bR ⟨(.slice none 0 0), ([]), [], (.slice none 0 0), ([]), [], 0, (hp w), _, (aW.refl _), (hST.sel St), rfl, rfl, rfl, rfl, rfl, (bE.nil _ _ _), (bE.nil _ _ _), hm⟩ ?_))))
  rintro m E W ⟨t, a4, N, u, a5, Q, H, a9, b9, j, hST, T, U, Y, Z, c9, a2, a3, c⟩
  cases m with
  | zero => rw [kh] at c; cases c
  | succ e6 =>
    rw [kh] at c
    refine aC (aU (aC ?_))
    replace hST := hST.drew
    have hS0 := hST.has.sel (Kb (Kb Sn))
    refine cU hS0 bO (XH 0 rfl hS0 (fun _ hS => aI T (aK hS (Mt Mh) (C6 g.Name A1 g.Creds.length c2 A3 g.Acks.length c4) rfl Tryz.isAgg110 Tryz.sizeOf110)) (X 1 rfl hS0 (aB Z) (X 2 rfl hS0 (aM pk U) (XH 3 rfl hS0 (fun _ hS => aI rfl (aN hS Mh rfl Tryz.isAgg9)) (XH 5 rfl hS0 (fun _ hS => aI U (aK hS Mh (C6 i.Name A7 i.Creds.length c8 A9 i.Acks.length a6) rfl Tryz.isAgg110 Tryz.sizeOf110)) (X 6 rfl hS0 (aB Y) (X 7 rfl hS0 (aM pk T) (XH 8 rfl hS0 (fun _ hS => aI rfl (aN hS (Mt Mh) rfl Tryz.isAgg9)) (bS c fun e7 d7 c => XE 4 rfl (mh hST Tryz.call80 ((mC g (.slice A1 g.Creds.length c2) (.slice A3 g.Acks.length c4) u a5 i.Name _ _ (x.mono bD.mono (j.trans hST.sub_hp)) (I.mono dV.mono (j.trans hST.sub_hp)) (a3.sl bV (fun b o hq => hST.at_ (Mt (Mt (Ml hq))))) d7)) (fun f4 d2 f7 c1 hST k hl479 b1 => ?_)))))))))))
    have hS0 := hST.has.selS k (Dr (Kb (Kb Sn)))
    refine ⟨hS0, (bS c fun e8 d8 c => XE 9 rfl (mh hST Tryz.call80 ((mC i (.slice A7 i.Creds.length c8) (.slice A9 i.Acks.length a6) t a4 g.Name _ _ (y.mono bD.mono ((j.trans k).trans hST.sub_hp)) (J.mono dV.mono ((j.trans k).trans hST.sub_hp)) (a2.sl bV (fun b o hq => hST.at_ (Ma (Mt (Mt (Ma (Ml hq))))))) d8)) (fun f5 d3 d4 c3 hST a7 hl488 b2 => ?_)))⟩
    have hS0 := hST.has.selS (k.trans a7) (Dr (Dr (Kb (Kb Sn))))
    refine ⟨hS0, (X 10 rfl hS0 (aF rfl) (X 11 rfl hS0 (aF rfl) (dC (by kernel_rfl) (aG (aC (aC (aA (V (aB rfl) (V (eP Tryz.underlying22 rfl b1) (V (aB Y) (V (eP Tryz.underlying22 rfl a2) (V (aP rfl rfl rfl) (V (aB rfl) (LJ c (fun d1 E W => ∃  (c0 : List (Nat × Obj)), ST false dW w W d4 ((b0, Obj.cells ((C6 i.Name A7 i.Creds.length c8 A9 i.Acks.length a6).toArray : Array Value) 110 (0, 0)) :: ((b5, Obj.cells ((C6 g.Name A1 g.Creds.length c2 A3 g.Acks.length c4).toArray : Array Value) 110 (0, 0)) :: (c3 ++ (c1 ++ (Q ++ (N ++ c0)))))) ∧ E 2 = (.pointer (some ⟨b5, 0, none⟩)) ∧ E 3 = (.pointer (some ⟨b0, 0, none⟩)) ∧ E 7 = t ∧ E 8 = u ∧ E 9 = (.int .i64 H) ∧ E 10 = d2 ∧ E 11 = d3 ∧ E 35 = (.bool d1)) 6 ?_ (fun d1 B a8 => ?_)))))))))))))))⟩
    · rintro f6 E W ⟨c0, hST, d9, e0, e1, e2, d0, e3, e4, e5⟩ z
      refine aD (aG (CI z e5 (fun d6 z => ?_) (fun d6 z => ?_)))
      · refine aC (aA (V (aB e1) (V (aB e2) (V (aB d0) (V (aF rfl) (V (aF rfl) (V (aF rfl) (aD (aG ?_)))))))))
        replace hST := hST.sel (Db (Db (Dr (Dr St))))
        refine aS (cR (gA (cR (cR (gA (cR ?_))))))
        have hx := sj z; subst hx
        exact CB (v0 := t) (v1 := u) (v2 := (.int .i64 H)) rfl rfl rfl rfl ⟨_, _, rfl, (hST.bkL (Sr (Qr Qz) (Kr Sn))), t, N, u, Q, rfl, rfl, a2, a3⟩
      refine aT (aG ?_)
      replace hST := hST.sel (Kb (Kb (Kr (Kr (Dr (Dr St))))))
      exact aA (V (aB e3) (V (aB e4) (V (aF rfl) (V (aF rfl) (aD (cM (aG (aA (V (aB d0) (V (aP rfl rfl rfl) (V (aF rfl) (aD (aG ⟨e6, Nat.lt_succ_self _, d2, e7, c1, d3, e8, c3, ((IntKind.i64.wrap (H + 1))), d4, _, ((j.trans k).trans a7), (hST.sel St), d9, e0, rfl, rfl, rfl, b1, b2, z⟩)))))))))))))
    refine bC B (fun a B => ?_) (fun a B => ?_)
    · refine Vg rfl (cB a) (aB rfl) (Vg rfl (cB a) (eP Tryz.underlying22 rfl b2) (Vg rfl (cB a) (aB Z) (Vg rfl (cB a) (eP Tryz.underlying22 rfl a3) (Vg rfl (cB a) (aP rfl rfl rfl) (V (cD (cB a) rfl) ?_)))))
      have hx := sj B; subst hx
      exact a8 _ _ ⟨_, (hST.sel (Sb (Pr (Pr Pz)) (Sb (Pr (Pr Pz)) St))), T, U, Y, Z, c9, rfl, rfl, rfl⟩
    refine Vn rfl (cB a) (Vn rfl (cB a) (Vn rfl (cB a) (Vn rfl (cB a) (Vn rfl (cB a) (V (cI (cB a) rfl) ?_)))))
    have hx := sj B; subst hx
    exact a8 _ _ ⟨_, (hST.sel (Sb (Pr (Pr Pz)) (Sb (Pr (Pr Pz)) St))), T, U, Y, Z, c9, rfl, rfl, rfl⟩
theorem uZ (c : Cred) (g : Nat) (a : Value) (j : List Cred) (r : Bool) (w : World) (k : Sl (Pl aJ) 9 (hp w) a j) (i : At (hp w) (.pointer (some ⟨g, 0, none⟩)) [a]) (hm : lA c j = some r) :
    bW true Tryz.prog 286 [(.agg (aJ c).toArray), (.pointer (some ⟨g, 0, none⟩))] w (.bool r) := by
  have hST := ST.start (dd := true) w
  unfold lA at hm
  refine cF 7 Tryz.func286 rfl (aC (aA (VE (cH (v := (.agg (aJ c).toArray)) hST rfl (fun u z hST => V (aF rfl) (aD (aG (aC (aA (V (aI rfl (lZ hST.has (y := a) i Tryz.isAgg22)) (V (aI rfl (aK hST.has Mh (aJ c) rfl Tryz.isAgg53 Tryz.sizeOf53)) (bS hm fun B t hm => VE (Eg hST Tryz.call201 ((qb a j c _ _ (k.mono (Pl.mono _) hST.sub_hp) t)) (fun x hST => V (aF rfl) (aD ?_)))))))))))))))
  refine aG ?_
  replace hST := hST.sel (Db St)
  refine aS ?_
  have hx := sj hm; subst hx
  exact rP hST
theorem sU (c : Value) (t : List Cred) (k : Value) (g : List Cred) (r : List Cred) (w : World) (B : Sl (Pl aJ) 9 (hp w) c t) (i : Sl (Pl aJ) 9 (hp w) k g) (hm : lI t g = some r) :
    fD false Tryz.prog 179 [c, k] w 53 aJ 9 r := by
  have hST := ST.start (dd := false) w
  unfold lI at hm
  refine cF 9 Tryz.func179 rfl (aC (aA ?_))
  obtain ⟨H, K, rfl⟩ := i.form
  refine VE (cH (v := (.slice H g.length K)) hST rfl (fun W4 u hST => V (aF rfl) (aD (aG (aC (aA (V (aB rfl) (bS hm fun U M hm => VE (mh hST Tryz.call228 (fD.weak (nj c t _ _ (B.mono (Pl.mono _) hST.sub_hp) M)) (fun W7 N μ8 I hST D hl10 z => V (ko (by exact lQ rfl) rfl) (bS hm fun a2 G hm => ?_)))))))))))
  have hsz := hST.size
  refine VE (iu hST (Cr Qz Cn) Tryz.call143 (fun hH hN hsb hmm => (ll N U I (.func (.func 286) #[] #[(.pointer (some ⟨u, 0, none⟩))]) (fun (x : Cred) => lA x g) _ _ ⟨hH, hN, aW.refl _⟩ z ⟨286, #[], #[(.pointer (some ⟨u, 0, none⟩))], rfl, Tryz.call286, fun W x r hs hm => (uZ x u (.slice H g.length K) g r W (i.mono (Pl.mono _) ((D.trans hsb).trans hs)) (At.of (hs _ _ (hmm _ _ Mh)) _ rfl) hm).weak⟩ G)) (fun Z a3 a4 Y hST T hl19 hlift y => ?_))
  obtain ⟨Q, J, a, rfl, j⟩ := y
  replace a := a.symm; subst a
  replace hST := hST.perm (Tr Tn)
  refine V (aF rfl) (aD (aG ?_))
  replace hST := hST.sel (Kr (Db St))
  refine aS ?_
  have hx := sj hm; subst hx
  exact dI (v := Q) rfl rfl ⟨_, J, rfl, hST.backRow (fun p hq => (Ml hq)) j.nd, j⟩
theorem pP (a : eW) (z : Value) (B : Value) (t : Value) (y : Value) (x : Value) (G : Value) (r : ((List Cred) × (List Cred))) (w : World) (i : Sl bB 15 (hp w) z a.Owner.Creds) (j : Sl cN 8 (hp w) B a.Owner.Acks) (c : Sl bB 15 (hp w) t a.Client.Creds) (g : Sl cN 8 (hp w) y a.Client.Acks) (k : Sl aH 5 (hp w) x a.Formula.Kids) (D : Sl iN 2 (hp w) G a.Keys) (hm : jQ a = some r) :
    dJ false Tryz.prog 76 [(.agg #[(.string a.Owner.Name), z, B, (.string a.Client.Name), t, y, (.int .i64 a.Formula.Op), (.int .i64 a.Formula.K), (.string a.Formula.Role.Owner), (.string a.Formula.Role.Word), x, (.int .i64 a.Plan), (.int .i64 a.Rooms.at0), (.int .i64 a.Rooms.at1), (.int .i64 a.Timeout), (.int .i64 a.Tries), (.int .i64 a.Budget), G])] w [] (fun v L1 W' => ∃ (y1 : Value) (S2 : List (Nat × Obj)) (y4 : Value) (S5 : List (Nat × Obj)), v = (.tuple #[y1, y4]) ∧ L1 = (S2 ++ (S5 ++ [])) ∧ bE 53 aJ 9 y1 r.1 S2 ∧ bE 53 aJ 9 y4 r.2 S5) := by
  have hST := ST.start (dd := false) w
  unfold jQ at hm
  refine cF 29 Tryz.func76 rfl (aC (aA ?_))
  obtain ⟨K, Z, rfl⟩ := i.form
  obtain ⟨N, c4, rfl⟩ := j.form
  obtain ⟨Q, c6, rfl⟩ := c.form
  obtain ⟨T, c8, rfl⟩ := g.form
  obtain ⟨A9, U, rfl⟩ := k.form
  obtain ⟨M, Y, rfl⟩ := D.form
  refine VE (cH (v := (.agg (C1 a.Owner.Name K a.Owner.Creds.length Z N a.Owner.Acks.length c4 a.Client.Name Q a.Client.Creds.length c6 T a.Client.Acks.length c8 a.Formula.Op a.Formula.K a.Formula.Role.Owner a.Formula.Role.Word A9 a.Formula.Kids.length U a.Plan a.Rooms.at0 a.Rooms.at1 a.Timeout a.Tries a.Budget M a.Keys.length Y).toArray)) hST rfl (fun e7 f2 hST => V (aF rfl) (V (aF rfl) (aD (aG (aC (aA (V (aI rfl (aK hST.has Mh (C1 a.Owner.Name K a.Owner.Creds.length Z N a.Owner.Acks.length c4 a.Client.Name Q a.Client.Creds.length c6 T a.Client.Acks.length c8 a.Formula.Op a.Formula.K a.Formula.Role.Owner a.Formula.Role.Word A9 a.Formula.Kids.length U a.Plan a.Rooms.at0 a.Rooms.at1 a.Timeout a.Tries a.Budget M a.Keys.length Y) rfl Tryz.isAgg116 Tryz.sizeOf116)) (bS hm fun a4 b3 hm => ?_)))))))))
  have hsz := hST.size
  refine VE (iu hST (List.Perm.refl _) Tryz.call74 (fun _ _ _ _ => (pO a (.slice K a.Owner.Creds.length Z) (.slice N a.Owner.Acks.length c4) (.slice Q a.Client.Creds.length c6) (.slice T a.Client.Acks.length c8) (.slice A9 a.Formula.Kids.length U) (.slice M a.Keys.length Y) _ _ (i.mono bD.mono hST.sub_hp) (j.mono dV.mono hST.sub_hp) (c.mono bD.mono hST.sub_hp) (g.mono dV.mono hST.sub_hp) (k.mono aQ.mono hST.sub_hp) (D.mono ns.mono hST.sub_hp) b3)) (fun e8 f5 f7 e1 hST H hl20 hlift a9 => ?_) (L0 := []))
  obtain ⟨d1, e3, d2, e4, I, rfl, b7, b9⟩ := a9
  replace I := I.symm; subst I
  replace hST := hST.perm (Tr (Tr Tn))
  refine V (aB rfl) (V (bQ rfl rfl) (V (bQ rfl rfl) (V (aF rfl) (V (aF rfl) (aD (aG (aC (aA (V (aM mr rfl) (V (aI rfl (aK hST.has (Ma (Ma Mh)) (C6 a.Owner.Name K a.Owner.Creds.length Z N a.Owner.Acks.length c4) rfl Tryz.isAgg110 Tryz.sizeOf110)) (V (aM mG rfl) (V (aI rfl (aK hST.has (Ma (Ma Mh)) (C6 a.Client.Name Q a.Client.Creds.length c6 T a.Client.Acks.length c8) rfl Tryz.isAgg110 Tryz.sizeOf110)) (bS hm fun a5 b4 hm => ?_)))))))))))))
  have hsz := hST.size
  refine VE (iu hST (List.Perm.refl _) Tryz.call79 (fun _ _ _ _ => (rp a.Owner (.slice K a.Owner.Creds.length Z) (.slice N a.Owner.Acks.length c4) a.Client (.slice Q a.Client.Creds.length c6) (.slice T a.Client.Acks.length c8) _ _ (i.mono bD.mono (H.trans hST.sub_hp)) (j.mono dV.mono (H.trans hST.sub_hp)) (c.mono bD.mono (H.trans hST.sub_hp)) (g.mono dV.mono (H.trans hST.sub_hp)) b4)) (fun e9 f6 f8 e2 hST d6 hl36 hlift b0 => ?_) (L0 := []))
  obtain ⟨d4, e5, d5, e6, J, rfl, c0, c1⟩ := b0
  replace J := J.symm; subst J
  replace hST := hST.perm (Tr (Tr Tn))
  refine V (aB rfl) (V (bQ rfl rfl) (V (bQ rfl rfl) (V (bQ rfl rfl) (V (aF rfl) (V (aF rfl) (V (aF rfl) (aD (aG ?_))))))))
  replace hST := hST.sel (Kr (Kr (Kr (Kr (Db St)))))
  refine aC (aA (V (aB rfl) (V (aB rfl) (bS hm fun f3 b5 hm => VE (mh hST Tryz.call179 ((sU d1 a4.1 d4 a5.1 _ _ (b7.sl bV (fun b o hq => hST.at_ (Ma (Ma (Ml hq))))) (c0.sl bV (fun b o hq => hST.at_ (Ml hq))) b5)) (fun f0 a6 f9 c3 hST d7 hl52 b1 => V (aB rfl) (V (aB rfl) (bS hm fun f4 b6 hm => VE (mh hST Tryz.call179 ((sU d2 a4.2 d5 a5.2.1 _ _ (b9.sl bV (fun b o hq => hST.at_ (Ma (Ma (Ma (Ma (Ml hq))))))) (c1.sl bV (fun b o hq => hST.at_ (Ma (Ma (Ml hq))))) b6)) (fun f1 a7 g0 c5 hST d8 hl61 b2 => V (aF rfl) (V (aF rfl) (aD (aG ?_)))))))))))))
  replace hST := hST.sel (Kr (Kr (Dr (Dr (Dr (Dr St))))))
  refine aS ?_
  have hx := sj hm; subst hx
  exact tR (v := a6) (u := a7) rfl rfl rfl ⟨_, _, rfl, (hST.bkL (Sr (Qr Qz) (Kr Sn))), a6, c3, a7, c5, rfl, rfl, b1, b2⟩
theorem qi (a : aV) (g : Value) (c : Value) (k : Nat) (u : Cred) (r : Bool) (w : World) (j : Sl (Pl (cT .u8)) 1 (hp w) g a.Signed.Tag) (i : Sl aH 5 (hp w) c a.Release.Kids) (t : At (hp w) (.pointer (some ⟨k, 0, none⟩)) (aJ u)) (hm : gS a u = some r) :
    bW true Tryz.prog 185 [(.agg #[(.int .i64 a.Signed.Cred.Kind), (.string a.Signed.Cred.Head.Owner), (.string a.Signed.Cred.Head.Word), (.string a.Signed.Cred.Who), (.string a.Signed.Cred.B.Owner), (.string a.Signed.Cred.B.Word), (.string a.Signed.Cred.C.Owner), (.string a.Signed.Cred.C.Word), (.string a.Signed.Cred.Word2), g, (.int .i64 a.Release.Op), (.int .i64 a.Release.K), (.string a.Release.Role.Owner), (.string a.Release.Role.Word), c]), (.pointer (some ⟨k, 0, none⟩))] w (.bool r) := by
  have hST := ST.start (dd := true) w
  unfold gS at hm
  refine cF 9 Tryz.func185 rfl (aC (aA ?_))
  obtain ⟨x, z, rfl⟩ := j.form
  obtain ⟨y, B, rfl⟩ := i.form
  refine VE (cH (v := (.agg (C3 a.Signed.Cred.Kind a.Signed.Cred.Head.Owner a.Signed.Cred.Head.Word a.Signed.Cred.Who a.Signed.Cred.B.Owner a.Signed.Cred.B.Word a.Signed.Cred.C.Owner a.Signed.Cred.C.Word a.Signed.Cred.Word2 x a.Signed.Tag.length z a.Release.Op a.Release.K a.Release.Role.Owner a.Release.Role.Word y a.Release.Kids.length B).toArray)) hST rfl (fun D G hST => V (aF rfl) (aD (aG (aC (aA (V (aM qh rfl) (V (aM rK rfl) (V (aI rfl (aK hST.has Mh (aJ a.Signed.Cred) rfl Tryz.isAgg53 Tryz.sizeOf53)) (V (aI rfl (bN hST.has t Tryz.isAgg53 Tryz.sizeOf53)) (V (qc rfl rfl (kT Tryz.eqGuardType53) (nP (ov _ a.Signed.Cred u))) (V (aF rfl) (aD (aG ?_))))))))))))))
  replace hST := hST.sel (Db St)
  refine aS ?_
  have hx := sj hm; subst hx
  exact rP hST
theorem nW (c : Value) (u : List aV) (r : List aV) (w : World) {j : aY} (I : ie j [] w) (a : Sl bB 15 j c u) (hm : gZ u = some r) :
    dO true Tryz.prog 186 [c] w j [] (fun v G J => ∃ (z : Value) (t : List (Nat × Obj)), v = z ∧ G = (t ++ []) ∧ bX 138 bB 15 J z r t) := by
  have hST := ST.startE (dd := true) I
  unfold gZ at hm
  refine cF 8 Tryz.func186 rfl (aC (aA (V (aF rfl) (aD (aG (aC (aC (aA (V (aB rfl) ?_)))))))))
  obtain ⟨D, Q, rfl⟩ := a.form
  refine V (pI Tryz.underlying107 rfl rfl) (aD (aG ?_))
  rcases D with _ | M
  · have y := a.isNil
    replace hm : some [] = some r := by rw [y] at hm; simpa [gT, maxLen] using hm
    refine nF (rfl) (aC (aA (V (aF rfl) (aD (aG (aS (cR ?_)))))))
    have hx := sj hm; subst hx
    refine dI (v := (.slice none 0 0)) rfl rfl ?_
    replace hST := hST.row0
    exact ⟨_, _, _, rfl, (hST.bkM (Kr Sn)), (aW.refl _), Lo.refl, (ST.sub_hpx hST (eQ.mem (Kr Sn))), (.slice none 0 0), [], rfl, rfl, (bX.nil _ _ _ _)⟩
  · refine kp (rfl) (aT (aG (aC (aA (VE (bU (qs := #[]) (cs := #[]) hST lT (eF [] Tryz.underlying107 Tryz.sizeOf138 Tryz.zeroValue138 (by decide) rfl (by simp) rfl rfl) (fun N H hST => V (aB rfl) (bS hm fun T x hm => VE (mJ (B := [(H, Obj.cells (#[] : Array Value) 138 (0, 0))]) bD hST (by decide) Tryz.underlying107 ul.1 ul.2.1 rfl ul.2.2.1 ul.2.2.2 rfl rfl (bX.lit bD (l := []) .nil rfl nb rfl) (rJ.sl bD a hST.sub_hp) x (fun K g k hST i => V (aF rfl) (aD (aG (aS ?_)))))))))))))
    have hx := sj hm; subst hx
    exact dI (v := g) rfl rfl ⟨_, _, _, rfl, (hST.bkM (Kr Sn)), (aW.refl _), Lo.refl, (ST.sub_hpx hST (eQ.mem (Kr Sn))), g, k, rfl, rfl, i⟩
set_option maxHeartbeats 1000000 in
theorem oh (a : eW) (a7 : Value) (a8 : Value) (a3 : Value) (a6 : Value) (a4 : Value) (c7 : Value) (a1 : Int) (a2 : Cred) (r : (eW × Bool)) (w : World) {μ0 : aY} (h0 : ie μ0 [] w) (k : Sl bB 15 μ0 a7 a.Owner.Creds) (D : Sl cN 8 μ0 a8 a.Owner.Acks) (c : Sl bB 15 μ0 a3 a.Client.Creds) (u : Sl cN 8 μ0 a6 a.Client.Acks) (t : Sl aH 5 μ0 a4 a.Formula.Kids) (N : Sl iN 2 μ0 c7 a.Keys) (hm : fJ a a1 a2 = some r) :
    dO false Tryz.prog 81 [(.agg #[(.string a.Owner.Name), a7, a8, (.string a.Client.Name), a3, a6, (.int .i64 a.Formula.Op), (.int .i64 a.Formula.K), (.string a.Formula.Role.Owner), (.string a.Formula.Role.Word), a4, (.int .i64 a.Plan), (.int .i64 a.Rooms.at0), (.int .i64 a.Rooms.at1), (.int .i64 a.Timeout), (.int .i64 a.Tries), (.int .i64 a.Budget), c7]), (.int .i64 a1), (.agg (aJ a2).toArray)] w μ0 [] (fun v L1 μ1 => ∃ (y1 : Value) (y3 : Value) (y5 : Value) (y7 : Value) (y9 : Value) (g2 : Value), v = (.tuple #[(.agg #[(.string (((r.1).Owner).Name)), y1, y3, (.string (((r.1).Client).Name)), y5, y7, (.int .i64 (((r.1).Formula).Op)), (.int .i64 (((r.1).Formula).K)), (.string ((((r.1).Formula).Role).Owner)), (.string ((((r.1).Formula).Role).Word)), y9, (.int .i64 ((r.1).Plan)), (.int .i64 (((r.1).Rooms).at0)), (.int .i64 (((r.1).Rooms).at1)), (.int .i64 ((r.1).Timeout)), (.int .i64 ((r.1).Tries)), (.int .i64 ((r.1).Budget)), g2]), (.bool (r.2))]) ∧ L1 = [] ∧ Sl bB 15 μ1 y1 (((r.1).Owner).Creds) ∧ Sl cN 8 μ1 y3 (((r.1).Owner).Acks) ∧ Sl bB 15 μ1 y5 (((r.1).Client).Creds) ∧ Sl cN 8 μ1 y7 (((r.1).Client).Acks) ∧ Sl aH 5 μ1 y9 (((r.1).Formula).Kids) ∧ Sl iN 2 μ1 g2 ((r.1).Keys)) := by
  have hST := ST.startE (dd := false) h0
  unfold fJ at hm
  refine cF 53 Tryz.func81 rfl (aC (aA ?_))
  obtain ⟨Q, U, rfl⟩ := k.form
  obtain ⟨H, K, rfl⟩ := D.form
  obtain ⟨T, Y, rfl⟩ := c.form
  obtain ⟨I, M, rfl⟩ := u.form
  obtain ⟨J, z, rfl⟩ := t.form
  obtain ⟨y, B, rfl⟩ := N.form
  refine VE (cH (v := (.agg (C1 a.Owner.Name Q a.Owner.Creds.length U H a.Owner.Acks.length K a.Client.Name T a.Client.Creds.length Y I a.Client.Acks.length M a.Formula.Op a.Formula.K a.Formula.Role.Owner a.Formula.Role.Word J a.Formula.Kids.length z a.Plan a.Rooms.at0 a.Rooms.at1 a.Timeout a.Tries a.Budget y a.Keys.length B).toArray)) hST rfl (fun l5 b5 hST => VE (cH (v := (.agg (aJ a2).toArray)) hST rfl (fun l6 c0 hST => VE (cA hST Tryz.zeroValue116 (fun l7 f7 hST => V (aF rfl) (aD (aG (aC (aA (V (aM mr rfl) (V (aM mG rfl) (VE (bU (qs := #[(0, (.pointer (some ⟨b5, 0, none⟩))), (1, (.pointer (some ⟨b5, 3, none⟩)))]) (cs := #[(.pointer (some ⟨b5, 0, none⟩)), (.pointer (some ⟨b5, 3, none⟩))]) hST (iK rfl rfl) (eF [(.pointer (some ⟨b5, 0, none⟩)), (.pointer (some ⟨b5, 3, none⟩))] Tryz.underlying246 Tryz.sizeOf245 Tryz.zeroValue245 (by decide) rfl (by intro v hv; simp only [List.mem_cons, List.not_mem_nil, or_false] at hv; rcases hv with rfl | rfl <;> rfl) rfl rfl) (fun l8 f8 hST => V (aF rfl) (aD (aG (aC ?_))))))))))))))))))
  refine aC (aA (V (aB rfl) (V (aP rfl rfl rfl) (V (aB rfl) (LJ hm (fun e7 E W => ∃  (f6 : List (Nat × Obj)), ST false (keys []) w W μ0 ((f8, Obj.cells (#[(.pointer (some ⟨b5, 0, none⟩)), (.pointer (some ⟨b5, 3, none⟩))] : Array Value) 245 (0, 0)) :: ((f7, Obj.cells (#[(.string zS), (.slice none 0 0), (.slice none 0 0), (.string zS), (.slice none 0 0), (.slice none 0 0), (.int .i64 0), (.int .i64 0), (.string zS), (.string zS), (.slice none 0 0), (.int .i64 0), (.int .i64 0), (.int .i64 0), (.int .i64 0), (.int .i64 0), (.int .i64 0), (.slice none 0 0)] : Array Value) 116 (0, 0)) :: ((c0, Obj.cells ((aJ a2).toArray : Array Value) 53 (0, 0)) :: ((b5, Obj.cells ((C1 a.Owner.Name Q a.Owner.Creds.length U H a.Owner.Acks.length K a.Client.Name T a.Client.Creds.length Y I a.Client.Acks.length M a.Formula.Op a.Formula.K a.Formula.Role.Owner a.Formula.Role.Word J a.Formula.Kids.length z a.Plan a.Rooms.at0 a.Rooms.at1 a.Timeout a.Tries a.Budget y a.Keys.length B).toArray : Array Value) 116 (0, 0)) :: f6)))) ∧ E 1 = (.int .i64 a1) ∧ E 3 = (.pointer (some ⟨b5, 0, none⟩)) ∧ E 5 = (.pointer (some ⟨c0, 0, none⟩)) ∧ E 6 = (.pointer (some ⟨f7, 0, none⟩)) ∧ E 8 = (.slice (some ⟨f8, 0, none⟩) 2 2) ∧ E 21 = (.bool e7)) 5 ?_ (fun e7 b7 d5 => ?_))))))
  · rintro n3 E W ⟨f6, hST, i0, d4, f9, b6, i1, i2⟩ g
    refine aD (aG (CI g i2 (fun g7 g => ?_) (fun g7 g => ?_)))
    · refine aC (aA (V (aI d4 (aK hST.has (Mt (Mt (Mt Mh))) (C1 a.Owner.Name Q a.Owner.Creds.length U H a.Owner.Acks.length K a.Client.Name T a.Client.Creds.length Y I a.Client.Acks.length M a.Formula.Op a.Formula.K a.Formula.Role.Owner a.Formula.Role.Word J a.Formula.Kids.length z a.Plan a.Rooms.at0 a.Rooms.at1 a.Timeout a.Tries a.Budget y a.Keys.length B) rfl Tryz.isAgg116 Tryz.sizeOf116)) ?_))
      replace hST := hST.perm (Nb (Pb Pz) Nz)
      refine VO (aX (.agg (C1 a.Owner.Name Q a.Owner.Creds.length U H a.Owner.Acks.length K a.Client.Name T a.Client.Creds.length Y I a.Client.Acks.length M a.Formula.Op a.Formula.K a.Formula.Role.Owner a.Formula.Role.Word J a.Formula.Kids.length z a.Plan a.Rooms.at0 a.Rooms.at1 a.Timeout a.Tries a.Budget y a.Keys.length B).toArray) ((C1 a.Owner.Name Q a.Owner.Creds.length U H a.Owner.Acks.length K a.Client.Name T a.Client.Creds.length Y I a.Client.Acks.length M a.Formula.Op a.Formula.K a.Formula.Role.Owner a.Formula.Role.Word J a.Formula.Kids.length z a.Plan a.Rooms.at0 a.Rooms.at1 a.Timeout a.Tries a.Budget y a.Keys.length B).toArray) hST b6 rfl Tryz.sizeOf116 (by simp [Value.cells, Value.oneCell']) nb rfl (fun l9 hST => V (aF rfl) (aD (aG ?_))))
      replace hST := hST.sel (Kb (Db (Db (Db St))))
      refine aS (cR ?_)
      have hx := sj g; subst hx
      exact kd (v0 := (.agg (C1 a.Owner.Name Q a.Owner.Creds.length U H a.Owner.Acks.length K a.Client.Name T a.Client.Creds.length Y I a.Client.Acks.length M a.Formula.Op a.Formula.K a.Formula.Role.Owner a.Formula.Role.Word J a.Formula.Kids.length z a.Plan a.Rooms.at0 a.Rooms.at1 a.Timeout a.Tries a.Budget y a.Keys.length B).toArray)) (v1 := (.bool false)) rfl b6 (aK hST.has Mh (C1 a.Owner.Name Q a.Owner.Creds.length U H a.Owner.Acks.length K a.Client.Name T a.Client.Creds.length Y I a.Client.Acks.length M a.Formula.Op a.Formula.K a.Formula.Role.Owner a.Formula.Role.Word J a.Formula.Kids.length z a.Plan a.Rooms.at0 a.Rooms.at1 a.Timeout a.Tries a.Budget y a.Keys.length B) rfl Tryz.isAgg116 Tryz.sizeOf116) rfl ⟨_, _, _, rfl, (hST.bkM Sn), (aW.refl _), Lo.refl, (ST.sub_hpx hST (eQ.mem Sn)), (.slice Q a.Owner.Creds.length U), (.slice H a.Owner.Acks.length K), (.slice T a.Client.Creds.length Y), (.slice I a.Client.Acks.length M), (.slice J a.Formula.Kids.length z), (.slice y a.Keys.length B), rfl, rfl, k, D, c, u, t, N⟩
    refine aT (aG (aC (aA (V (aB i1) (V (aB i0) (bC g (fun e3 g => ?_) (fun e3 g => ?_)))))))
    · refine V (vJ (i := 0) Tryz.underlying246 Tryz.sizeOf245 rfl (Fp (j := 0) e3 rfl) (by decide) (by decide) rfl) (V (aI rfl (aN hST.has Mh rfl Tryz.isAgg245)) (V (aF rfl) (aD (aG ?_))))
      replace hST := hST.sel (Db St)
      refine aC (aA (V (aB rfl) (V (bP rfl) (V (aM kZ rfl) (V (aI rfl (aN hST.has (Mt (Mt Mh)) rfl Tryz.isAgg107)) (V (ko (by exact lQ f9) rfl) (bS g fun i3 h2 g => VE (Eg hST Tryz.call184 ((kI (.slice Q a.Owner.Creds.length U) a.Owner.Creds (.func (.func 185) #[] #[(.pointer (some ⟨c0, 0, none⟩))]) (fun (x : aV) => gS x a2) _ _ (k.mono bD.mono hST.sub_hp) ⟨185, #[], #[(.pointer (some ⟨c0, 0, none⟩))], rfl, Tryz.call185, fun W x vs r hs hR hm => by obtain ⟨_, rfl, e2⟩ := hR; obtain ⟨u0, u1, rfl, k0, k1⟩ := e2.out; exact (qi x u0 u1 c0 a2 r W k0 k1 (At.of (hs _ _ (hST.at_ (Mt Mh))) _ rfl) hm).weak⟩ h2)) (fun m0 hST => V (aF rfl) (aD (aG ?_)))))))))))
      replace hST := hST.sel (Kb (Db St))
      refine aC (aC (aA (V (aB rfl) (V (aP rfl rfl rfl) (aD (aG (CI g rfl (fun g8 g => ?_) (fun g8 g => ?_))))))))
      · refine aC (aA (V (aI d4 (aK hST.has (Mt Mh) (C1 a.Owner.Name Q a.Owner.Creds.length U H a.Owner.Acks.length K a.Client.Name T a.Client.Creds.length Y I a.Client.Acks.length M a.Formula.Op a.Formula.K a.Formula.Role.Owner a.Formula.Role.Word J a.Formula.Kids.length z a.Plan a.Rooms.at0 a.Rooms.at1 a.Timeout a.Tries a.Budget y a.Keys.length B) rfl Tryz.isAgg116 Tryz.sizeOf116)) (VO (aX (.agg (C1 a.Owner.Name Q a.Owner.Creds.length U H a.Owner.Acks.length K a.Client.Name T a.Client.Creds.length Y I a.Client.Acks.length M a.Formula.Op a.Formula.K a.Formula.Role.Owner a.Formula.Role.Word J a.Formula.Kids.length z a.Plan a.Rooms.at0 a.Rooms.at1 a.Timeout a.Tries a.Budget y a.Keys.length B).toArray) ((C1 a.Owner.Name Q a.Owner.Creds.length U H a.Owner.Acks.length K a.Client.Name T a.Client.Creds.length Y I a.Client.Acks.length M a.Formula.Op a.Formula.K a.Formula.Role.Owner a.Formula.Role.Word J a.Formula.Kids.length z a.Plan a.Rooms.at0 a.Rooms.at1 a.Timeout a.Tries a.Budget y a.Keys.length B).toArray) hST b6 rfl Tryz.sizeOf116 (by simp [Value.cells, Value.oneCell']) nb rfl (fun m1 hST => V (aF rfl) (aD (aG ?_)))))))
        replace hST := hST.sel (Kb (Db St))
        refine aS (cR ?_)
        have hx := sj g; subst hx
        exact kd (v0 := (.agg (C1 a.Owner.Name Q a.Owner.Creds.length U H a.Owner.Acks.length K a.Client.Name T a.Client.Creds.length Y I a.Client.Acks.length M a.Formula.Op a.Formula.K a.Formula.Role.Owner a.Formula.Role.Word J a.Formula.Kids.length z a.Plan a.Rooms.at0 a.Rooms.at1 a.Timeout a.Tries a.Budget y a.Keys.length B).toArray)) (v1 := (.bool false)) rfl b6 (aK hST.has Mh (C1 a.Owner.Name Q a.Owner.Creds.length U H a.Owner.Acks.length K a.Client.Name T a.Client.Creds.length Y I a.Client.Acks.length M a.Formula.Op a.Formula.K a.Formula.Role.Owner a.Formula.Role.Word J a.Formula.Kids.length z a.Plan a.Rooms.at0 a.Rooms.at1 a.Timeout a.Tries a.Budget y a.Keys.length B) rfl Tryz.isAgg116 Tryz.sizeOf116) rfl ⟨_, _, _, rfl, (hST.bkM Sn), (aW.refl _), Lo.refl, (ST.sub_hpx hST (eQ.mem Sn)), (.slice Q a.Owner.Creds.length U), (.slice H a.Owner.Acks.length K), (.slice T a.Client.Creds.length Y), (.slice I a.Client.Acks.length M), (.slice J a.Formula.Kids.length z), (.slice y a.Keys.length B), rfl, rfl, k, D, c, u, t, N⟩
      refine aT (aG (aC (aA (V (aB rfl) (V (aB rfl) (V (bP rfl) (V (aM kZ rfl) (V (aI rfl (aN hST.has (Mt Mh) rfl Tryz.isAgg107)) (bS g fun c3 h3 g => ?_)))))))))
      have hsz := hST.size
      refine VE (je hST (List.Perm.refl _) Tryz.call186 (fun hH hN hsb hmm => dO.weak (nW (.slice Q a.Owner.Creds.length U) a.Owner.Creds _ _ ⟨hH, hN, hsb⟩ (k.mono bD.mono (aW.refl _)) h3)) (fun m2 n1 n5 l2 hST b2 hl49 g4 => ?_) (L0 := []))
      obtain ⟨n4, l4, d6, rfl, d8⟩ := g4
      replace d6 := d6.symm; subst d6
      replace hST := hST.perm (Tr Tn)
      refine V (bP rfl) (V (aM kZ rfl) ?_)
      obtain ⟨b9, c1, rfl⟩ := d8.form
      replace hST := hST.perm (Nb (Pr (Pb Pz)) Nz)
      refine VO (aX (.slice b9 c3.length c1) ((C1 a.Owner.Name b9 c3.length c1 H a.Owner.Acks.length K a.Client.Name T a.Client.Creds.length Y I a.Client.Acks.length M a.Formula.Op a.Formula.K a.Formula.Role.Owner a.Formula.Role.Word J a.Formula.Kids.length z a.Plan a.Rooms.at0 a.Rooms.at1 a.Timeout a.Tries a.Budget y a.Keys.length B).toArray) hST rfl rfl Tryz.sizeOf107 (by simp [Value.cells, Value.oneCell']) nb rfl (fun m3 hST => aD (aG (aC (aA (V (aB rfl) (V (bP rfl) (V (aM kZ rfl) (V (aI rfl (aN hST.has Mh rfl Tryz.isAgg107)) (V (aB rfl) (V (dX (qs := #[(0, (.int .i64 2))]) (v := (.agg wo.toArray)) (fH rfl) (cV Tryz.zeroValue113 Tryz.underlying113 (nQ _ Tryz.underlying113) (by kernel_rfl))) (bS g fun Z d7 g => VQ (cQ (i := i3) bB.out Tryz.underlying107 Tryz.sizeOf138 rfl rfl d8 (bM d7) (bJ d7)) (fun m9 ⟨_, ⟨g0, g1, rfl, h6, k6⟩, e6, e5⟩ => VQ (xg [(.int .i64 Z.Release.Op), (.int .i64 Z.Release.K), (.string Z.Release.Role.Owner), (.string Z.Release.Role.Word), g1] uv rfl e6 (e5).f rfl) (fun n0 ⟨k5, h1⟩ => ?_))))))))))))))
      replace hST := hST.perm (Nr (Qb Qz) Nz)
      refine VO (tj (x1 := ((⟨Z.Signed, (⟨2, 0, K0, []⟩ : Formula)⟩ : aV))) (ys := [(.int .i64 Z.Signed.Cred.Kind), (.string Z.Signed.Cred.Head.Owner), (.string Z.Signed.Cred.Head.Word), (.string Z.Signed.Cred.Who), (.string Z.Signed.Cred.B.Owner), (.string Z.Signed.Cred.B.Word), (.string Z.Signed.Cred.C.Owner), (.string Z.Signed.Cred.C.Word), (.string Z.Signed.Cred.Word2), g0, (.int .i64 Z.Release.Op), (.int .i64 Z.Release.K), (.string Z.Release.Role.Owner), (.string Z.Release.Role.Word), g1]) wo bD hST d8 rfl rfl e6 rfl e5 h1 (bJ d7) rfl (bB.mk ⟨g0, (.slice none 0 0), rfl, h6, (Sl.nil _ _ _)⟩) Tryz.sizeOf113 (by decide) (fun m4 l3 hST g6 => aD (aG (aC (aA (V (aI d4 (aK hST.has (Ma Mh) (C1 a.Owner.Name b9 c3.length c1 H a.Owner.Acks.length K a.Client.Name T a.Client.Creds.length Y I a.Client.Acks.length M a.Formula.Op a.Formula.K a.Formula.Role.Owner a.Formula.Role.Word J a.Formula.Kids.length z a.Plan a.Rooms.at0 a.Rooms.at1 a.Timeout a.Tries a.Budget y a.Keys.length B) rfl Tryz.isAgg116 Tryz.sizeOf116)) ?_))))))
      replace hST := hST.perm (Nb (Pr (Pb Pz)) Nz)
      refine VO (aX (.agg (C1 a.Owner.Name b9 c3.length c1 H a.Owner.Acks.length K a.Client.Name T a.Client.Creds.length Y I a.Client.Acks.length M a.Formula.Op a.Formula.K a.Formula.Role.Owner a.Formula.Role.Word J a.Formula.Kids.length z a.Plan a.Rooms.at0 a.Rooms.at1 a.Timeout a.Tries a.Budget y a.Keys.length B).toArray) ((C1 a.Owner.Name b9 c3.length c1 H a.Owner.Acks.length K a.Client.Name T a.Client.Creds.length Y I a.Client.Acks.length M a.Formula.Op a.Formula.K a.Formula.Role.Owner a.Formula.Role.Word J a.Formula.Kids.length z a.Plan a.Rooms.at0 a.Rooms.at1 a.Timeout a.Tries a.Budget y a.Keys.length B).toArray) hST b6 rfl Tryz.sizeOf116 (by simp [Value.cells, Value.oneCell']) nb rfl (fun m5 hST => V (aF rfl) (aD (aG ?_))))
      replace hST := hST.sel (Kb (Kr (Db St)))
      refine aS ?_
      have hx := sj g; subst hx
      refine kd (v0 := (.agg (C1 a.Owner.Name b9 c3.length c1 H a.Owner.Acks.length K a.Client.Name T a.Client.Creds.length Y I a.Client.Acks.length M a.Formula.Op a.Formula.K a.Formula.Role.Owner a.Formula.Role.Word J a.Formula.Kids.length z a.Plan a.Rooms.at0 a.Rooms.at1 a.Timeout a.Tries a.Budget y a.Keys.length B).toArray)) (v1 := (.bool true)) rfl b6 (aK hST.has Mh (C1 a.Owner.Name b9 c3.length c1 H a.Owner.Acks.length K a.Client.Name T a.Client.Creds.length Y I a.Client.Acks.length M a.Formula.Op a.Formula.K a.Formula.Role.Owner a.Formula.Role.Word J a.Formula.Kids.length z a.Plan a.Rooms.at0 a.Rooms.at1 a.Timeout a.Tries a.Budget y a.Keys.length B) rfl Tryz.isAgg116 Tryz.sizeOf116) rfl ?_
      replace hST := hST.perm (Nr (Qb Qz) Nz)
      obtain ⟨n6, hST, b3, hl80, h7⟩ := ST.pubD bD hST g6
      exact ⟨_, _, _, rfl, (hST.bkM Sn), (b2.trans b3), (hl49.trans hl80), (ST.sub_hpx hST (eQ.mem Sn)), (.slice b9 c3.length c1), (.slice H a.Owner.Acks.length K), (.slice T a.Client.Creds.length Y), (.slice I a.Client.Acks.length M), (.slice J a.Formula.Kids.length z), (.slice y a.Keys.length B), rfl, rfl, h7, (D.mono dV.mono (b2.trans b3)), (c.mono bD.mono (b2.trans b3)), (u.mono dV.mono (b2.trans b3)), (t.mono aQ.mono (b2.trans b3)), (N.mono ns.mono (b2.trans b3))⟩
    refine bC g (fun e4 g => ?_) (fun e4 g => ?_)
    · refine V (vJ (i := 1) Tryz.underlying246 Tryz.sizeOf245 rfl (Fp (j := 1) e4 rfl) (by decide) (by decide) rfl) (V (aI rfl (aN hST.has Mh rfl Tryz.isAgg245)) (V (aF rfl) (aD (aG ?_))))
      replace hST := hST.sel (Db St)
      refine aC (aA (V (aB rfl) (V (bP rfl) (V (aM kZ rfl) (V (aI rfl (aN hST.has (Mt (Mt Mh)) rfl Tryz.isAgg107)) (V (ko (by exact lQ f9) rfl) (bS g fun i4 h4 g => VE (Eg hST Tryz.call184 ((kI (.slice T a.Client.Creds.length Y) a.Client.Creds (.func (.func 185) #[] #[(.pointer (some ⟨c0, 0, none⟩))]) (fun (x : aV) => gS x a2) _ _ (c.mono bD.mono hST.sub_hp) ⟨185, #[], #[(.pointer (some ⟨c0, 0, none⟩))], rfl, Tryz.call185, fun W x vs r hs hR hm => by obtain ⟨_, rfl, e2⟩ := hR; obtain ⟨u0, u1, rfl, k0, k1⟩ := e2.out; exact (qi x u0 u1 c0 a2 r W k0 k1 (At.of (hs _ _ (hST.at_ (Mt Mh))) _ rfl) hm).weak⟩ h4)) (fun m6 hST => V (aF rfl) (aD (aG ?_)))))))))))
      replace hST := hST.sel (Kb (Db St))
      refine aC (aC (aA (V (aB rfl) (V (aP rfl rfl rfl) (aD (aG (CI g rfl (fun g9 g => ?_) (fun g9 g => ?_))))))))
      · refine aC (aA (V (aI d4 (aK hST.has (Mt Mh) (C1 a.Owner.Name Q a.Owner.Creds.length U H a.Owner.Acks.length K a.Client.Name T a.Client.Creds.length Y I a.Client.Acks.length M a.Formula.Op a.Formula.K a.Formula.Role.Owner a.Formula.Role.Word J a.Formula.Kids.length z a.Plan a.Rooms.at0 a.Rooms.at1 a.Timeout a.Tries a.Budget y a.Keys.length B) rfl Tryz.isAgg116 Tryz.sizeOf116)) (VO (aX (.agg (C1 a.Owner.Name Q a.Owner.Creds.length U H a.Owner.Acks.length K a.Client.Name T a.Client.Creds.length Y I a.Client.Acks.length M a.Formula.Op a.Formula.K a.Formula.Role.Owner a.Formula.Role.Word J a.Formula.Kids.length z a.Plan a.Rooms.at0 a.Rooms.at1 a.Timeout a.Tries a.Budget y a.Keys.length B).toArray) ((C1 a.Owner.Name Q a.Owner.Creds.length U H a.Owner.Acks.length K a.Client.Name T a.Client.Creds.length Y I a.Client.Acks.length M a.Formula.Op a.Formula.K a.Formula.Role.Owner a.Formula.Role.Word J a.Formula.Kids.length z a.Plan a.Rooms.at0 a.Rooms.at1 a.Timeout a.Tries a.Budget y a.Keys.length B).toArray) hST b6 rfl Tryz.sizeOf116 (by simp [Value.cells, Value.oneCell']) nb rfl (fun m7 hST => V (aF rfl) (aD (aG ?_)))))))
        replace hST := hST.sel (Kb (Db St))
        refine aS (cR ?_)
        have hx := sj g; subst hx
        exact kd (v0 := (.agg (C1 a.Owner.Name Q a.Owner.Creds.length U H a.Owner.Acks.length K a.Client.Name T a.Client.Creds.length Y I a.Client.Acks.length M a.Formula.Op a.Formula.K a.Formula.Role.Owner a.Formula.Role.Word J a.Formula.Kids.length z a.Plan a.Rooms.at0 a.Rooms.at1 a.Timeout a.Tries a.Budget y a.Keys.length B).toArray)) (v1 := (.bool false)) rfl b6 (aK hST.has Mh (C1 a.Owner.Name Q a.Owner.Creds.length U H a.Owner.Acks.length K a.Client.Name T a.Client.Creds.length Y I a.Client.Acks.length M a.Formula.Op a.Formula.K a.Formula.Role.Owner a.Formula.Role.Word J a.Formula.Kids.length z a.Plan a.Rooms.at0 a.Rooms.at1 a.Timeout a.Tries a.Budget y a.Keys.length B) rfl Tryz.isAgg116 Tryz.sizeOf116) rfl ⟨_, _, _, rfl, (hST.bkM Sn), (aW.refl _), Lo.refl, (ST.sub_hpx hST (eQ.mem Sn)), (.slice Q a.Owner.Creds.length U), (.slice H a.Owner.Acks.length K), (.slice T a.Client.Creds.length Y), (.slice I a.Client.Acks.length M), (.slice J a.Formula.Kids.length z), (.slice y a.Keys.length B), rfl, rfl, k, D, c, u, t, N⟩
      refine aT (aG (aC (aA (V (aB rfl) (V (aB rfl) (V (bP rfl) (V (aM kZ rfl) (V (aI rfl (aN hST.has (Mt Mh) rfl Tryz.isAgg107)) (bS g fun c5 h5 g => ?_)))))))))
      have hsz := hST.size
      refine VE (je hST (List.Perm.refl _) Tryz.call186 (fun hH hN hsb hmm => dO.weak (nW (.slice T a.Client.Creds.length Y) a.Client.Creds _ _ ⟨hH, hN, hsb⟩ (c.mono bD.mono (aW.refl _)) h5)) (fun m8 n2 n7 j6 hST b4 hl97 g5 => ?_) (L0 := []))
      obtain ⟨l0, j8, c9, rfl, d1⟩ := g5
      replace c9 := c9.symm; subst c9
      replace hST := hST.perm (Tr Tn)
      refine V (bP rfl) (V (aM kZ rfl) ?_)
      obtain ⟨b0, b1, rfl⟩ := d1.form
      replace hST := hST.perm (Nb (Pr (Pb Pz)) Nz)
      refine VO (aX (.slice b0 c5.length b1) ((C1 a.Owner.Name Q a.Owner.Creds.length U H a.Owner.Acks.length K a.Client.Name b0 c5.length b1 I a.Client.Acks.length M a.Formula.Op a.Formula.K a.Formula.Role.Owner a.Formula.Role.Word J a.Formula.Kids.length z a.Plan a.Rooms.at0 a.Rooms.at1 a.Timeout a.Tries a.Budget y a.Keys.length B).toArray) hST rfl rfl Tryz.sizeOf107 (by simp [Value.cells, Value.oneCell']) nb rfl (fun j9 hST => aD (aG (aC (aA (V (aB rfl) (V (bP rfl) (V (aM kZ rfl) (V (aI rfl (aN hST.has Mh rfl Tryz.isAgg107)) (V (aB rfl) (V (dX (qs := #[(0, (.int .i64 2))]) (v := (.agg wo.toArray)) (fH rfl) (cV Tryz.zeroValue113 Tryz.underlying113 (nQ _ Tryz.underlying113) (by kernel_rfl))) (bS g fun G d0 g => VQ (cQ (i := i4) bB.out Tryz.underlying107 Tryz.sizeOf138 rfl rfl d1 (bM d0) (bJ d0)) (fun k7 ⟨_, ⟨e8, e9, rfl, f2, j3⟩, e0, d9⟩ => VQ (xg [(.int .i64 G.Release.Op), (.int .i64 G.Release.K), (.string G.Release.Role.Owner), (.string G.Release.Role.Word), e9] uv rfl e0 (d9).f rfl) (fun k8 ⟨j0, f1⟩ => ?_))))))))))))))
      replace hST := hST.perm (Nr (Qb Qz) Nz)
      refine VO (tj (x1 := ((⟨G.Signed, (⟨2, 0, K0, []⟩ : Formula)⟩ : aV))) (ys := [(.int .i64 G.Signed.Cred.Kind), (.string G.Signed.Cred.Head.Owner), (.string G.Signed.Cred.Head.Word), (.string G.Signed.Cred.Who), (.string G.Signed.Cred.B.Owner), (.string G.Signed.Cred.B.Word), (.string G.Signed.Cred.C.Owner), (.string G.Signed.Cred.C.Word), (.string G.Signed.Cred.Word2), e8, (.int .i64 G.Release.Op), (.int .i64 G.Release.K), (.string G.Release.Role.Owner), (.string G.Release.Role.Word), e9]) wo bD hST d1 rfl rfl e0 rfl d9 f1 (bJ d0) rfl (bB.mk ⟨e8, (.slice none 0 0), rfl, f2, (Sl.nil _ _ _)⟩) Tryz.sizeOf113 (by decide) (fun k2 j7 hST f0 => aD (aG (aC (aA (V (aI d4 (aK hST.has (Ma Mh) (C1 a.Owner.Name Q a.Owner.Creds.length U H a.Owner.Acks.length K a.Client.Name b0 c5.length b1 I a.Client.Acks.length M a.Formula.Op a.Formula.K a.Formula.Role.Owner a.Formula.Role.Word J a.Formula.Kids.length z a.Plan a.Rooms.at0 a.Rooms.at1 a.Timeout a.Tries a.Budget y a.Keys.length B) rfl Tryz.isAgg116 Tryz.sizeOf116)) ?_))))))
      replace hST := hST.perm (Nb (Pr (Pb Pz)) Nz)
      refine VO (aX (.agg (C1 a.Owner.Name Q a.Owner.Creds.length U H a.Owner.Acks.length K a.Client.Name b0 c5.length b1 I a.Client.Acks.length M a.Formula.Op a.Formula.K a.Formula.Role.Owner a.Formula.Role.Word J a.Formula.Kids.length z a.Plan a.Rooms.at0 a.Rooms.at1 a.Timeout a.Tries a.Budget y a.Keys.length B).toArray) ((C1 a.Owner.Name Q a.Owner.Creds.length U H a.Owner.Acks.length K a.Client.Name b0 c5.length b1 I a.Client.Acks.length M a.Formula.Op a.Formula.K a.Formula.Role.Owner a.Formula.Role.Word J a.Formula.Kids.length z a.Plan a.Rooms.at0 a.Rooms.at1 a.Timeout a.Tries a.Budget y a.Keys.length B).toArray) hST b6 rfl Tryz.sizeOf116 (by simp [Value.cells, Value.oneCell']) nb rfl (fun k3 hST => V (aF rfl) (aD (aG ?_))))
      replace hST := hST.sel (Kb (Kr (Db St)))
      refine aS ?_
      have hx := sj g; subst hx
      refine kd (v0 := (.agg (C1 a.Owner.Name Q a.Owner.Creds.length U H a.Owner.Acks.length K a.Client.Name b0 c5.length b1 I a.Client.Acks.length M a.Formula.Op a.Formula.K a.Formula.Role.Owner a.Formula.Role.Word J a.Formula.Kids.length z a.Plan a.Rooms.at0 a.Rooms.at1 a.Timeout a.Tries a.Budget y a.Keys.length B).toArray)) (v1 := (.bool true)) rfl b6 (aK hST.has Mh (C1 a.Owner.Name Q a.Owner.Creds.length U H a.Owner.Acks.length K a.Client.Name b0 c5.length b1 I a.Client.Acks.length M a.Formula.Op a.Formula.K a.Formula.Role.Owner a.Formula.Role.Word J a.Formula.Kids.length z a.Plan a.Rooms.at0 a.Rooms.at1 a.Timeout a.Tries a.Budget y a.Keys.length B) rfl Tryz.isAgg116 Tryz.sizeOf116) rfl ?_
      replace hST := hST.perm (Nr (Qb Qz) Nz)
      obtain ⟨l1, hST, a9, hl128, f3⟩ := ST.pubD bD hST f0
      exact ⟨_, _, _, rfl, (hST.bkM Sn), (b4.trans a9), (hl97.trans hl128), (ST.sub_hpx hST (eQ.mem Sn)), (.slice Q a.Owner.Creds.length U), (.slice H a.Owner.Acks.length K), (.slice b0 c5.length b1), (.slice I a.Client.Acks.length M), (.slice J a.Formula.Kids.length z), (.slice y a.Keys.length B), rfl, rfl, (k.mono bD.mono (b4.trans a9)), (D.mono dV.mono (b4.trans a9)), f3, (u.mono dV.mono (b4.trans a9)), (t.mono aQ.mono (b4.trans a9)), (N.mono ns.mono (b4.trans a9))⟩
    cases g
  refine bC b7 (fun a5 b7 => ?_) (fun a5 b7 => ?_)
  · refine Vn rfl (cB a5) (Vn rfl (cB a5) (Vn rfl (cB a5) (Vn rfl (cB a5) (V (cD (cB a5) rfl) ?_))))
    have hx := sj b7; subst hx
    exact d5 _ _ ⟨_, (hST.sel St), rfl, rfl, rfl, rfl, rfl, rfl⟩
  refine Vg rfl (cB a5) (aB rfl) (Vg rfl (cB a5) (aB rfl) (Vg rfl (cB a5) (qg Tryz.underlying246 rfl) (Vg rfl (cB a5) (aP rfl rfl rfl) (V (cI (cB a5) rfl) ?_))))
  have hx := sj b7; subst hx
  exact d5 _ _ ⟨_, (hST.sel St), rfl, rfl, rfl, rfl, rfl, rfl⟩
theorem ud (a : eW) (x : Value) (z : Value) (i : Value) (u : Value) (j : Value) (D : Value) (r : Bool) (w : World) (t : Sl bB 15 (hp w) x a.Owner.Creds) (y : Sl cN 8 (hp w) z a.Owner.Acks) (c : Sl bB 15 (hp w) i a.Client.Creds) (k : Sl cN 8 (hp w) u a.Client.Acks) (g : Sl aH 5 (hp w) j a.Formula.Kids) (B : Sl iN 2 (hp w) D a.Keys) (hm : kv a = some r) :
    bW false Tryz.prog 78 [(.agg #[(.string a.Owner.Name), x, z, (.string a.Client.Name), i, u, (.int .i64 a.Formula.Op), (.int .i64 a.Formula.K), (.string a.Formula.Role.Owner), (.string a.Formula.Role.Word), j, (.int .i64 a.Plan), (.int .i64 a.Rooms.at0), (.int .i64 a.Rooms.at1), (.int .i64 a.Timeout), (.int .i64 a.Tries), (.int .i64 a.Budget), D])] w (.bool r) := by
  have hST := ST.start (dd := false) w
  unfold kv at hm
  refine cF 16 Tryz.func78 rfl (aC (aA ?_))
  obtain ⟨K, U, rfl⟩ := t.form
  obtain ⟨M, Y, rfl⟩ := y.form
  obtain ⟨N, Z, rfl⟩ := c.form
  obtain ⟨Q, c8, rfl⟩ := k.form
  obtain ⟨T, I, rfl⟩ := g.form
  obtain ⟨H, J, rfl⟩ := B.form
  refine VE (cH (v := (.agg (C1 a.Owner.Name K a.Owner.Creds.length U M a.Owner.Acks.length Y a.Client.Name N a.Client.Creds.length Z Q a.Client.Acks.length c8 a.Formula.Op a.Formula.K a.Formula.Role.Owner a.Formula.Role.Word T a.Formula.Kids.length I a.Plan a.Rooms.at0 a.Rooms.at1 a.Timeout a.Tries a.Budget H a.Keys.length J).toArray)) hST rfl (fun b0 b2 hST => V (aF rfl) (aD (aG (aC (aA (V (aI rfl (aK hST.has Mh (C1 a.Owner.Name K a.Owner.Creds.length U M a.Owner.Acks.length Y a.Client.Name N a.Client.Creds.length Z Q a.Client.Acks.length c8 a.Formula.Op a.Formula.K a.Formula.Role.Owner a.Formula.Role.Word T a.Formula.Kids.length I a.Plan a.Rooms.at0 a.Rooms.at1 a.Timeout a.Tries a.Budget H a.Keys.length J) rfl Tryz.isAgg116 Tryz.sizeOf116)) (bS hm fun b3 a3 hm => ?_))))))))
  have hsz := hST.size
  refine VE (iu hST (List.Perm.refl _) Tryz.call76 (fun _ _ _ _ => (pP a (.slice K a.Owner.Creds.length U) (.slice M a.Owner.Acks.length Y) (.slice N a.Client.Creds.length Z) (.slice Q a.Client.Acks.length c8) (.slice T a.Formula.Kids.length I) (.slice H a.Keys.length J) _ _ (t.mono bD.mono hST.sub_hp) (y.mono dV.mono hST.sub_hp) (c.mono bD.mono hST.sub_hp) (k.mono dV.mono hST.sub_hp) (g.mono aQ.mono hST.sub_hp) (B.mono ns.mono hST.sub_hp) a3)) (fun b1 b4 b7 a7 hST a6 hl20 hlift a2 => ?_) (L0 := []))
  obtain ⟨b5, a8, b6, a9, G, rfl, a4, a5⟩ := a2
  replace G := G.symm; subst G
  replace hST := hST.perm (Tr (Tr Tn))
  refine V (aB rfl) (V (bQ rfl rfl) (V (bQ rfl rfl) (V (aF rfl) (V (aF rfl) (aD (aG ?_))))))
  replace hST := hST.sel (Kr (Kr (Db St)))
  refine aC (aA (V (aB rfl) (V (eP Tryz.underlying22 rfl a4) (V (aB rfl) (V (eP Tryz.underlying22 rfl a5) (V (aP rfl rfl rfl) (V (aP rfl rfl rfl) (V (aF rfl) (aD (aG ?_))))))))))
  replace hST := hST.sel (Dr (Dr St))
  refine aS ?_
  have hx := sj hm; subst hx
  exact rP hST
end Go.Proofs.YtmlncblocfcmiaaGreat
