/- a part of a proof of ChangeMoves -/
import Derived.Test.YtjjjihkifgdhgaaGreatDoorDM6W1m
set_option linter.all false
namespace Go.Proofs.YtjjjihkifgdhgaaGreatDoor
open Go.IntKind renaming wrap → wi0
open Go.Proofs.Tryz renaming prog → pg0
open Go.RowKit
set_option maxRecDepth 10000
open Tryz
theorem Cv (c : Value) (u r : List Formula) (w : World) {j : km} (I : ni j [] w) (a : Sl jx 5 j c u) (hm : rO u = some r) :
  lT true pg0 351 [c] w j [] (fun v G J => ∃ z t, v = z ∧ G = (t ++ []) ∧ kK 30 jx 5 J z r t) := by
 unfold rO at hm
 refine uW I 8 func351 rfl (fun b => sg (Wa (lS (Wm ?_))))
 obtain ⟨D, Q, rfl⟩ := a.form
 refine V (BV aD rfl rfl) (ln ?_)
 rcases D with _ | M
 ·have y := a.isNil
  replace hm : some [] = some r := by rw [y] at hm; simpa [mE, maxLen] using hm
  refine xg (rfl) (sg (Wa (lt (kw ?_))))
  obtain rfl := sj hm
  refine lB (v := (.slice none 0 0)) rfl rfl ?_
  replace b := b.Sz
  exact ⟨_, _, _, rfl, (b.lO (Kr Sn)), (kj.refl _), Lo.refl, (ST.kR b (mB.mem (Kr Sn))), (.slice none 0 0), [], rfl, rfl, (kK.nil _ _ _ _)⟩
 ·refine qI (rfl) (kg (VE (kq (cs := #[]) b qt (Bi [] aD aB aO dc rfl (by simp) rfl rfl) (fun N H b => Wm (bS hm fun T x hm => VE (pJ (B := [(H, Ob #[] 30)]) jF b dc aD lM.1 lM.2.1 rfl lM.2.2.1 lM.2.2.2 rfl rfl (kK.lit jF (l := []) .nil rfl nb rfl) (xZ.sl jF a b.jB) x (fun K g k b i => Wa (lt ?_))))))))
  obtain rfl := sj hm
  exact lB (v := g) rfl rfl ⟨_, _, _, rfl, (b.lO (Kr Sn)), (kj.refl _), Lo.refl, (ST.kR b (mB.mem (Kr Sn))), g, k, rfl, rfl, i⟩
theorem rN (y : Value) (a0 : List Formula) (D : LO) (A a2 : Int) (T : Value) (f3 : (Formula × Formula) → Option Int) (r : List Formula) (w : World) {μ0 : km} (h0 : ni μ0 (D ++ []) w) (h4 : kK 30 jx 5 μ0 y a0 D) (h5 : uc pg0 T μ0 (ui jx jx) (fun (r : Int) => (.int .i64 r)) f3) (hm : mW a0 A a2 f3 = some r) :
  lT false pg0 383 [y, (.int .i64 A), (.int .i64 a2), T] w μ0 (D ++ []) (fun v L1 μ1 => ∃ S1, v = (.tuple #[]) ∧ L1 = (S1 ++ []) ∧ kK 30 jx 5 μ1 y r S1) := by
 refine uW h0 53 func383 rfl (fun n => sg (Wm (Wi rfl (Wa (ln (pk (kZ (mG (fun m E W => ∃ Y J x c9, ST false (keys (D ++ [])) w W μ0 (J ++ c9) ∧ E 0 = y ∧ E 1 = (.int .i64 A) ∧ E 2 = (.int .i64 a2) ∧ E 3 = T ∧ E 8 = (.int .i64 x) ∧ kK 30 jx 5 μ0 y Y J ∧ lA a2 A f3 m Y x = some r) ki ⟨a0, D, (wi0 .i64 (A + 1)), _, (n.jy St), rfl, rfl, rfl, rfl, rfl, h4, hm⟩ ?_))))))))
 rintro m E W ⟨Y, J, x, c9, n, f9, g0, d1, g1, R, c6, u⟩
 cases m with
 | zero => rw [lA] at u; cases u
 | succ h2 =>
  refine jM (sg (Wh R (Wh d1 (Wi rfl (ln (CI u rfl (fun e9 u => ?_) (fun e9 u => ?_)))))))
  ·refine kn (jM (bg (Wh R (Wa (ln (pk (CJ u (fun b6 E W => ∃ U d0, ST false (keys (D ++ [])) w W μ0 (U ++ d0) ∧ E 0 = y ∧ E 1 = (.int .i64 A) ∧ E 2 = (.int .i64 a2) ∧ E 3 = T ∧ E 8 = (.int .i64 x) ∧ kK 30 jx 5 μ0 y b6 U) (fun b6 f1 => ?_) ?_)))))))
   ·refine kZ (mG (fun m E W => ∃ M B j b7, ST false (keys (D ++ [])) w W μ0 (B ++ b7) ∧ E 0 = y ∧ E 1 = (.int .i64 A) ∧ E 2 = (.int .i64 a2) ∧ E 3 = T ∧ E 8 = (.int .i64 x) ∧ E 9 = (.int .i64 j) ∧ kK 30 jx 5 μ0 y M B ∧ lL A f3 m M j = some b6) ki ⟨Y, J, x, _, (n.jy St), f9, g0, d1, g1, R, rfl, c6, f1⟩ ?_)
    rintro m E W ⟨M, B, j, b7, n, K, Z, c0, a3, c1, G, t, I⟩
    cases m with
    | zero => rw [lL] at I; cases I
    | succ f4 =>
     refine jM (jM ?_)
     replace n := n.drew
     have d := n.has.jy (Kr Sn)
     refine kI d kl (X 0 rfl d (jH G) (X 1 rfl d (jH Z) (X 2 rfl d (kG rfl rfl rfl) (X 3 rfl d (jH rfl) (PJ I (fun c7 E W => ∃ b9, ST false (keys (D ++ [])) w W μ0 (B ++ b9) ∧ E 0 = y ∧ E 1 = (.int .i64 A) ∧ E 2 = (.int .i64 a2) ∧ E 3 = T ∧ E 8 = (.int .i64 x) ∧ E 9 = (.int .i64 j) ∧ E 34 = (.bool c7)) (bm 17 131071) 0 ?_ (fun c7 g a4 => ?_))))))
     ·rintro k2 E W ⟨b9, n, z, c2, c3, c4, c5, H, e8⟩ c
      have d := n.has.jy (Kr Sn)
      refine kT kr (jI (CI c e8 (fun d3 c => ?_) (fun d3 c => ?_)))
      ·refine kn (jM (kZ ?_))
       replace n := n.drew
       have d := n.has.jy Sn
       have p := n.has.jy (Kr Sn)
       refine vx 15 d p kl (lf 0 rfl kr (.inl rfl) rfl dc (fun _ _ h => ⟨h.1, lJ br h.2⟩) ⟨d, fun _ => p⟩ (fun _ _ _ _ => jH z) (lf 1 rfl kr (.inl rfl) rfl dc (fun _ _ h => ⟨h.1, lJ br h.2⟩) ⟨d, fun _ => p⟩ (fun _ _ _ _ => jH H) (lf 2 rfl kr (.inl rfl) rfl dc (fun _ _ h => ⟨h.1, lJ br h.2⟩) ⟨d, fun _ => p⟩ (fun _ _ _ _ => jH z) (lf 3 rfl kr (.inl rfl) rfl dc (fun _ _ h => ⟨h.1, lJ br h.2⟩) ⟨d, fun _ => p⟩ (fun _ _ _ _ => jH H) (lf 4 rfl kr (.inl rfl) rfl dc (fun _ _ h => ⟨h.1, lJ br h.2⟩) ⟨d, fun _ => p⟩ (fun _ _ _ _ => kG rfl rfl rfl) (lf 5 rfl kr (.inl rfl) rfl dc (fun _ _ h => ⟨h.1, lJ br h.2⟩) ⟨d, fun _ => p⟩ (fun _ _ _ _ => jH z) (lf 6 rfl kr (.inl rfl) rfl dc (fun _ _ h => ⟨h.1, lJ br h.2⟩) ⟨d, fun _ => p⟩ (fun _ _ _ _ => jH H) (lf 7 rfl kr (.inl rfl) rfl dc (fun _ _ h => ⟨h.1, lJ br h.2⟩) ⟨d, fun _ => p⟩ (fun _ _ _ _ => kG rfl rfl rfl) (bS c fun a5 b0 c => sL 8 rfl kr (.inl rfl) rfl dc (fun _ _ h => ⟨h.1, lJ br h.2⟩) ⟨d, fun _ => p⟩ (lu (i := (wi0 .i64 (j - 1))) jx.out aD aB rfl rfl t (ky b0) (kv b0)) (fun i9 ⟨_, ⟨j8, rfl, a8⟩, d6, h6⟩ => lf 9 rfl kr (.inl rfl) rfl dc (fun _ _ h => ⟨h.1, lJ br h.2⟩) ⟨d, fun _ => p⟩ (fun l W O hs => have L := (hs.2 (O.Em 15 [9] kr rfl)); jA rfl (kf (nC.hp _) (d6.mono (lR (fun b o P => L.2 b o (Ml P)))) aI aB)) (lf 10 rfl kr (.inl rfl) rfl dc (fun _ _ h => ⟨h.1, lJ br h.2⟩) ⟨d, fun _ => p⟩ (fun _ _ _ _ => jH z) (lf 11 rfl kr (.inl rfl) rfl dc (fun _ _ h => ⟨h.1, lJ br h.2⟩) ⟨d, fun _ => p⟩ (fun _ _ _ _ => jH H) (bS c fun k b1 c => ?_)))))))))))))
       refine sL 12 rfl kr (.inl rfl) rfl dc (fun _ _ h => ⟨h.1, lJ br h.2⟩) ⟨d, fun _ => p⟩ (lu (i := j) jx.out aD aB rfl rfl t (ky b1) (kv b1)) (fun j0 ⟨_, ⟨j9, rfl, a9⟩, d7, h7⟩ => lf 13 rfl kr (.inl rfl) rfl dc (fun _ _ h => ⟨h.1, lJ br h.2⟩) ⟨d, fun _ => p⟩ (fun l W O hs => have L := (hs.2 (O.Em 15 [13] kr rfl)); jA rfl (kf (nC.hp _) (d7.mono (lR (fun b o P => L.2 b o (Ml P)))) aI aB)) (bS c fun k3 N c => sL 14 rfl kr (.inl rfl) rfl dc (fun _ _ h => ⟨h.1, lJ br h.2⟩) ⟨d, fun _ => p⟩ (lu (i := j) jx.out aD aB rfl rfl t (ky N) (kv N)) (fun j3 ⟨_, ⟨k0, rfl, i2⟩, i0, d4⟩ => ?_)))
       obtain ⟨e3, e6, rfl⟩ := a8.form
       refine XO 15 rfl (qJ (x1 := a5) jF n t rfl rfl (jx.mk ⟨(.slice e3 a5.Kids.length e6), rfl, a8⟩) d4 (kv N) aB (fun i6 i4 n a7 => ?_))
       have d := n.has.jy Sn
       refine ⟨⟨d, fun h => Ar kr h⟩, (bS c fun k4 Q c => sL 16 rfl kr (.inl rfl) rfl dc (fun _ _ h => ⟨h.1, lJ br h.2⟩) ⟨d, fun h => Ar kr h⟩ (lu (i := (wi0 .i64 (j - 1))) jx.out aD aB rfl rfl a7 (ky Q) (kv Q)) (fun j4 ⟨_, ⟨k1, rfl, i3⟩, i1, d5⟩ => ?_))⟩
       obtain ⟨e4, e7, rfl⟩ := a9.form
       refine XO 17 rfl (qJ (x1 := (⟨k.Op, k.K, k.ju, k.Kids⟩ : Formula)) jF n a7 rfl rfl (jx.mk ⟨(.slice e4 k.Kids.length e7), rfl, a9⟩) d5 (kv Q) aB (fun i7 e5 n d2 => ?_))
       have d := n.has.jy Sn
       exact ⟨⟨d, fun h => Ar kr h⟩, (kT kr (kA (jI (jL (Wh H (Wi rfl (Wa (ln ⟨f4, bG _, ((M.set (Int.toNat j) a5).set (Int.toNat (wi0 .i64 (j - 1))) (⟨k.Op, k.K, k.ju, k.Kids⟩ : Formula)), e5, (wi0 .i64 (j - 1)), _, (n.jy St), z, c2, c3, c4, c5, rfl, d2, c⟩))))))))⟩
      refine mF (ml (ml (oU (jI ?_))))
      obtain rfl := sj c
      exact ⟨B, _, (n.jy St), z, c2, c3, c4, c5, t⟩
     refine bC g (fun a g => ?_) (fun a g => ?_)
     ·refine Xg 4 rfl rfl (cB a) d (jH a3) (Xg 5 rfl rfl (cB a) d (jH K) (Xg 6 rfl rfl (cB a) d (jH G) (bS g fun f7 b2 g => sL 7 rfl kr (.inr ⟨3, true, 21, rfl, rfl, by decide, (cB a)⟩) rfl dc (fun _ _ h => h) d (lu (i := j) jx.out aD aB rfl rfl t (ky b2) (kv b2)) (fun j5 ⟨_, ⟨f5, rfl, e1⟩, d8, h8⟩ => ub 8 rfl rfl (cB a) d (fun _ L => jA rfl (kf (nC.hp _) (d8.mono (lR (fun b o P => L.2 b o (Ml P)))) aI aB)) (Xg 9 rfl rfl (cB a) d (jH K) (Xg 10 rfl rfl (cB a) d (jH G) (Xg 11 rfl rfl (cB a) d (kG rfl rfl rfl) (bS g fun f8 b3 g => sL 12 rfl kr (.inr ⟨3, true, 21, rfl, rfl, by decide, (cB a)⟩) rfl dc (fun _ _ h => h) d (lu (i := (wi0 .i64 (j - 1))) jx.out aD aB rfl rfl t (ky b3) (kv b3)) (fun j6 ⟨_, ⟨f6, rfl, e2⟩, d9, h9⟩ => ub 13 rfl rfl (cB a) d (fun _ L => jA rfl (kf (nC.hp _) (d9.mono (lR (fun b o P => L.2 b o (Ml P)))) aI aB)) (bS g fun j7 e0 g => El 14 rfl rfl (cB a) (vH (f7, f8) n h5 (kj.refl _) (ui.mk jF jF (jx.mk ⟨f5, rfl, e1⟩) (jx.mk ⟨f6, rfl, e2⟩) n.jB) rfl (uI rfl rfl) e0 (fun i8 n => ?_))))))))))))
      have d := n.has.jy (Kr Sn)
      refine ⟨d, (Xg 15 rfl rfl (cB a) d (kG rfl rfl rfl) (X 16 rfl d (jS (cB a) rfl) ?_))⟩
      obtain rfl := sj g
      refine nu kr (a4 _ _ ⟨_, (n.jy St), K, Z, c0, a3, c1, G, rfl⟩)
     refine Xn 4 rfl rfl (cB a) d (Xn 5 rfl rfl (cB a) d (Xn 6 rfl rfl (cB a) d (Xn 7 rfl rfl (cB a) d (Xn 8 rfl rfl (cB a) d (Xn 9 rfl rfl (cB a) d (Xn 10 rfl rfl (cB a) d (Xn 11 rfl rfl (cB a) d (Xn 12 rfl rfl (cB a) d (Xn 13 rfl rfl (cB a) d (Xn 14 rfl rfl (cB a) d (Xn 15 rfl rfl (cB a) d (X 16 rfl d (jT (cB a) rfl) ?_))))))))))))
     obtain rfl := sj g
     refine nu kr (a4 _ _ ⟨_, (n.jy St), K, Z, c0, a3, c1, G, rfl⟩)
   rintro h1 E W ⟨U, d0, n, g2, g3, g4, g7, g8, f2⟩ f0
   exact kA (jI (jL (Wh g8 (Wi rfl (Wa (ln ⟨h2, bG _, h1, U, (wi0 .i64 (x + 1)), _, (n.jy St), g2, g3, g4, g7, rfl, f2, f0⟩))))))
  refine mF (ml (ml (oU (jI (nQ ?_)))))
  obtain rfl := sj u
  exact nr rfl ⟨_, _, _, rfl, (n.lO (Kr Sn)), (kj.refl _), Lo.refl, (ST.kR n (mB.mem (Kr Sn))), J, rfl, rfl, c6⟩
theorem pX (x : Value) (a0 : List Formula) (t : LO) (G H a3 : Int) (a5 : Value) (f4 : (Formula × Formula) → Option Int) (r : List Formula) (w : World) {Y : km} (h0 : ni Y (t ++ []) w) (c0 : kK 30 jx 5 Y x a0 t) (d5 : uc pg0 a5 Y (ui jx jx) (fun (r : Int) => (.int .i64 r)) f4) (hm : mS a0 G H a3 f4 = some r) :
  lT true pg0 400 [x, (.int .i64 G), (.int .i64 H), (.int .i64 a3), a5] w Y (t ++ []) (fun v L1 μ1 => ∃ S1, v = (.tuple #[]) ∧ L1 = (S1 ++ []) ∧ kK 30 jx 5 μ1 x r S1) := by
 refine uW h0 38 func400 rfl (fun p => sg (Wa (ln (pk (kZ (mG (fun m E W => ∃ D y c Z, ST true (keys (t ++ [])) w W Y (y ++ Z) ∧ E 0 = x ∧ E 1 = (.int .i64 G) ∧ E 2 = (.int .i64 H) ∧ E 3 = (.int .i64 a3) ∧ E 10 = (.int .i64 c) ∧ kK 30 jx 5 Y x D y ∧ mc a3 H G m D c = some r) ki ⟨a0, t, 0, _, (p.jy St), rfl, rfl, rfl, rfl, rfl, c0, hm⟩ ?_))))))
 rintro m E W ⟨D, y, c, Z, p, u, I, J, a4, k, j, a⟩
 cases m with
 | zero => rw [mc] at a; cases a
 | succ c1 =>
  refine jM (sg (Wh k (Wh a4 (Wi rfl (ln (CI a rfl (fun a8 a => ?_) (fun a8 a => ?_)))))))
  ·refine kn (jM (kZ ?_))
   replace p := p.drew
   have d := p.has.jy Sn
   have n := p.has.jy (Kr Sn)
   refine vx 21 d n kl (lf 0 rfl kr (.inl rfl) rfl dc (fun _ _ h => ⟨h.1, lJ br h.2⟩) ⟨d, fun _ => n⟩ (fun _ _ _ _ => jH u) (lf 1 rfl kr (.inl rfl) rfl dc (fun _ _ h => ⟨h.1, lJ br h.2⟩) ⟨d, fun _ => n⟩ (fun _ _ _ _ => jH I) (lf 2 rfl kr (.inl rfl) rfl dc (fun _ _ h => ⟨h.1, lJ br h.2⟩) ⟨d, fun _ => n⟩ (fun _ _ _ _ => jH k) (lf 3 rfl kr (.inl rfl) rfl dc (fun _ _ h => ⟨h.1, lJ br h.2⟩) ⟨d, fun _ => n⟩ (fun _ _ _ _ => kG rfl rfl rfl) (lf 4 rfl kr (.inl rfl) rfl dc (fun _ _ h => ⟨h.1, lJ br h.2⟩) ⟨d, fun _ => n⟩ (fun _ _ _ _ => jH u) (lf 5 rfl kr (.inl rfl) rfl dc (fun _ _ h => ⟨h.1, lJ br h.2⟩) ⟨d, fun _ => n⟩ (fun _ _ _ _ => jH J) (lf 6 rfl kr (.inl rfl) rfl dc (fun _ _ h => ⟨h.1, lJ br h.2⟩) ⟨d, fun _ => n⟩ (fun _ _ _ _ => jH k) (lf 7 rfl kr (.inl rfl) rfl dc (fun _ _ h => ⟨h.1, lJ br h.2⟩) ⟨d, fun _ => n⟩ (fun _ _ _ _ => kG rfl rfl rfl) (lf 8 rfl kr (.inl rfl) rfl dc (fun _ _ h => ⟨h.1, lJ br h.2⟩) ⟨d, fun _ => n⟩ (fun _ _ _ _ => jH u) (lf 9 rfl kr (.inl rfl) rfl dc (fun _ _ h => ⟨h.1, lJ br h.2⟩) ⟨d, fun _ => n⟩ (fun _ _ _ _ => jH J) (lf 10 rfl kr (.inl rfl) rfl dc (fun _ _ h => ⟨h.1, lJ br h.2⟩) ⟨d, fun _ => n⟩ (fun _ _ _ _ => jH k) (lf 11 rfl kr (.inl rfl) rfl dc (fun _ _ h => ⟨h.1, lJ br h.2⟩) ⟨d, fun _ => n⟩ (fun _ _ _ _ => kG rfl rfl rfl) (bS a fun K T a => sL 12 rfl kr (.inl rfl) rfl dc (fun _ _ h => ⟨h.1, lJ br h.2⟩) ⟨d, fun _ => n⟩ (lu (i := (wi0 .i64 (H + c))) jx.out aD aB rfl rfl j (ky T) (kv T)) (fun d6 ⟨_, ⟨e0, rfl, N⟩, b1, c4⟩ => ?_))))))))))))))
   refine lf 13 rfl kr (.inl rfl) rfl dc (fun _ _ h => ⟨h.1, lJ br h.2⟩) ⟨d, fun _ => n⟩ (fun l W A P => have L := (P.2 (A.Em 21 [13] kr rfl)); jA rfl (kf (nC.hp _) (b1.mono (lR (fun b o O => L.2 b o (Ml O)))) aI aB)) (lf 14 rfl kr (.inl rfl) rfl dc (fun _ _ h => ⟨h.1, lJ br h.2⟩) ⟨d, fun _ => n⟩ (fun _ _ _ _ => jH u) (lf 15 rfl kr (.inl rfl) rfl dc (fun _ _ h => ⟨h.1, lJ br h.2⟩) ⟨d, fun _ => n⟩ (fun _ _ _ _ => jH I) (lf 16 rfl kr (.inl rfl) rfl dc (fun _ _ h => ⟨h.1, lJ br h.2⟩) ⟨d, fun _ => n⟩ (fun _ _ _ _ => jH k) (lf 17 rfl kr (.inl rfl) rfl dc (fun _ _ h => ⟨h.1, lJ br h.2⟩) ⟨d, fun _ => n⟩ (fun _ _ _ _ => kG rfl rfl rfl) (bS a fun g U a => sL 18 rfl kr (.inl rfl) rfl dc (fun _ _ h => ⟨h.1, lJ br h.2⟩) ⟨d, fun _ => n⟩ (lu (i := (wi0 .i64 (G + c))) jx.out aD aB rfl rfl j (ky U) (kv U)) (fun d7 ⟨_, ⟨e1, rfl, Q⟩, b2, c5⟩ => lf 19 rfl kr (.inl rfl) rfl dc (fun _ _ h => ⟨h.1, lJ br h.2⟩) ⟨d, fun _ => n⟩ (fun l W A P => have L := (P.2 (A.Em 21 [19] kr rfl)); jA rfl (kf (nC.hp _) (b2.mono (lR (fun b o O => L.2 b o (Ml O)))) aI aB)) (bS a fun e5 z a => sL 20 rfl kr (.inl rfl) rfl dc (fun _ _ h => ⟨h.1, lJ br h.2⟩) ⟨d, fun _ => n⟩ (lu (i := (wi0 .i64 (G + c))) jx.out aD aB rfl rfl j (ky z) (kv z)) (fun d8 ⟨_, ⟨e2, rfl, c8⟩, c6, a9⟩ => ?_))))))))
   let R := (⟨g.Op, g.K, g.ju, g.Kids⟩ : Formula)
   obtain ⟨b3, b7, rfl⟩ := N.form
   refine XO 21 rfl (qJ (x1 := K) jF p j rfl rfl (jx.mk ⟨(.slice b3 K.Kids.length b7), rfl, N⟩) a9 (kv z) aB (fun d2 d1 p M => ?_))
   have d := p.has.jy Sn
   refine ⟨⟨d, fun h => Ar kr h⟩, (bS a fun e6 B a => sL 22 rfl kr (.inl rfl) rfl dc (fun _ _ h => ⟨h.1, lJ br h.2⟩) ⟨d, fun h => Ar kr h⟩ (lu (i := (wi0 .i64 (H + c))) jx.out aD aB rfl rfl M (ky B) (kv B)) (fun d9 ⟨_, ⟨e3, rfl, c9⟩, c7, b0⟩ => ?_))⟩
   obtain ⟨b4, b9, rfl⟩ := Q.form
   refine XO 23 rfl (qJ (x1 := R) jF p M rfl rfl (jx.mk ⟨(.slice b4 g.Kids.length b9), rfl, Q⟩) b0 (kv B) aB (fun d3 b5 p a7 => ?_))
   have d := p.has.jy Sn
   exact ⟨⟨d, fun h => Ar kr h⟩, (kT kr (kA (jI (jL (Wh k (Wi rfl (Wa (ln ⟨c1, bG _, ((D.set (Int.toNat (wi0 .i64 (G + c))) K).set (Int.toNat (wi0 .i64 (H + c))) R), b5, (wi0 .i64 (c + 1)), _, (p.jy St), u, I, J, a4, rfl, a7, a⟩))))))))⟩
  refine mF (ml (ml (oU (jI (nQ ?_)))))
  obtain rfl := sj a
  exact nr rfl ⟨_, _, _, rfl, (p.lO (Kr Sn)), (kj.refl _), Lo.refl, (ST.kR p (mB.mem (Kr Sn))), y, rfl, rfl, j⟩
theorem yT (k : Value) (a0 : List Formula) (y : LO) (A D a3 : Int) (B : Value) (U : (Formula × Formula) → Option Int) (r : List Formula) (w : World) {T : km} (h0 : ni T (y ++ []) w) (c5 : kK 30 jx 5 T k a0 y) (Q : uc pg0 B T (ui jx jx) (fun (r : Int) => (.int .i64 r)) U) (hm : mM a0 A D a3 U = some r) :
  lT true pg0 389 [k, (.int .i64 A), (.int .i64 D), (.int .i64 a3), B] w T (y ++ []) (fun v L1 μ1 => ∃ S1, v = (.tuple #[]) ∧ L1 = (S1 ++ []) ∧ kK 30 jx 5 μ1 k r S1) := by
 refine uW h0 58 func389 rfl (fun b => sg (Wm (Wm (Wi rfl (Wa (lr (Wm (Wm (Wi rfl (Wa ?_))))))))))
 refine ln (jM (kZ (mG (fun m E W => ∃ z x c t I Y, kj T I ∧ Lo (keys (y ++ [])) w T I ∧ ST true (keys (y ++ [])) w W I (x ++ Y) ∧ E 0 = k ∧ E 2 = (.int .i64 D) ∧ E 4 = B ∧ E 10 = (.int .i64 c) ∧ E 11 = (.int .i64 t) ∧ kK 30 jx 5 I k z x ∧ mx D U m z c t = some r) ki ⟨a0, y, (wi0 .i64 (D - A)), (wi0 .i64 (a3 - D)), T, _, (kj.refl _), Lo.refl, (b.jy St), rfl, rfl, rfl, rfl, rfl, c5, hm⟩ ?_)))
 rintro m E W ⟨z, x, c, t, I, Y, i, d, b, G, j, H, g, u, J, a⟩
 let a2 := (wi0 .i64 (D - c))
 cases m with
 | zero => rw [mx] at a; cases a
 | succ L =>
  refine jM (sg (Wh g (Wh u (Wi rfl (ln (CI a rfl (fun O a => ?_) (fun O a => ?_)))))))
  ·refine kn (bg (Wh g (Wh u (Wi rfl (ln (CI a rfl (fun P a => ?_) (fun P a => ?_)))))))
   ·refine sg (Wh G (Wh j (Wh g (Wi rfl (Wh j (Wh u (Wh H (bS a fun c6 R a => ?_))))))))
    refine VE (eD b (Cr Qz Cn) call400 (fun p => (pX k z x a2 D t B U _ _ p J (Q.mono i) R)) ?_)
    rintro _ e0 c8 d2 b Z h ⟨b9, K, rfl, b5⟩
    obtain rfl := K.symm
    replace b := b.perm (Tr Tn)
    exact ln (jL (Wh g (Wh u (Wi rfl (Wa (kk (kA (jI ⟨L, bG _, c6, b9, (wi0 .i64 (c - t)), t, c8, _, (i.trans Z), (d.trans h), (b.jy St), G, j, H, rfl, u, b5, a⟩))))))))
   refine sg (Wh G (Wh j (Wh g (Wi rfl (Wh j (Wh u (Wi rfl (Wh g (Wi rfl (Wh g (Wh H (bS a fun c7 b3 a => ?_))))))))))))
   refine VE (eD b (Cr Qz Cn) call400 (fun p => (pX k z x a2 (wi0 .i64 ((wi0 .i64 (D + t)) - c)) c B U _ _ p J (Q.mono i) b3)) ?_)
   rintro _ e1 c9 d3 b a4 l ⟨c0, M, rfl, b6⟩
   obtain rfl := M.symm
   replace b := b.perm (Tr Tn)
   exact ln (jL (Wh u (Wh g (Wi rfl (Wa (kk (kA (jI ⟨L, bG _, c7, c0, c, (wi0 .i64 (t - c)), c9, _, (i.trans a4), (d.trans l), (b.jy St), G, j, H, g, rfl, b6, a⟩))))))))
  refine mF (ml (ml (oU (jI (jL (Wh G (Wh j (Wh g (Wi rfl (Wh j (Wh g (Wh H (bS a fun d9 b4 a => ?_)))))))))))))
  refine VE (eD b (Cr Qz Cn) call400 (fun p => (pX k z x a2 D c B U _ _ p J (Q.mono i) b4)) ?_)
  rintro _ e2 e4 d4 b a5 n ⟨c1, N, rfl, b7⟩
  obtain rfl := N.symm
  replace b := b.perm (Tr Tn)
  refine kk (nQ ?_)
  obtain rfl := sj a
  exact nr rfl ⟨_, _, _, rfl, (b.lO (Kr Sn)), (i.trans a5), (d.trans n), (ST.kR b (mB.mem (Kr Sn))), c1, rfl, rfl, b7⟩
set_option maxHeartbeats 4000000 in
theorem wL (t6 : (List Formula) → Int → Int → Int → ((Formula × Formula) → Option Int) → Option (List Formula)) (s6 : ∀ (t : Value) (a0 : List Formula) (c : LO) (z : Int) (M : Int) (B : Int) (D : Value) (f4 : (Formula × Formula) → Option Int) (r : List Formula) (w : World) {U : km} (h0 : ni U (c ++ []) w) (a5 : kK 30 jx 5 U t a0 c) (c6 : uc pg0 D U (ui jx jx) (fun (r : Int) => (.int .i64 r)) f4), t6 a0 z M B f4 = some r → lT false pg0 384 [t, (.int .i64 z), (.int .i64 M), (.int .i64 B), D] w U (c ++ []) (fun v L1 μ1 => ∃ S1, v = (.tuple #[]) ∧ L1 = (S1 ++ []) ∧ kK 30 jx 5 μ1 t r S1)) (t : Value) (a0 : List Formula) (c : LO) (z M B : Int) (D : Value) (f4 : (Formula × Formula) → Option Int) (r : List Formula) (w : World) {U : km} (h0 : ni U (c ++ []) w) (a5 : kK 30 jx 5 U t a0 c) (c6 : uc pg0 D U (ui jx jx) (fun (r : Int) => (.int .i64 r)) f4) (hm : oO t6 a0 z M B f4 = some r) :
  lT false pg0 384 [t, (.int .i64 z), (.int .i64 M), (.int .i64 B), D] w U (c ++ []) (fun v L1 μ1 => ∃ S1, v = (.tuple #[]) ∧ L1 = (S1 ++ []) ∧ kK 30 jx 5 μ1 t r S1) := by
 refine uW h0 220 func384 rfl (fun d => jM (sg (Wm (Wm (Wi rfl (Wi rfl (ln (CI hm rfl (fun ae hm => ?_) (fun ae hm => ?_)))))))))
 ·refine sg (Wm (Wa (lr (Wm (Wa (ln (jM (kZ (mG (fun m E W => ∃ T a9 o3, ST false (keys (c ++ [])) w W U (c ++ o3) ∧ E 0 = t ∧ E 1 = (.int .i64 z) ∧ E 4 = D ∧ E 10 = (.int .i64 T) ∧ E 11 = (.int .i64 a9) ∧ lh a0 z f4 m T a9 = some r) ki ⟨M, B, _, (d.jy St), rfl, rfl, rfl, rfl, rfl, hm⟩ ?_)))))))))
  rintro m E W ⟨T, a9, o3, d, e4, h8, k3, h9, k4, y⟩
  cases m with
  | zero => rw [lh] at y; cases y
  | succ t5 =>
   refine jM (sg (Wh h9 (Wh k4 (Wi rfl (ln (CI y rfl (fun w9 y => ?_) (fun w9 y => ?_)))))))
   ·refine kn (bg (Wh h9 (Wh k4 (Wi rfl (V (ri (k' := .i64) (a := (wi0 .i64 (T + a9))) er eV rfl) (V (Ia (a := (IntKind.u64.wrap (wi0 .i64 (T + a9)))) (b := 1) rfl rfl dc) (V (ri (k' := .u64) (a := (Int.fdiv (IntKind.u64.wrap (wi0 .i64 (T + a9))) (2 ^ min (Int.toNat 1) (IntKind.bits .u64)))) eV er rfl) (Wa (ln (jM ?_))))))))))
    let e3 := (Int.fdiv (IntKind.u64.wrap (wi0 .i64 (T + a9))) (2 ^ min (Int.toNat 1) (IntKind.bits .u64)))
    replace d := d.drew
    have n := d.has.jy (Kr Sn)
    refine kI n kl (X 0 rfl n (jH k3) (X 1 rfl n (jH e4) (X 2 rfl n (jH rfl) (bS y fun aa n1 y => XQ 3 rfl n (lu (i := (wi0 .i64 e3)) jx.out aD aB rfl rfl a5 (ky n1) (kv n1)) (fun di ⟨_, ⟨z7, rfl, x7⟩, x4, bp⟩ => XH 4 rfl n (fun _ L => jA rfl (kf (nC.hp _) (x4.mono (lR (fun b o O => L.2 b o (Ml O)))) aI aB)) (X 5 rfl n (jH e4) (X 6 rfl n (jH h8) (bS y fun ab n2 y => XQ 7 rfl n (lu (i := z) jx.out aD aB rfl rfl a5 (ky n2) (kv n2)) (fun dj ⟨_, ⟨z8, rfl, x8⟩, x5, bq⟩ => XH 8 rfl n (fun _ L => jA rfl (kf (nC.hp _) (x5.mono (lR (fun b o O => L.2 b o (Ml O)))) aI aB)) (bS y fun dk x6 y => XE 9 rfl (vH (aa, ab) d c6 (kj.refl _) (ui.mk jF jF (jx.mk ⟨z7, rfl, x7⟩) (jx.mk ⟨z8, rfl, x8⟩) d.jB) rfl (uI rfl rfl) x6 (fun dg d => ?_))))))))))))
    have n := d.has.jy (Kr Sn)
    refine ⟨n, (X 10 rfl n (kG rfl rfl rfl) (kT kr (jI (CI y rfl (fun x0 y => ?_) (fun x0 y => ?_)))))⟩
    ·exact jL (Wm (Wi rfl (Wa (kk (kA (jI ⟨t5, bG _, (wi0 .i64 ((wi0 .i64 e3) + 1)), a9, _, (d.jy St), e4, h8, k3, rfl, k4, y⟩))))))
    exact jL (Wm (Wa (kk (kA (jI ⟨t5, bG _, T, (wi0 .i64 e3), _, (d.jy St), e4, h8, k3, h9, rfl, y⟩)))))
   refine mF (ml (ml (oU (jI (jM (sg (Wh h8 (Wa (ln (CJ y (fun k5 E W => ∃ f7 o4, ST false (keys (c ++ [])) w W U (f7 ++ o4) ∧ kK 30 jx 5 U t k5 f7) (fun k5 x3 => ?_) ?_))))))))))
   ·refine kZ (mG (fun m E W => ∃ i0 f8 b0 k6, ST false (keys (c ++ [])) w W U (f8 ++ k6) ∧ E 0 = t ∧ E 10 = (.int .i64 T) ∧ E 13 = (.int .i64 b0) ∧ kK 30 jx 5 U t i0 f8 ∧ mh T m i0 b0 = some k5) ki ⟨a0, c, z, _, (d.jy St), e4, h9, rfl, a5, x3⟩ ?_)
    rintro m E W ⟨i0, f8, b0, k6, d, c7, l7, c0, d1, u⟩
    cases m with
    | zero => rw [mh] at u; cases u
    | succ y2 =>
     refine jM (sg (Wh c0 (Wh l7 (Wi rfl (Wi rfl (ln (CI u rfl (fun p1 u => ?_) (fun p1 u => ?_))))))))
     ·refine kn (jM (kZ ?_))
      replace d := d.drew
      have n := d.has.jy Sn
      have p := d.has.jy (Kr Sn)
      refine vx 15 n p kl (lf 0 rfl kr (.inl rfl) rfl dc (fun _ _ h => ⟨h.1, lJ (by rfl) h.2⟩) ⟨n, fun _ => p⟩ (fun _ _ _ _ => jH c7) (lf 1 rfl kr (.inl rfl) rfl dc (fun _ _ h => ⟨h.1, lJ (by rfl) h.2⟩) ⟨n, fun _ => p⟩ (fun _ _ _ _ => jH c0) (lf 2 rfl kr (.inl rfl) rfl dc (fun _ _ h => ⟨h.1, lJ (by rfl) h.2⟩) ⟨n, fun _ => p⟩ (fun _ _ _ _ => jH c7) (lf 3 rfl kr (.inl rfl) rfl dc (fun _ _ h => ⟨h.1, lJ (by rfl) h.2⟩) ⟨n, fun _ => p⟩ (fun _ _ _ _ => jH c0) (lf 4 rfl kr (.inl rfl) rfl dc (fun _ _ h => ⟨h.1, lJ (by rfl) h.2⟩) ⟨n, fun _ => p⟩ (fun _ _ _ _ => kG rfl rfl rfl) (lf 5 rfl kr (.inl rfl) rfl dc (fun _ _ h => ⟨h.1, lJ (by rfl) h.2⟩) ⟨n, fun _ => p⟩ (fun _ _ _ _ => jH c7) (lf 6 rfl kr (.inl rfl) rfl dc (fun _ _ h => ⟨h.1, lJ (by rfl) h.2⟩) ⟨n, fun _ => p⟩ (fun _ _ _ _ => jH c0) (lf 7 rfl kr (.inl rfl) rfl dc (fun _ _ h => ⟨h.1, lJ (by rfl) h.2⟩) ⟨n, fun _ => p⟩ (fun _ _ _ _ => kG rfl rfl rfl) (bS u fun i3 j5 u => sL 8 rfl kr (.inl rfl) rfl dc (fun _ _ h => ⟨h.1, lJ (by rfl) h.2⟩) ⟨n, fun _ => p⟩ (lu (i := (wi0 .i64 (b0 + 1))) jx.out aD aB rfl rfl d1 (ky j5) (kv j5)) (fun bt ⟨_, ⟨cl, rfl, i7⟩, r3, af⟩ => lf 9 rfl kr (.inl rfl) rfl dc (fun _ _ h => ⟨h.1, lJ (by rfl) h.2⟩) ⟨n, fun _ => p⟩ (fun l W P hs => have L := (hs.2 (P.Em 15 [9] kr rfl)); jA rfl (kf (nC.hp _) (r3.mono (lR (fun b o O => L.2 b o (Ml O)))) aI aB)) (lf 10 rfl kr (.inl rfl) rfl dc (fun _ _ h => ⟨h.1, lJ (by rfl) h.2⟩) ⟨n, fun _ => p⟩ (fun _ _ _ _ => jH c7) (lf 11 rfl kr (.inl rfl) rfl dc (fun _ _ h => ⟨h.1, lJ (by rfl) h.2⟩) ⟨n, fun _ => p⟩ (fun _ _ _ _ => jH c0) (bS u fun Y j6 u => ?_)))))))))))))
      refine sL 12 rfl kr (.inl rfl) rfl dc (fun _ _ h => ⟨h.1, lJ (by rfl) h.2⟩) ⟨n, fun _ => p⟩ (lu (i := b0) jx.out aD aB rfl rfl d1 (ky j6) (kv j6)) (fun bu ⟨_, ⟨cm, rfl, i8⟩, r4, ag⟩ => lf 13 rfl kr (.inl rfl) rfl dc (fun _ _ h => ⟨h.1, lJ (by rfl) h.2⟩) ⟨n, fun _ => p⟩ (fun l W P hs => have L := (hs.2 (P.Em 15 [13] kr rfl)); jA rfl (kf (nC.hp _) (r4.mono (lR (fun b o O => L.2 b o (Ml O)))) aI aB)) (bS u fun cw e9 u => sL 14 rfl kr (.inl rfl) rfl dc (fun _ _ h => ⟨h.1, lJ (by rfl) h.2⟩) ⟨n, fun _ => p⟩ (lu (i := b0) jx.out aD aB rfl rfl d1 (ky e9) (kv e9)) (fun bv ⟨_, ⟨cn, rfl, ar⟩, an, q2⟩ => ?_)))
      obtain ⟨t7, u6, rfl⟩ := i7.form
      refine XO 15 rfl (qJ (x1 := i3) jF d d1 rfl rfl (jx.mk ⟨(.slice t7 i3.Kids.length u6), rfl, i7⟩) q2 (kv e9) aB (fun be bc d i5 => ?_))
      have n := d.has.jy Sn
      refine ⟨⟨n, fun h => Ar kr h⟩, (bS u fun cx f0 u => sL 16 rfl kr (.inl rfl) rfl dc (fun _ _ h => ⟨h.1, lJ (by rfl) h.2⟩) ⟨n, fun h => Ar kr h⟩ (lu (i := (wi0 .i64 (b0 + 1))) jx.out aD aB rfl rfl i5 (ky f0) (kv f0)) (fun bw ⟨_, ⟨co, rfl, au⟩, ao, q3⟩ => ?_))⟩
      obtain ⟨t8, u7, rfl⟩ := i8.form
      refine XO 17 rfl (qJ (x1 := (⟨Y.Op, Y.K, Y.ju, Y.Kids⟩ : Formula)) jF d i5 rfl rfl (jx.mk ⟨(.slice t8 Y.Kids.length u7), rfl, i8⟩) q3 (kv f0) aB (fun bf u1 d o9 => ?_))
      have n := d.has.jy Sn
      exact ⟨⟨n, fun h => Ar kr h⟩, (kT kr (kA (jI (jL (Wh c0 (Wi rfl (Wa (ln ⟨y2, bG _, ((i0.set (Int.toNat b0) i3).set (Int.toNat (wi0 .i64 (b0 + 1))) (⟨Y.Op, Y.K, Y.ju, Y.Kids⟩ : Formula)), u1, (wi0 .i64 (b0 + 1)), _, (d.jy St), c7, l7, rfl, o9, u⟩))))))))⟩
     refine mF (ml (ml (oU (jI ?_))))
     have A := sj u; subst A
     exact ⟨f8, _, (d.jy St), d1⟩
   rintro dh E W ⟨f7, o4, d, x9⟩ x2
   refine kh (kw ?_)
   have A := sj x2; subst A
   exact nr rfl ⟨_, _, _, rfl, (d.lO (Kr Sn)), (kj.refl _), Lo.refl, (ST.kR d (mB.mem (Kr Sn))), f7, rfl, rfl, x9⟩
 refine kS (Wm (Wm (Wi rfl (Wi rfl (ln (CI hm rfl (fun p2 hm => ?_) (fun p2 hm => ?_)))))))
 ·refine sg (Wm (Wa (lr (Wm (Wa (ln (jM (kZ (mG (fun m E W => ∃ G N k7, ST false (keys (c ++ [])) w W U (c ++ k7) ∧ E 0 = t ∧ E 2 = (.int .i64 M) ∧ E 4 = D ∧ E 14 = (.int .i64 G) ∧ E 15 = (.int .i64 N) ∧ lj a0 M f4 m G N = some r) ki ⟨z, M, _, (d.jy St), rfl, rfl, rfl, rfl, rfl, hm⟩ ?_)))))))))
  rintro m E W ⟨G, N, k7, d, c8, d5, f9, d6, g0, j⟩
  let j1 := (IntKind.u64.wrap (wi0 .i64 (G + N)))
  let b8 := (Int.fdiv j1 (2 ^ min (Int.toNat 1) (IntKind.bits .u64)))
  cases m with
  | zero => rw [lj] at j; cases j
  | succ n3 =>
   refine jM (sg (Wh d6 (Wh g0 (Wi rfl (ln (CI j rfl (fun p3 j => ?_) (fun p3 j => ?_)))))))
   ·refine kn (bg (Wh d6 (Wh g0 (Wi rfl (V (ri (k' := .i64) (a := (wi0 .i64 (G + N))) er eV rfl) (V (Ia (a := j1) (b := 1) rfl rfl dc) (V (ri (k' := .u64) (a := (Int.fdiv j1 (2 ^ min (Int.toNat 1) (IntKind.bits .u64)))) eV er rfl) (Wa (ln (jM ?_))))))))))
    replace d := d.drew
    have n := d.has.jy (Kr Sn)
    refine kI n kl (X 0 rfl n (jH f9) (X 1 rfl n (jH c8) (X 2 rfl n (jH d5) (bS j fun y8 j7 j => XQ 3 rfl n (lu (i := M) jx.out aD aB rfl rfl a5 (ky j7) (kv j7)) (fun bx ⟨_, ⟨y4, rfl, s7⟩, r5, ah⟩ => XH 4 rfl n (fun _ L => jA rfl (kf (nC.hp _) (r5.mono (lR (fun b o O => L.2 b o (Ml O)))) aI aB)) (X 5 rfl n (jH c8) (X 6 rfl n (jH rfl) (bS j fun y9 j8 j => XQ 7 rfl n (lu (i := (wi0 .i64 b8)) jx.out aD aB rfl rfl a5 (ky j8) (kv j8)) (fun bz ⟨_, ⟨y5, rfl, s8⟩, r6, ai⟩ => XH 8 rfl n (fun _ L => jA rfl (kf (nC.hp _) (r6.mono (lR (fun b o O => L.2 b o (Ml O)))) aI aB)) (bS j fun cg s1 j => XE 9 rfl (vH (y8, y9) d c6 (kj.refl _) (ui.mk jF jF (jx.mk ⟨y4, rfl, s7⟩) (jx.mk ⟨y5, rfl, s8⟩) d.jB) rfl (uI rfl rfl) s1 (fun bh d => ?_))))))))))))
    have n := d.has.jy (Kr Sn)
    refine ⟨n, (X 10 rfl n (kG rfl rfl rfl) (X 11 rfl n (mT rfl) (kT kr (jI (CI j rfl (fun p4 j => ?_) (fun p4 j => ?_))))))⟩
    ·exact jL (Wm (Wi rfl (Wa (kk (kA (jI ⟨n3, bG _, (wi0 .i64 ((wi0 .i64 b8) + 1)), N, _, (d.jy St), c8, d5, f9, rfl, g0, j⟩))))))
    exact jL (Wm (Wa (kk (kA (jI ⟨n3, bG _, G, (wi0 .i64 b8), _, (d.jy St), c8, d5, f9, d6, rfl, j⟩)))))
   refine mF (ml (ml (oU (jI (jM (sg (Wh d5 (Wa (ln (CJ j (fun i1 E W => ∃ d3 k8, ST false (keys (c ++ [])) w W U (d3 ++ k8) ∧ kK 30 jx 5 U t i1 d3) (fun i1 q7 => ?_) ?_))))))))))
   ·refine kZ (mG (fun m E W => ∃ e2 d4 Q k9, ST false (keys (c ++ [])) w W U (d4 ++ k9) ∧ E 0 = t ∧ E 14 = (.int .i64 G) ∧ E 17 = (.int .i64 Q) ∧ kK 30 jx 5 U t e2 d4 ∧ mg G m e2 Q = some i1) ki ⟨a0, c, M, _, (d.jy St), c8, d6, rfl, a5, q7⟩ ?_)
    rintro m E W ⟨e2, d4, Q, k9, d, c9, l8, c1, b6, x⟩
    cases m with
    | zero => rw [mg] at x; cases x
    | succ y3 =>
     refine jM (sg (Wh c1 (Wh l8 (Wi rfl (ln (CI x rfl (fun p5 x => ?_) (fun p5 x => ?_)))))))
     ·refine kn (jM (kZ ?_))
      replace d := d.drew
      have n := d.has.jy Sn
      have p := d.has.jy (Kr Sn)
      refine vx 15 n p kl (lf 0 rfl kr (.inl rfl) rfl dc (fun _ _ h => ⟨h.1, lJ (by rfl) h.2⟩) ⟨n, fun _ => p⟩ (fun _ _ _ _ => jH c9) (lf 1 rfl kr (.inl rfl) rfl dc (fun _ _ h => ⟨h.1, lJ (by rfl) h.2⟩) ⟨n, fun _ => p⟩ (fun _ _ _ _ => jH c1) (lf 2 rfl kr (.inl rfl) rfl dc (fun _ _ h => ⟨h.1, lJ (by rfl) h.2⟩) ⟨n, fun _ => p⟩ (fun _ _ _ _ => jH c9) (lf 3 rfl kr (.inl rfl) rfl dc (fun _ _ h => ⟨h.1, lJ (by rfl) h.2⟩) ⟨n, fun _ => p⟩ (fun _ _ _ _ => jH c1) (lf 4 rfl kr (.inl rfl) rfl dc (fun _ _ h => ⟨h.1, lJ (by rfl) h.2⟩) ⟨n, fun _ => p⟩ (fun _ _ _ _ => kG rfl rfl rfl) (lf 5 rfl kr (.inl rfl) rfl dc (fun _ _ h => ⟨h.1, lJ (by rfl) h.2⟩) ⟨n, fun _ => p⟩ (fun _ _ _ _ => jH c9) (lf 6 rfl kr (.inl rfl) rfl dc (fun _ _ h => ⟨h.1, lJ (by rfl) h.2⟩) ⟨n, fun _ => p⟩ (fun _ _ _ _ => jH c1) (lf 7 rfl kr (.inl rfl) rfl dc (fun _ _ h => ⟨h.1, lJ (by rfl) h.2⟩) ⟨n, fun _ => p⟩ (fun _ _ _ _ => kG rfl rfl rfl) (bS x fun i4 j9 x => sL 8 rfl kr (.inl rfl) rfl dc (fun _ _ h => ⟨h.1, lJ (by rfl) h.2⟩) ⟨n, fun _ => p⟩ (lu (i := (wi0 .i64 (Q - 1))) jx.out aD aB rfl rfl b6 (ky j9) (kv j9)) (fun ca ⟨_, ⟨cp, rfl, i9⟩, r7, aj⟩ => lf 9 rfl kr (.inl rfl) rfl dc (fun _ _ h => ⟨h.1, lJ (by rfl) h.2⟩) ⟨n, fun _ => p⟩ (fun l W P hs => have L := (hs.2 (P.Em 15 [9] kr rfl)); jA rfl (kf (nC.hp _) (r7.mono (lR (fun b o O => L.2 b o (Ml O)))) aI aB)) (lf 10 rfl kr (.inl rfl) rfl dc (fun _ _ h => ⟨h.1, lJ (by rfl) h.2⟩) ⟨n, fun _ => p⟩ (fun _ _ _ _ => jH c9) (lf 11 rfl kr (.inl rfl) rfl dc (fun _ _ h => ⟨h.1, lJ (by rfl) h.2⟩) ⟨n, fun _ => p⟩ (fun _ _ _ _ => jH c1) (bS x fun Z k0 x => ?_)))))))))))))
      refine sL 12 rfl kr (.inl rfl) rfl dc (fun _ _ h => ⟨h.1, lJ (by rfl) h.2⟩) ⟨n, fun _ => p⟩ (lu (i := Q) jx.out aD aB rfl rfl b6 (ky k0) (kv k0)) (fun cb ⟨_, ⟨cq, rfl, j0⟩, r8, ak⟩ => lf 13 rfl kr (.inl rfl) rfl dc (fun _ _ h => ⟨h.1, lJ (by rfl) h.2⟩) ⟨n, fun _ => p⟩ (fun l W P hs => have L := (hs.2 (P.Em 15 [13] kr rfl)); jA rfl (kf (nC.hp _) (r8.mono (lR (fun b o O => L.2 b o (Ml O)))) aI aB)) (bS x fun cy f1 x => sL 14 rfl kr (.inl rfl) rfl dc (fun _ _ h => ⟨h.1, lJ (by rfl) h.2⟩) ⟨n, fun _ => p⟩ (lu (i := Q) jx.out aD aB rfl rfl b6 (ky f1) (kv f1)) (fun cc ⟨_, ⟨cr, rfl, av⟩, ap, q4⟩ => ?_)))
      obtain ⟨t9, u8, rfl⟩ := i9.form
      refine XO 15 rfl (qJ (x1 := i4) jF d b6 rfl rfl (jx.mk ⟨(.slice t9 i4.Kids.length u8), rfl, i9⟩) q4 (kv f1) aB (fun bi bd d i6 => ?_))
      have n := d.has.jy Sn
      refine ⟨⟨n, fun h => Ar kr h⟩, (bS x fun cz f2 x => sL 16 rfl kr (.inl rfl) rfl dc (fun _ _ h => ⟨h.1, lJ (by rfl) h.2⟩) ⟨n, fun h => Ar kr h⟩ (lu (i := (wi0 .i64 (Q - 1))) jx.out aD aB rfl rfl i6 (ky f2) (kv f2)) (fun cd ⟨_, ⟨cs, rfl, aw⟩, aq, q5⟩ => ?_))⟩
      obtain ⟨u0, u9, rfl⟩ := j0.form
      refine XO 17 rfl (qJ (x1 := (⟨Z.Op, Z.K, Z.ju, Z.Kids⟩ : Formula)) jF d i6 rfl rfl (jx.mk ⟨(.slice u0 Z.Kids.length u9), rfl, j0⟩) q5 (kv f2) aB (fun bj u2 d p0 => ?_))
      have n := d.has.jy Sn
      exact ⟨⟨n, fun h => Ar kr h⟩, (kT kr (kA (jI (jL (Wh c1 (Wi rfl (Wa (ln ⟨y3, bG _, ((e2.set (Int.toNat Q) i4).set (Int.toNat (wi0 .i64 (Q - 1))) (⟨Z.Op, Z.K, Z.ju, Z.Kids⟩ : Formula)), u2, (wi0 .i64 (Q - 1)), _, (d.jy St), c9, l8, rfl, p0, x⟩))))))))⟩
     refine mF (ml (ml (oU (jI ?_))))
     have A := sj x; subst A
     exact ⟨d4, _, (d.jy St), b6⟩
   rintro bs E W ⟨d3, k8, d, s9⟩ q6
   refine kh (kw ?_)
   have A := sj q6; subst A
   exact nr rfl ⟨_, _, _, rfl, (d.lO (Kr Sn)), (kj.refl _), Lo.refl, (ST.kR d (mB.mem (Kr Sn))), d3, rfl, rfl, s9⟩
 let g5 := (IntKind.u64.wrap (wi0 .i64 (z + B)))
 refine kg (Wm (Wm (Wi rfl (V (ri (k' := .i64) (a := (wi0 .i64 (z + B))) er eV rfl) (V (Ia (a := g5) (b := 1) rfl rfl dc) (V (ri (k' := .u64) (a := (Int.fdiv g5 (2 ^ min (Int.toNat 1) (IntKind.bits .u64)))) eV er rfl) (Wa (lr ?_))))))))
 let a1 := (wi0 .i64 (Int.fdiv g5 (2 ^ min (Int.toNat 1) (IntKind.bits .u64))))
 let e5 := (wi0 .i64 (a1 + M))
 refine Wm (Wm (Wi rfl (Wa (lr (Wa (Wa (ln (jM (CJ hm (fun i2 E W => ∃ l0, ST false (keys (c ++ [])) w W U (c ++ l0) ∧ E 0 = t ∧ E 1 = (.int .i64 z) ∧ E 2 = (.int .i64 M) ∧ E 3 = (.int .i64 B) ∧ E 4 = D ∧ E 18 = (.int .i64 a1) ∧ E 19 = (.int .i64 e5) ∧ E 20 = (.int .i64 i2.1) ∧ E 21 = (.int .i64 i2.2)) (fun i2 b5 => ?_) ?_)))))))))
 ·refine sg (Wm (Wm (Wi rfl (ln (CI b5 rfl (fun q1 b5 => ?_) (fun q1 b5 => ?_))))))
  ·refine sg (Wm (Wm (Wi rfl (Wa (ln (jL (Wm (Wa (ln ?_)))))))))
   have A := sj b5; subst A
   exact ⟨_, (d.jy St), rfl, rfl, rfl, rfl, rfl, rfl, rfl, rfl, rfl⟩
  refine sg (Wm (Wa (ln (jL (Wm (Wa (ln ?_)))))))
  have A := sj b5; subst A
  exact ⟨_, (d.jy St), rfl, rfl, rfl, rfl, rfl, rfl, rfl, rfl, rfl⟩
 rintro ⟨z0, z1⟩ E W ⟨l0, d, v0, v1, v2, v3, v4, v5, l9, v6, v7⟩ q8
 refine sg (Wh l9 (Wi rfl (Wa (ln (jM (kZ (mG (fun m E W => ∃ g K l1, ST false (keys (c ++ [])) w W U (c ++ l1) ∧ E 0 = t ∧ E 1 = (.int .i64 z) ∧ E 2 = (.int .i64 M) ∧ E 3 = (.int .i64 B) ∧ E 4 = D ∧ E 18 = (.int .i64 a1) ∧ E 19 = (.int .i64 e5) ∧ E 20 = (.int .i64 g) ∧ E 21 = (.int .i64 K) ∧ E 22 = (.int .i64 (wi0 .i64 (e5 - 1))) ∧ kP a0 z B M f4 t6 m g K = some r) ki ⟨z0, z1, _, (d.jy St), v0, v1, v2, v3, v4, v5, l9, v6, v7, rfl, q8⟩ ?_)))))))
 rintro m E W ⟨g, K, l1, d, c2, d7, c3, d8, d0, d9, g1, b1, g2, g3, k⟩
 let g6 := (IntKind.u64.wrap (wi0 .i64 (g + K)))
 let a3 := (Int.fdiv g6 (2 ^ min (Int.toNat 1) (IntKind.bits .u64)))
 let j2 := (wi0 .i64 a3)
 let a2 := (wi0 .i64 (e5 - g))
 cases m with
 | zero => rw [kP] at k; cases k
 | succ n4 =>
  refine jM (sg (Wh b1 (Wh g2 (Wi rfl (ln (CI k rfl (fun p6 k => ?_) (fun p6 k => ?_)))))))
  ·refine kn (bg (Wh b1 (Wh g2 (Wi rfl (V (ri (k' := .i64) (a := (wi0 .i64 (g + K))) er eV rfl) (V (Ia (a := g6) (b := 1) rfl rfl dc) (V (ri (k' := .u64) (a := (Int.fdiv g6 (2 ^ min (Int.toNat 1) (IntKind.bits .u64)))) eV er rfl) (Wa (ln (jM ?_))))))))))
   replace d := d.drew
   have n := d.has.jy (Kr Sn)
   refine kI n kl (X 0 rfl n (jH d0) (X 1 rfl n (jH c2) (X 2 rfl n (jH g3) (X 3 rfl n (jH rfl) (X 4 rfl n (kG rfl rfl rfl) (bS k fun z2 k1 k => XQ 5 rfl n (lu (i := (wi0 .i64 ((wi0 .i64 (e5 - 1)) - j2))) jx.out aD aB rfl rfl a5 (ky k1) (kv k1)) (fun ce ⟨_, ⟨y6, rfl, t0⟩, r9, al⟩ => XH 6 rfl n (fun _ L => jA rfl (kf (nC.hp _) (r9.mono (lR (fun b o O => L.2 b o (Ml O)))) aI aB)) (X 7 rfl n (jH c2) (X 8 rfl n (jH rfl) (bS k fun z3 k2 k => XQ 9 rfl n (lu (i := (wi0 .i64 a3)) jx.out aD aB rfl rfl a5 (ky k2) (kv k2)) (fun cf ⟨_, ⟨y7, rfl, t1⟩, s0, am⟩ => XH 10 rfl n (fun _ L => jA rfl (kf (nC.hp _) (s0.mono (lR (fun b o O => L.2 b o (Ml O)))) aI aB)) (bS k fun ch s2 k => ?_))))))))))))
   refine XE 11 rfl (vH (z2, z3) d c6 (kj.refl _) (ui.mk jF jF (jx.mk ⟨y6, rfl, t0⟩) (jx.mk ⟨y7, rfl, t1⟩) d.jB) rfl (uI rfl rfl) s2 (fun bk d => ?_))
   have n := d.has.jy (Kr Sn)
   refine ⟨n, (X 12 rfl n (kG rfl rfl rfl) (X 13 rfl n (mT rfl) (kT kr (jI (CI k rfl (fun p7 k => ?_) (fun p7 k => ?_))))))⟩
   ·exact jL (Wm (Wi rfl (Wa (kk (kA (jI ⟨n4, bG _, (wi0 .i64 (j2 + 1)), K, _, (d.jy St), c2, d7, c3, d8, d0, d9, g1, rfl, g2, g3, k⟩))))))
   exact jL (Wm (Wa (kk (kA (jI ⟨n4, bG _, g, j2, _, (d.jy St), c2, d7, c3, d8, d0, d9, g1, b1, rfl, g3, k⟩)))))
  refine mF (ml (ml (oU (jI (sg (Wh g1 (Wh b1 (Wi rfl (Wa (ln (jM (CJ k (fun n8 E W => ∃ b7 a4 l2, kj U a4 ∧ Lo (keys (c ++ [])) w U a4 ∧ ST false (keys (c ++ [])) w W a4 (b7 ++ l2) ∧ E 0 = t ∧ E 1 = (.int .i64 z) ∧ E 3 = (.int .i64 B) ∧ E 4 = D ∧ E 18 = (.int .i64 a1) ∧ E 20 = (.int .i64 g) ∧ E 24 = (.int .i64 a2) ∧ kK 30 jx 5 a4 t n8 b7) (fun n8 r2 => ?_) ?_))))))))))))
  ·refine sg (Wh b1 (Wh c3 (Wi rfl (Wm (LJ r2 (fun n9 E W => ∃ l6, ST false (keys (c ++ [])) w W U (c ++ l6) ∧ E 0 = t ∧ E 1 = (.int .i64 z) ∧ E 2 = (.int .i64 M) ∧ E 3 = (.int .i64 B) ∧ E 4 = D ∧ E 18 = (.int .i64 a1) ∧ E 20 = (.int .i64 g) ∧ E 24 = (.int .i64 a2) ∧ E 185 = (.bool n9)) 4 ?_ (fun n9 b4 f6 => ?_))))))
   ·rintro de E W ⟨l6, d, h4, m8, w7, m9, h5, n0, h6, h7, w8⟩ a8
    refine ln (CI a8 w8 (fun q0 a8 => ?_) (fun q0 a8 => ?_))
    ·refine jL (Wh h4 (Wh h6 (Wh w7 (Wh h7 (Wh h5 (bS a8 fun ck s5 a8 => ?_))))))
     refine VE (eD d (Cr Qz Cn) call389 (fun hh => lT.lE (yT t a0 c g M a2 D f4 _ _ hh a5 (c6.mono (kj.refl _)) s5)) ?_)
     rintro _ cv z5 ba d o2 cS ⟨u5, e8, rfl, t4⟩
     obtain rfl := e8.symm
     replace d := d.perm (Tr Tn)
     refine ln ?_
     have A := sj a8; subst A
     exact ⟨u5, z5, _, o2, cS, (d.jy St), h4, m8, m9, h5, n0, h6, h7, t4⟩
    refine kn ?_
    have A := sj a8; subst A
    exact ⟨c, U, _, (kj.refl _), Lo.refl, (d.jy St), h4, m8, m9, h5, n0, h6, h7, a5⟩
   refine bC b4 (fun J b4 => ?_) (fun J b4 => ?_)
   ·refine ug J (jH c3) (ug J (jH rfl) (ug J (kG rfl rfl rfl) (V (jS (cB J) rfl) ?_)))
    have A := sj b4; subst A
    exact f6 _ _ ⟨_, (d.jy St), c2, d7, c3, d8, d0, d9, b1, rfl, rfl⟩
   refine un J (un J (un J (V (jT (cB J) rfl) ?_)))
   have A := sj b4; subst A
   exact f6 _ _ ⟨_, (d.jy St), c2, d7, c3, d8, d0, d9, b1, rfl, rfl⟩
  rintro y0 E W ⟨b7, a4, l2, c4, R, d, m0, g4, m1, m2, g7, e0, m3, j3⟩ q9
  refine jM (CJ q9 (fun n6 E W => ∃ b9 c5 l3, kj a4 c5 ∧ Lo (keys (c ++ [])) w a4 c5 ∧ ST false (keys (c ++ [])) w W c5 (b9 ++ l3) ∧ E 0 = t ∧ E 3 = (.int .i64 B) ∧ E 4 = D ∧ E 18 = (.int .i64 a1) ∧ E 24 = (.int .i64 a2) ∧ kK 30 jx 5 c5 t n6 b9) (fun n6 r1 => ?_) ?_)
  ·refine sg (Wh g4 (Wh e0 (Wi rfl (Wm (LJ r1 (fun n7 E W => ∃ l5, ST false (keys (c ++ [])) w W a4 (b7 ++ l5) ∧ E 0 = t ∧ E 1 = (.int .i64 z) ∧ E 3 = (.int .i64 B) ∧ E 4 = D ∧ E 18 = (.int .i64 a1) ∧ E 20 = (.int .i64 g) ∧ E 24 = (.int .i64 a2) ∧ E 199 = (.bool n7)) 4 ?_ (fun n7 b3 f5 => ?_))))))
   ·rintro db E W ⟨l5, d, h1, w4, m6, h2, h3, w5, m7, w6⟩ a7
    refine ln (CI a7 w6 (fun p9 a7 => ?_) (fun p9 a7 => ?_))
    ·refine jL (Wh h1 (Wh w4 (Wh w5 (Wh h3 (Wh h2 (bS a7 fun cj s4 a7 => ?_))))))
     refine VE (eD d (Cr Qz Cn) call384 (fun hh => (s6 t y0 b7 z g a1 D f4 _ _ hh j3 (c6.mono c4) s4)) ?_)
     rintro _ cu z4 az d o1 bl ⟨u4, e7, rfl, t3⟩
     obtain rfl := e7.symm
     replace d := d.perm (Tr Tn)
     refine ln ?_
     have A := sj a7; subst A
     exact ⟨u4, z4, _, o1, bl, (d.jy St), h1, m6, h2, h3, m7, t3⟩
    refine kn ?_
    have A := sj a7; subst A
    exact ⟨b7, a4, _, (kj.refl _), Lo.refl, (d.jy St), h1, m6, h2, h3, m7, j3⟩
   refine bC b3 (fun I b3 => ?_) (fun I b3 => ?_)
   ·refine ug I (jH e0) (ug I (jH g7) (ug I (kG rfl rfl rfl) (V (jS (cB I) rfl) ?_)))
    have A := sj b3; subst A
    exact f5 _ _ ⟨_, (d.jy St), m0, g4, m1, m2, g7, e0, m3, rfl⟩
   refine un I (un I (un I (V (jT (cB I) rfl) ?_)))
   have A := sj b3; subst A
   exact f5 _ _ ⟨_, (d.jy St), m0, g4, m1, m2, g7, e0, m3, rfl⟩
  rintro y1 E W ⟨b9, c5, l3, d2, ad, d, m4, g8, m5, g9, e1, j4⟩ r0
  refine sg (Wh g9 (Wh e1 (Wi rfl (Wm (LJ r0 (fun n5 E W => ∃ l4, ST false (keys (c ++ [])) w W c5 (b9 ++ l4) ∧ E 0 = t ∧ E 3 = (.int .i64 B) ∧ E 4 = D ∧ E 18 = (.int .i64 a1) ∧ E 24 = (.int .i64 a2) ∧ E 213 = (.bool n5)) 4 ?_ (fun n5 b2 f3 => ?_))))))
  ·rintro da E W ⟨l4, d, v8, v9, w0, w1, w2, w3⟩ a6
   refine ln (CI a6 w3 (fun p8 a6 => ?_) (fun p8 a6 => ?_))
   ·refine jL (Wh v8 (Wh w1 (Wh w2 (Wh v9 (Wh w0 (bS a6 fun ci s3 a6 => ?_))))))
    refine VE (eD d (Cr Qz Cn) call384 (fun hh => (s6 t y1 b9 a1 a2 B D f4 _ _ hh j4 (c6.mono (c4.trans d2)) s3)) ?_)
    rintro _ ct df ay d o0 aE ⟨u3, e6, rfl, t2⟩
    obtain rfl := e6.symm
    replace d := d.perm (Tr Tn)
    refine kk (nQ ?_)
    have A := sj a6; subst A
    exact nr rfl ⟨_, _, _, rfl, (d.lO (Kr Sn)), ((c4.trans d2).trans o0), ((R.trans ad).trans aE), (ST.kR d (mB.mem (Kr Sn))), u3, rfl, rfl, t2⟩
   refine kX (nQ ?_)
   have A := sj a6; subst A
   exact nr rfl ⟨_, _, _, rfl, (d.lO (Kr Sn)), (c4.trans d2), (R.trans ad), (ST.kR d (mB.mem (Kr Sn))), b9, rfl, rfl, j4⟩
  refine bC b2 (fun H b2 => ?_) (fun H b2 => ?_)
  ·refine ug H (jH e1) (ug H (jH g8) (ug H (kG rfl rfl rfl) (V (jS (cB H) rfl) ?_)))
   have A := sj b2; subst A
   exact f3 _ _ ⟨_, (d.jy St), m4, g8, m5, g9, e1, rfl⟩
  refine un H (un H (un H (V (jT (cB H) rfl) ?_)))
  have A := sj b2; subst A
  exact f3 _ _ ⟨_, (d.jy St), m4, g8, m5, g9, e1, rfl⟩
theorem qh : ∀ (n : Nat) (c : Value) (k : List Formula) (a : LO) (t : Int) (u : Int) (x : Int) (g : Value) (y : (Formula × Formula) → Option Int) (r : List Formula) (w : World) {i : km} (H : ni i (a ++ []) w) (B : kK 30 jx 5 i c k a) (D : uc pg0 g i (ui jx jx) (fun (r : Int) => (.int .i64 r)) y) (_ : lD n k t u x y = some r),
  lT false pg0 384 [c, (.int .i64 t), (.int .i64 u), (.int .i64 x), g] w i (a ++ []) (fun v z G => ∃ j, v = (.tuple #[]) ∧ z = (j ++ []) ∧ kK 30 jx 5 G c r j)
 | 0 => by intros; rename_i h; simp only [lD] at h; cases h
 | n + 1 => wL (lD n) (qh n)
theorem zi (a : Value) (a0 : List Formula) (c : LO) (Q : Int) (x : Value) (f2 : (Formula × Formula) → Option Int) (r : List Formula) (w : World) {μ0 : km} (h0 : ni μ0 (c ++ []) w) (k4 : kK 30 jx 5 μ0 a a0 c) (c7 : uc pg0 x μ0 (ui jx jx) (fun (r : Int) => (.int .i64 r)) f2) (hm : qT a0 Q f2 = some r) :
  lT false pg0 375 [a, (.int .i64 Q), x] w μ0 (c ++ []) (fun v L1 μ1 => ∃ S1, v = (.tuple #[]) ∧ L1 = (S1 ++ []) ∧ kK 30 jx 5 μ1 a r S1) := by
 refine uW h0 63 func375 rfl (fun b => sg (Wa (lr (Wm (Wa (Wa (ln (jM (kZ (mG (fun m E W => ∃ d4 d0 d5 b1 d6 f1, kj μ0 d6 ∧ Lo (keys (c ++ [])) w μ0 d6 ∧ ST false (keys (c ++ [])) w W d6 (d0 ++ f1) ∧ E 0 = a ∧ E 1 = (.int .i64 Q) ∧ E 2 = x ∧ E 6 = (.int .i64 20) ∧ E 7 = (.int .i64 d5) ∧ E 8 = (.int .i64 b1) ∧ kK 30 jx 5 d6 a d4 d0 ∧ lY Q f2 m d4 d5 b1 = some r) ki ⟨a0, c, 0, 20, μ0, _, (kj.refl _), Lo.refl, (b.jy St), rfl, rfl, rfl, rfl, rfl, rfl, k4, hm⟩ ?_))))))))))
 rintro m E W ⟨d4, d0, d5, b1, d6, f1, z, l, b, b4, b5, b6, d7, f4, b7, h1, i⟩
 cases m with
 | zero => rw [lY] at i; cases i
 | succ k5 =>
  refine jM (sg (Wh b7 (Wh b5 (Wi rfl (ln (CI i rfl (fun i4 i => ?_) (fun i4 i => ?_)))))))
  ·refine kn (bg (Wh b4 (Wh f4 (Wh b7 (Wh b6 (bS i fun k6 i7 i => ?_))))))
   refine VE (eD b (Cr Qz Cn) call383 (fun O => (rN a d4 d0 d5 b1 x f2 _ _ O h1 (c7.mono z) i7)) ?_)
   rintro _ m4 k8 l8 b g0 P ⟨k1, c8, rfl, j0⟩
   obtain rfl := c8.symm
   replace b := b.perm (Tr Tn)
   refine lr (Wh b7 (Wa (ln (jL (Wh b7 (Wh d7 (Wi rfl (Wa (kk (kA ?_))))))))))
   exact jI ⟨k5, bG _, k6, k1, b1, (wi0 .i64 (b1 + 20)), k8, _, (z.trans g0), (l.trans P), (b.jy St), b4, b5, b6, d7, rfl, rfl, j0, i⟩
  refine mF (ml (ml (oU (jI (sg (Wh b4 (Wh f4 (Wh b5 (Wh b6 (bS i fun k7 i8 i => ?_))))))))))
  refine VE (eD b (Cr Qz Cn) call383 (fun O => (rN a d4 d0 d5 Q x f2 _ _ O h1 (c7.mono z) i8)) ?_)
  rintro _ m5 a8 l9 b a5 R ⟨k2, c9, rfl, j3⟩
  obtain rfl := c9.symm
  replace b := b.perm (Tr Tn)
  refine ln (pk (CJ i (fun d8 E W => ∃ b2 a9 f3, kj a8 a9 ∧ Lo (keys (c ++ [])) w a8 a9 ∧ ST false (keys (c ++ [])) w W a9 (b2 ++ f3) ∧ kK 30 jx 5 a9 a d8 b2) (fun d8 i6 => ?_) ?_))
  ·refine kZ (mG (fun m E W => ∃ a2 I j k e0, kj a8 k ∧ Lo (keys (c ++ [])) w a8 k ∧ ST false (keys (c ++ [])) w W k (I ++ e0) ∧ E 0 = a ∧ E 1 = (.int .i64 Q) ∧ E 2 = x ∧ E 6 = (.int .i64 j) ∧ kK 30 jx 5 k a a2 I ∧ lX Q f2 m a2 j = some d8) ki ⟨k7, k2, 20, a8, _, (kj.refl _), Lo.refl, (b.jy St), b4, b5, b6, d7, j3, i6⟩ ?_)
   rintro m E W ⟨a2, I, j, k, e0, B, d, b, h6, e4, h7, b3, d1, t⟩
   cases m with
   | zero => rw [lX] at t; cases t
   | succ j6 =>
    refine jM (sg (Wh b3 (Wh e4 (Wi rfl (ln (CI t rfl (fun f7 t => ?_) (fun f7 t => ?_)))))))
    ·refine kn (bg (Wh b3 (Wi rfl (Wa (Wa (ln (jM (CJ t (fun a4 E W => ∃ J y e1, kj k y ∧ Lo (keys (c ++ [])) w k y ∧ ST false (keys (c ++ [])) w W y (J ++ e1) ∧ E 0 = a ∧ E 1 = (.int .i64 Q) ∧ E 2 = x ∧ E 6 = (.int .i64 j) ∧ E 7 = (.int .i64 a4.2) ∧ kK 30 jx 5 y a a4.1 J) (fun a4 g4 => ?_) ?_))))))))
     ·refine kZ (mG (fun m E W => ∃ a3 K M D H e3, kj k H ∧ Lo (keys (c ++ [])) w k H ∧ ST false (keys (c ++ [])) w W H (K ++ e3) ∧ E 0 = a ∧ E 1 = (.int .i64 Q) ∧ E 2 = x ∧ E 6 = (.int .i64 j) ∧ E 7 = (.int .i64 M) ∧ E 8 = (.int .i64 D) ∧ kK 30 jx 5 H a a3 K ∧ mw Q j f2 m a3 M D = some a4) ki ⟨a2, I, 0, (wi0 .i64 (2 * j)), k, _, (kj.refl _), Lo.refl, (b.jy St), h6, e4, h7, b3, rfl, rfl, d1, g4⟩ ?_)
      rintro m E W ⟨a3, K, M, D, H, e3, N, h, b, c2, c3, c4, Y, c5, Z, d3, g⟩
      cases m with
      | zero => rw [mw] at g; cases g
      | succ j7 =>
       refine jM (sg (Wh Z (Wh c3 (Wi rfl (ln (CI g rfl (fun f9 g => ?_) (fun f9 g => ?_)))))))
       ·refine kn (bg (Wh c2 (Wh c5 (Wh c5 (Wh Y (Wi rfl (Wh Z (Wh c4 (bS g fun j8 g8 g => ?_)))))))))
        refine VE (eD b (Cr Qz Cn) call384 (fun O => ((qh ki) a a3 K M (wi0 .i64 (M + j)) D x f2 _ _ O d3 (c7.mono (((z.trans a5).trans B).trans N)) g8)) ?_)
        rintro _ l6 k0 l1 b f0 L ⟨h5, a7, rfl, h3⟩
        obtain rfl := a7.symm
        replace b := b.perm (Tr Tn)
        refine lr (Wh Z (Wa (ln (jL (Wh Z (Wh Y (Wi rfl (Wi rfl (Wa (kk ?_))))))))))
        exact kA (jI ⟨j7, bG _, j8, h5, D, (wi0 .i64 (D + (wi0 .i64 (2 * j)))), k0, _, (N.trans f0), (h.trans L), (b.jy St), c2, c3, c4, Y, rfl, rfl, h3, g⟩)
       refine mF (ml (ml (oU (jI ?_))))
       obtain rfl := sj g
       exact ⟨K, H, _, N, h, (b.jy St), c2, c3, c4, Y, c5, d3⟩
     rintro ⟨j4, e7⟩ E W ⟨J, y, e1, b0, n, b, b9, U, c0, c1, e5, d2⟩ g2
     refine jM (CJ g2 (fun e6 E W => ∃ T G e2, kj y G ∧ Lo (keys (c ++ [])) w y G ∧ ST false (keys (c ++ [])) w W G (T ++ e2) ∧ E 0 = a ∧ E 1 = (.int .i64 Q) ∧ E 2 = x ∧ E 6 = (.int .i64 j) ∧ kK 30 jx 5 G a e6 T) (fun e6 u => ?_) ?_)
     ·refine sg (Wh e5 (Wh c1 (Wi rfl (Wa (lr (Wm (Wh U (Wi rfl (ln ?_)))))))))
      refine CI u rfl (fun f8 u => ?_) (fun f8 u => ?_)
      ·refine jL (Wh b9 (Wh e5 (Wm (Wh U (Wh c0 (bS u fun l4 g7 u => ?_))))))
       refine VE (eD b (Cr Qz Cn) call384 (fun O => ((qh ki) a j4 J e7 (wi0 .i64 (e7 + j)) Q x f2 _ _ O d2 (c7.mono (((z.trans a5).trans B).trans b0)) g7)) ?_)
       rintro _ l5 j9 l0 b e9 A ⟨h4, a6, rfl, h2⟩
       obtain rfl := a6.symm
       replace b := b.perm (Tr Tn)
       refine ln ?_
       obtain rfl := sj u
       exact ⟨h4, j9, _, e9, A, (b.jy St), b9, U, c0, c1, h2⟩
      refine kn ?_
      obtain rfl := sj u
      exact ⟨J, y, _, (kj.refl _), Lo.refl, (b.jy St), b9, U, c0, c1, d2⟩
     rintro j5 E W ⟨T, G, e2, e8, p, b, h8, h9, i0, i1, g9⟩ g3
     exact jL (Wh i1 (Wi rfl (Wa (kk (kA (jI ⟨j6, bG _, j5, T, (wi0 .i64 (j * 2)), G, _, ((B.trans b0).trans e8), ((d.trans n).trans p), (b.jy St), h8, h9, i0, rfl, g9, g3⟩))))))
    refine mF (ml (ml (oU (jI ?_))))
    obtain rfl := sj t
    exact ⟨I, k, _, B, d, (b.jy St), d1⟩
  rintro m3 E W ⟨b2, a9, f3, g1, a1, b, i9⟩ i5
  refine nQ ?_
  obtain rfl := sj i5
  exact nr rfl ⟨_, _, _, rfl, (b.lO (Kr Sn)), ((z.trans a5).trans g1), ((l.trans R).trans a1), (ST.kR b (mB.mem (Kr Sn))), b2, rfl, rfl, i9⟩
theorem yN (c : Value) (k : List Formula) (a : LO) (i : Value) (u : (Formula × Formula) → Option Int) (r : List Formula) (w : World) {t : km} (J : ni t (a ++ []) w) (j : kK 30 jx 5 t c k a) (x : uc pg0 i t (ui jx jx) (fun (r : Int) => (.int .i64 r)) u) (hm : oB k u = some r) :
  lT false pg0 352 [c, i] w t (a ++ []) (fun v I K => ∃ B, v = (.tuple #[]) ∧ I = (B ++ []) ∧ kK 30 jx 5 K c r B) := by
 refine uW J 9 func352 rfl (fun b => jL (Wm (Wm (V (so aD rfl j) (Wm (bS hm fun Q H hm => ?_))))))
 refine VE (eD b (Cr Qz Cn) call375 (fun h => (zi c k a (k.length : Int) i u _ _ h j (x.mono (kj.refl _)) H)) ?_)
 rintro _ T U M b y d ⟨D, g, rfl, z⟩
 obtain rfl := g.symm
 replace b := b.perm (Tr Tn)
 refine kk (nQ ?_)
 obtain rfl := sj hm
 exact nr rfl ⟨_, _, _, rfl, (b.lO (Kr Sn)), y, d, (ST.kR b (mB.mem (Kr Sn))), D, rfl, rfl, z⟩
theorem D1 (O : (List Int) → Formula → Option (List Int)) (f2 : ∀ (a : Nat) (k : Value) (B : List Int) (g : LO) (j : Formula) (u : Value) (r : List Int) (w : World) {μ0 : km} (h0 : ni μ0 ((a, Ob #[k] 215) :: (g ++ [])) w) (T : jZ 5 (kN .u8) 1 k B g) (t : Sl jx 5 μ0 u j.Kids), O B j = some r → kY false pg0 390 [(.pointer (some ⟨a, 0, none⟩)), (.agg #[(.int .i64 j.Op), (.int .i64 j.K), (.string j.ju.jw), (.string j.ju.Word), u])] w ((a, Ob #[k] 215) :: (g ++ [])) (fun v L1 W' => ∃ m S2, v = (.tuple #[]) ∧ L1 = ((a, Ob #[m] 215) :: (S2 ++ [])) ∧ jZ 5 (kN .u8) 1 m r S2)) (a : Nat) (k : Value) (B : List Int) (g : LO) (j : Formula) (u : Value) (r : List Int) (w : World) {μ0 : km} (h0 : ni μ0 ((a, Ob #[k] 215) :: (g ++ [])) w) (T : jZ 5 (kN .u8) 1 k B g) (t : Sl jx 5 μ0 u j.Kids) (hm : vK O B j = some r) :
  kY false pg0 390 [(.pointer (some ⟨a, 0, none⟩)), (.agg #[(.int .i64 j.Op), (.int .i64 j.K), (.string j.ju.jw), (.string j.ju.Word), u])] w ((a, Ob #[k] 215) :: (g ++ [])) (fun v L1 W' => ∃ m S2, v = (.tuple #[]) ∧ L1 = ((a, Ob #[m] 215) :: (S2 ++ [])) ∧ jZ 5 (kN .u8) 1 m r S2) := by
 let b0 := ((a, Ob #[k] 215) :: (g ++ []))
 refine wB h0 40 func390 rfl (fun b => sg ?_)
 obtain ⟨A1, c2, rfl⟩ := t.form
 refine VE (kd b rfl (fun W4 b3 b => lr (Wm (Wf nq (VB b Mh rfl rfl bY (bS hm fun r5 g8 hm => ?_))))))
 refine VE (eM b (Cb (Pb Pz) (Cr (Qb Qz) Cn)) call170 (fun l _ => kY.lE (rp a k B g j.Op _ _ l T g8)) ?_)
 rintro _ j8 n j0 b e9 af d ⟨P, a9, a2, rfl, a5⟩
 obtain rfl := a2.symm
 replace b := b.perm (Tb (Tr Tn))
 refine lS (Wf nq (VB b (Mt (Ma Mh)) rfl rfl bY (Wi rfl (ln (CI hm rfl (fun e8 hm => ?_) (fun e8 hm => ?_))))))
 ·refine sg (Wm (Wf tJ (VA b (Mt (Ma Mh)) (jE j.ju) bn aN (bS hm fun j7 f0 hm => ?_))))
  refine VE (eM b (Cb Pz (Cr Qz Cn)) call212 (fun l _ => kY.lE (vu a P r5.2 a9 j.ju _ _ l a5 f0)) ?_)
  rintro _ j9 k1 j3 b h6 ag d ⟨h3, g2, a3, rfl, f4⟩
  obtain rfl := a3.symm
  replace b := b.perm (Tb (Tr Tn))
  refine ln ?_
  replace b := b.jy (Kb (Kr (Db St)))
  refine kh (kw ?_)
  obtain rfl := sj hm
  exact nr rfl ⟨_, _, rfl, (b.lO (Kb (Kr Sn))), h3, g2, rfl, rfl, f4⟩
 refine kn (jM (CJ hm (fun b5 E W => ∃ A p R d6, kj n R ∧ ST false (keys b0) w W R ((a, Ob #[A] 215) :: ((b3, Ol (C1 j.Op j.K j.ju.jw j.ju.Word A1 j.Kids.length c2) 30) :: (p ++ d6))) ∧ E 0 = (.pointer (some ⟨a, 0, none⟩)) ∧ E 3 = (.pointer (some ⟨b3, 0, none⟩)) ∧ jZ 5 (kN .u8) 1 A b5 p) (fun b5 y => ?_) ?_))
 ·refine sg (Wf nq (VB b (Mt (Ma Mh)) rfl rfl bY (Wi rfl (ln (CI y rfl (fun c4 y => ?_) (fun c4 y => ?_))))))
  ·refine jL (Wm (Wf rr (VB b (Mt (Ma Mh)) rfl rfl bY (bS y fun i6 d0 y => ?_))))
   refine VE (eM b (Cb Pz (Cr Qz Cn)) call170 (fun l _ => kY.lE (rp a P r5.2 a9 j.K _ _ l a5 d0)) ?_)
   rintro _ i9 g1 h9 b b2 ad d ⟨f9, e3, N, rfl, d5⟩
   obtain rfl := N.symm
   replace b := b.perm (Tb (Tr Tn))
   refine ln ?_
   obtain rfl := sj y
   exact ⟨f9, e3, g1, _, b2, (b.jy (Kb (Sb (Pr Pz) St))), rfl, rfl, d5⟩
  refine kn ?_
  obtain rfl := sj y
  exact ⟨P, a9, n, _, (kj.refl _), (b.jy (Kb (Sb (Pr Pz) St))), rfl, rfl, a5⟩
 rintro g9 E W ⟨A, p, R, d6, c6, b, d7, d8, f3⟩ a0
 refine sg (Wh d7 (V (jG np d8) (VB b (Mt Mh) rfl rfl dJ (V (kU aD rfl t) (bS a0 fun h2 f1 a0 => ?_)))))
 refine VE (eM b (Cb Pz (Cr (Qb Qz) Cn)) call170 (fun l _ => kY.lE (rp a A g9 p (j.Kids.length : Int) _ _ l f3 f1)) ?_)
 rintro _ k0 d9 j4 b c7 ah d ⟨h4, g3, a4, rfl, f5⟩
 obtain rfl := a4.symm
 replace b := b.perm (Tb (Tr Tn))
 refine lr (V (jG np d8) (VB b (Mt (Ma Mh)) rfl rfl dJ (V (kU aD rfl t) (Wm (ln ?_)))))
 replace b := b.jy (Kb (Kr (Db St)))
 refine pk (kC (fun i E W => ∃ D H z Q U, (E 32 = .int .i64 (i : Nat) ∧ E 31 = .int .i64 (j.Kids.length : Nat)) ∧ kj d9 Q ∧ ST false (keys b0) w W Q ((a, Ob #[D] 215) :: (z ++ U)) ∧ E 0 = (.pointer (some ⟨a, 0, none⟩)) ∧ E 30 = (.slice A1 j.Kids.length c2) ∧ jZ 5 (kN .u8) 1 D H z ∧ qn O (j.Kids.drop i) H = some r) j.Kids.length t.len ⟨h4, h2.2, g3, d9, _, ⟨rfl, rfl⟩, (kj.refl _), (b.jy St), d7, rfl, f5, a0⟩ dc dc dc (fun _ _ _ h => by obtain ⟨_, _, _, _, _, aa, _⟩ := h; exact aa) ?_ ?_)
 ·rintro f6 E W c5 ⟨D, H, z, Q, U, ⟨eI, eN⟩, G, b, Y, Z, K, x⟩
  obtain ⟨c, h7, d2, d1, d3⟩ := kp c5
  rw [d2] at x
  refine bg (VQ (lU (i := (f6 : Int)) (x0 := c) jx.out aD aB Z eI (t.mono jF.mono (((e9.trans c6).trans c7).trans G)) (aG _) d1) (fun i5 ⟨_, ⟨i7, rfl, a7⟩, c8⟩ => V (jA rfl (kf b.has c8 aI aB)) (VE (ku b aO (fun i0 i4 b => ?_)))))
  obtain ⟨I, J, rfl⟩ := a7.form
  let L := (C1 c.Op c.K c.ju.jw c.ju.Word I c.Kids.length J)
  refine VO (jR (.agg L.toArray) (L.toArray) b rfl rfl aB oc nb rfl (fun i1 b => ln (jL (Wh Y (VA b Mh L aI aB (bS x fun f7 c9 x => ?_))))))
  refine VE (eM b (Cb (Pb Pz) (Cr (Qb Qz) Cn)) call390 (fun l ae => (f2 a D H z c (.slice I c.Kids.length J) _ _ l K (a7.mono jF.mono ae) c9)) ?_)
  rintro _ i8 g0 h8 b b1 ab d ⟨f8, e2, M, rfl, d4⟩
  obtain rfl := M.symm
  replace b := b.perm (Tb (Tr Tn))
  refine kk (kA (jI ?_))
  replace b := b.jy (Kb (Kr (Db St)))
  exact ⟨eI, f8, f7, e2, g0, _, ⟨rfl, eN⟩, (G.trans b1), (b.jy St), Y, Z, d4, (by rw [d3]; exact x)⟩
 rintro E W ⟨D, H, z, Q, U, ⟨eI, eN⟩, G, b, Y, Z, K, x⟩
 rw [aH] at x
 refine jI (nQ ?_)
 obtain rfl := sj x
 exact nr rfl ⟨_, _, rfl, (b.lO (Kb (Kr Sn))), D, z, rfl, rfl, K⟩
theorem Cg : ∀ (n : Nat) (i : Nat) (g : Value) (k : List Int) (c : LO) (j : Formula) (a : Value) (r : List Int) (w : World) {z : km} (D : ni z ((i, Ob #[g] 215) :: (c ++ [])) w) (x : jZ 5 (kN .u8) 1 g k c) (t : Sl jx 5 z a j.Kids) (_ : pI n k j = some r),
  kY false pg0 390 [(.pointer (some ⟨i, 0, none⟩)), (.agg #[(.int .i64 j.Op), (.int .i64 j.K), (.string j.ju.jw), (.string j.ju.Word), a])] w ((i, Ob #[g] 215) :: (c ++ [])) (fun v B W' => ∃ y u, v = (.tuple #[]) ∧ B = ((i, Ob #[y] 215) :: (u ++ [])) ∧ jZ 5 (kN .u8) 1 y r u)
 | 0 => by intros; rename_i h; simp only [pI] at h; cases h
 | n + 1 => D1 (pI n) (Cg n)
theorem HG (k : Nat) (i : Value) (u : List Int) (c : LO) (a : Formula) (j : Value) (r : (Bool × (List Int))) (w : World) {Q : km} (Y : ni Q ((k, Ob #[i] 215) :: (c ++ [])) w) (t : jZ 5 (kN .u8) 1 i u c) (g : Sl jx 5 Q j a.Kids) (hm : wE u a = some r) :
  kY false pg0 385 [(.pointer (some ⟨k, 0, none⟩)), (.agg #[(.int .i64 a.Op), (.int .i64 a.K), (.string a.ju.jw), (.string a.ju.Word), j])] w ((k, Ob #[i] 215) :: (c ++ [])) (fun v U W' => ∃ M I, v = (.bool (r.1)) ∧ U = ((k, Ob #[M] 215) :: (I ++ [])) ∧ jZ 5 (kN .u8) 1 M r.2 I) := by
 refine wB Y 15 func385 rfl (fun b => sg ?_)
 obtain ⟨y, z, rfl⟩ := g.form
 let B := (C1 a.Op a.K a.ju.jw a.ju.Word y a.Kids.length z)
 refine VE (kd b rfl (fun W4 n b => Wa (lS (Wm (V (uH fU rfl rfl) (Wm (Vg rfl rfl (jA rfl (jD b.has Mh B rfl aI aB)) (bS hm fun p K hm => OO rfl rfl (Eg b call129 (wz a (.slice y a.Kids.length z) _ _ (g.mono jF.mono b.jB) K) (fun W7 b => Vg rfl rfl (mT rfl) (V (jT rfl rfl) ?_)))))))))))
 refine ln (CI hm rfl (fun J hm => ?_) (fun J hm => ?_))
 ·refine sg (Wa (ln ?_))
  replace b := b.jy (Db St)
  refine kh (kw ?_)
  obtain rfl := sj hm
  exact lB (v := (.bool false)) rfl rfl ⟨_, _, rfl, (b.lO (Kb (Kr Sn))), i, c, rfl, rfl, t⟩
 refine kg (Wm (VA b Mh B aI aB (bS hm fun A D hm => ?_)))
 refine VE (eM b (Cb (Pb Pz) (Cr (Qb Qz) Cn)) call390 (fun m h => ((Cg ki) k i u c a (.slice y a.Kids.length z) _ _ m t (g.mono jF.mono h) D)) ?_)
 rintro _ a2 a3 Z b T l d ⟨N, H, x, rfl, G⟩
 obtain rfl := x.symm
 replace b := b.perm (Tb (Tr Tn))
 refine ln ?_
 replace b := b.jy (Kb (Kr (Db St)))
 refine sg (Wa (lt ?_))
 obtain rfl := sj hm
 exact lB (v := (.bool true)) rfl rfl ⟨_, _, rfl, (b.lO (Kb (Kr Sn))), N, H, rfl, rfl, G⟩
theorem AN (a : Formula) (g : Value) (r : List Int) (w : World) (c : Sl jx 5 (hp w) g a.Kids) (hm : sX a = some r) :
  lV false pg0 376 [(.agg #[(.int .i64 a.Op), (.int .i64 a.K), (.string a.ju.jw), (.string a.ju.Word), g])] w 5 (kN .u8) 1 r := by
 refine vi 11 func376 rfl (fun d => sg ?_)
 obtain ⟨k, t, rfl⟩ := c.form
 refine VE (kd d rfl (fun W4 E d => Wa (lr (V (lC (v := (.agg #[(.slice none 0 0)])) qt (kW zeroValue215 fT (Qv _ fT) kr)) (VE (kd d rfl (fun W6 B d => Wa (lr (Wm (VA d (Mt Mh) (C1 a.Op a.K a.ju.jw a.ju.Word k a.Kids.length t) aI aB ?_))))))))))
 refine bS hm fun K D hm => ?_
 refine VE (eM d (Cb Pz (C0 Cn)) call385 (fun A m => (HG B (.slice none 0 0) ([]) [] a (.slice k a.Kids.length t) _ _ A (jZ.nil _ _ _) (c.mono jF.mono m) D)) ?_)
 rintro _ U Y M d I n h ⟨H, N, i, rfl, y⟩
 obtain rfl := i.symm
 replace d := d.perm (Tb (Tr Tn))
 refine ln ?_
 replace d := d.jy (Kb (Kr (Db St)))
 refine sg (Wm (bS hm fun T x hm => VE (tU d call173 (lV.lE (Br B H K.2 _ _ (y.sl (fun _ => rfl) (fun b o l => d.at_ (Mt (Ml l)))) (At.of (d.at_ Mh) _ rfl) x)) (fun Q G Z z d J u j => Wa (ln ?_)))))
 replace d := d.jy (Kr (Db (Dr St)))
 refine kh ?_
 obtain rfl := sj hm
 exact lB (v := G) rfl rfl ⟨_, z, rfl, d.nM (fun p l => (Ml l)) j.nd, j⟩
theorem F5 (a : Formula) (j : Value) (c : Formula) (k : Value) (r : Int) (w : World) (g : Sl jx 5 (hp w) j a.Kids) (i : Sl jx 5 (hp w) k c.Kids) (hm : sU a c = some r) :
  jV false pg0 353 [(.agg #[(.int .i64 a.Op), (.int .i64 a.K), (.string a.ju.jw), (.string a.ju.Word), j]), (.agg #[(.int .i64 c.Op), (.int .i64 c.K), (.string c.ju.jw), (.string c.ju.Word), k])] w (.int .i64 r) := by
 refine cG 10 func353 rfl (fun d => sg ?_)
 obtain ⟨x, z, rfl⟩ := g.form
 refine VE (kd d rfl (fun W4 v d => ?_))
 obtain ⟨y, B, rfl⟩ := i.form
 refine VE (kd d rfl (fun W8 A d => Wa (ln (jM ?_))))
 replace d := d.drew
 have h := d.has.jy (Kb (Kb Sn))
 refine kI h kl (XH 0 rfl h (fun _ l => jA rfl (jD l (Mt Mh) (C1 a.Op a.K a.ju.jw a.ju.Word x a.Kids.length z) rfl aI aB)) (XH 2 rfl h (fun _ l => jA rfl (jD l Mh (C1 c.Op c.K c.ju.jw c.ju.Word y c.Kids.length B) rfl aI aB)) (bS hm fun K H hm => XE 1 rfl (tU d call376 (AN a (.slice x a.Kids.length z) _ _ (g.mono jF.mono d.jB) H) (fun Y N a4 T d t n D => ?_)))))
 have h := d.has.wV t (Dr (Kb (Kb Sn)))
 refine ⟨h, (bS hm fun M I hm => XE 3 rfl (tU d call376 (AN c (.slice y c.Kids.length B) _ _ (i.mono jF.mono (t.trans d.jB)) I) (fun Z Q a5 U d u p G => ?_)))⟩
 have h := d.has.wV (t.trans u) (Dr (Dr (Kb (Kb Sn))))
 refine ⟨h, (bS hm fun a3 J hm => XE 4 rfl (Eg d call151 (jV.lE (B3 N K Q M _ _ (D.sl (fun _ => rfl) (fun b o m => d.at_ (Ma (Ml m)))) (G.sl (fun _ => rfl) (fun b o m => d.at_ (Ml m))) J)) (fun a2 d => ?_)))⟩
 have h := d.has.wV (t.trans u) (Dr (Dr (Kb (Kb Sn))))
 refine ⟨h, (X 5 rfl h (mP rfl) (kT kr (jI ?_)))⟩
 exact kh (rQ hm d)
theorem Dd (g : Value) (k r : List Formula) (w : World) {G : km} (Y : ni G [] w) (u : Sl jx 5 G g k) (hm : vq k = some r) :
  lT false pg0 299 [g] w G [] (fun v U μ1 => ∃ T I, v = T ∧ U = (I ++ []) ∧ kK 30 jx 5 μ1 T r I) := by
 refine uW Y 9 func299 rfl (fun b => sg (Wa (lr (Wm (bS hm fun Z Q hm => ?_)))))
 refine VE (eD b (bT _) call351 (fun h => lT.lE (Cv g k _ _ h (u.mono jF.mono (kj.refl _)) Q)) ?_ (L0 := []))
 rintro _ v7 A L9 b y l ⟨i, H, a, rfl, B⟩
 obtain rfl := a.symm
 replace b := b.perm (Tr Tn)
 refine Wa (lr (Wm (bS hm fun a5 z hm => ?_)))
 refine VE (eD b (Cr Qz Cn) call352 (fun h => (yN i Z H (.func (.func 353) #[] #[]) (fun (x : (Formula × Formula)) => sU x.1 x.2) _ _ h B ⟨353, #[], #[], rfl, call353, fun W x vs r O m hm => by obtain ⟨_, _, rfl, M, N⟩ := m; obtain ⟨t, rfl, p⟩ := M.out; obtain ⟨t0, rfl, n⟩ := N.out; exact F5 x.1 t x.2 t0 r W p n hm⟩ z)) ?_)
 rintro _ E L a3 b j d ⟨J, c, rfl, D⟩
 obtain rfl := c.symm
 replace b := b.perm (Tr Tn)
 refine lr (Wm (Wa (lt ?_)))
 obtain rfl := sj hm
 exact lB (v := i) rfl rfl ⟨_, _, _, rfl, (b.lO (Kr Sn)), (y.trans j), (l.trans d), (ST.kR b (mB.mem (Kr Sn))), i, J, rfl, rfl, D⟩
theorem zU (g : Value) (a0 : List Formula) (x : LO) (Z : Value) (f1 : (Formula × Formula) → Option Bool) (r : List Formula) (w : World) {μ0 : km} (h0 : ni μ0 (x ++ []) w) (B : kK 30 jx 5 μ0 g a0 x) (d2 : uc pg0 Z μ0 (ui jx jx) (fun (r : Bool) => (.bool r)) f1) (hm : po a0 f1 = some r) :
  lT false pg0 302 [g, Z] w μ0 (x ++ []) (fun v L1 μ1 => ∃ y1, v = y1 ∧ L1 = [] ∧ Sl jx 5 μ1 y1 (r)) := by
 refine uW h0 66 func302 rfl (fun d => sg (Wa (lS (Wm (V (so aD rfl B) (Wi rfl (ln (CI hm rfl (fun i3 hm => ?_) (fun i3 hm => ?_)))))))))
 ·refine sg (Wm (Wa (lt (kw ?_))))
  obtain rfl := sj hm
  refine lB (v := g) rfl rfl ?_
  obtain ⟨a1, d, i2, O, j0⟩ := ST.uf jF d B
  exact ⟨_, _, _, rfl, (d.lO Sn), i2, O, (ST.kR d (mB.mem Sn)), g, rfl, rfl, j0⟩
 refine kS (Wa (ln (kZ (mG (fun m E W => ∃ t b7, ST false (keys (x ++ [])) w W μ0 (x ++ b7) ∧ E 0 = g ∧ E 1 = Z ∧ E 5 = (.int .i64 t) ∧ mH a0 f1 m t = some r) ki ⟨1, _, (d.jy St), rfl, rfl, rfl, hm⟩ ?_))))
 rintro m E W ⟨t, b7, d, y, a3, G, a⟩
 cases m with
 | zero => rw [mH] at a; cases a
 | succ h1 =>
  refine jM (sg (Wh G (Wh y (V (so aD rfl B) (Wi rfl (ln (CI a rfl (fun d3 a => ?_) (fun d3 a => ?_))))))))
  ·refine kn (jM (kZ (jM ?_)))
   replace d := d.drew
   have h := d.has.jy (Kr Sn)
   refine kI h kl (X 0 rfl h (jH a3) (X 1 rfl h (jH y) (X 2 rfl h (jH G) (bS a fun h7 b2 a => XQ 3 rfl h (lu (i := t) jx.out aD aB rfl rfl B (ky b2) (kv b2)) (fun k1 ⟨_, ⟨h3, rfl, e7⟩, e0, i4⟩ => XH 4 rfl h (fun _ A => jA rfl (kf (nC.hp _) (e0.mono (lR (fun b o p => A.2 b o (Ml p)))) aI aB)) (X 5 rfl h (jH y) (X 6 rfl h (jH G) (X 7 rfl h (kG rfl rfl rfl) (bS a fun h8 b3 a => XQ 8 rfl h (lu (i := (wi0 .i64 (t - 1))) jx.out aD aB rfl rfl B (ky b3) (kv b3)) (fun k2 ⟨_, ⟨h4, rfl, e8⟩, e1, i5⟩ => XH 9 rfl h (fun _ A => jA rfl (kf (nC.hp _) (e1.mono (lR (fun b o p => A.2 b o (Ml p)))) aI aB)) (bS a fun k7 e5 a => XE 10 rfl (vH (h7, h8) d d2 (kj.refl _) (ui.mk jF jF (jx.mk ⟨h3, rfl, e7⟩) (jx.mk ⟨h4, rfl, e8⟩) d.jB) rfl (uI rfl rfl) e5 (fun j6 d => ?_)))))))))))))
   have h := d.has.jy (Kr Sn)
   refine ⟨h, (kT kr (jI (CI a rfl (fun d4 a => ?_) (fun d4 a => ?_))))⟩
   ·refine sg (Wh y (Wh G (bS a fun _ P a => VQ (Bp (i := t) aD aB rfl rfl B (vL P) (vE P)) (fun c4 K => Wa (lS (Wa (ln ?_)))))))
    refine CJ a (fun T E W => ∃ a2 b9, ST false (keys (x ++ [])) w W μ0 (a2 ++ b9) ∧ E 0 = g ∧ E 5 = (.int .i64 T.2) ∧ kK 30 jx 5 μ0 g T.1 a2) (fun T d8 => ?_) ?_
    ·refine kZ (mG (fun m E W => ∃ a5 J U u c0, ST false (keys (x ++ [])) w W μ0 (J ++ c0) ∧ E 0 = g ∧ E 1 = Z ∧ E 5 = (.int .i64 U) ∧ E 6 = c4 ∧ E 7 = (.int .i64 u) ∧ kK 30 jx 5 μ0 g a5 J ∧ mJ t f1 m a5 U u = some T) ki ⟨a0, x, t, 1, _, (d.jy St), y, a3, G, rfl, rfl, B, d8⟩ ?_)
     rintro m E W ⟨a5, J, U, u, c0, d, N, a4, Q, H, I, k, j⟩
     cases m with
     | zero => rw [mJ] at j; cases j
     | succ h2 =>
      refine jM (sg (Wh I (Wh H (V (M5 aD rfl K k) (Wi rfl (ln (CI j rfl (fun d5 j => ?_) (fun d5 j => ?_))))))))
      ·refine kn (jM (CJ j (fun L E W => ∃ M c1, ST false (keys (x ++ [])) w W μ0 (M ++ c1) ∧ E 0 = g ∧ E 1 = Z ∧ E 5 = (.int .i64 L.2) ∧ E 6 = c4 ∧ E 7 = (.int .i64 u) ∧ kK 30 jx 5 μ0 g L.1 M) (fun L c => ?_) ?_))
       ·refine kZ (jM ?_)
        replace d := d.drew
        have h := d.has.jy (Kr Sn)
        refine kI h kl (X 0 rfl h (jH a4) (X 1 rfl h (jH H) (X 2 rfl h (jH I) (bS c fun i0 b4 c => XQ 3 rfl h (BA (i := u) jx.out aD aB rfl rfl k K (ky b4) (kv b4)) (fun k3 ⟨_, ⟨h5, rfl, f4⟩, e2, i6⟩ => XH 4 rfl h (fun _ A => jA rfl (kf (nC.hp _) (e2.mono (lR (fun b o p => A.2 b o (Ml p)))) aI aB)) (X 5 rfl h (jH H) (X 6 rfl h (jH I) (X 7 rfl h (kG rfl rfl rfl) (bS c fun i1 b5 c => XQ 8 rfl h (BA (i := (wi0 .i64 (u - 1))) jx.out aD aB rfl rfl k K (ky b5) (kv b5)) (fun k4 ⟨_, ⟨h6, rfl, f5⟩, e3, i7⟩ => XH 9 rfl h (fun _ A => jA rfl (kf (nC.hp _) (e3.mono (lR (fun b o p => A.2 b o (Ml p)))) aI aB)) (bS c fun k8 e6 c => XE 10 rfl (vH (i0, i1) d d2 (kj.refl _) (ui.mk jF jF (jx.mk ⟨h5, rfl, f4⟩) (jx.mk ⟨h6, rfl, f5⟩) d.jB) rfl (uI rfl rfl) e6 (fun j8 d => ?_)))))))))))))
        have h := d.has.jy (Kr Sn)
        refine ⟨h, (X 11 rfl h (mT rfl) (kT kr (jI (CI c rfl (fun d6 c => ?_) (fun d6 c => ?_)))))⟩
        ·refine sg (Wh N (Wh Q (Wh H (Wh I (bS c fun c7 b6 c => VQ (BA (i := u) jx.out aD aB rfl rfl k K (ky b6) (kv b6)) (fun k5 ⟨_, ⟨l0, rfl, b1⟩, e4, i8⟩ => V (jA rfl (kf (nC.hp _) (e4.mono (lR (fun b o p => d.has.2 b o (Ml p)))) aI aB)) (bS c fun l2 Y c => VQ (lu (i := U) jx.out aD aB rfl rfl k (ky Y) (kv Y)) (fun k6 ⟨_, ⟨l1, rfl, j3⟩, i9, d7⟩ => ?_))))))))
         obtain ⟨f7, g0, rfl⟩ := b1.form
         refine VO (qJ (x1 := c7) jF d k rfl rfl (jx.mk ⟨(.slice f7 c7.Kids.length g0), rfl, b1⟩) d7 (kv Y) aB (fun j9 f8 d d1 => ln (jL (Wh Q (Wi rfl (Wa (kk (kA (jI ?_)))))))))
         obtain rfl := sj c
         exact ⟨f8, _, (d.jy St), N, a4, rfl, H, I, d1⟩
        refine kX (kA (jI ?_))
        obtain rfl := sj c
        exact ⟨J, _, (d.jy St), N, a4, Q, H, I, k⟩
       rintro ⟨g9, h9⟩ E W ⟨M, c1, d, g1, g2, g3, g4, g7, f3⟩ d9
       exact jL (Wh g7 (Wi rfl (Wa (ln ⟨h2, bG _, g9, M, h9, (wi0 .i64 (u + 1)), _, (d.jy St), g1, g2, g3, g4, rfl, f3, d9⟩))))
      refine mF (ml (ml (oU (jI ?_))))
      obtain rfl := sj j
      exact ⟨J, _, (d.jy St), N, Q, k⟩
    rintro ⟨k0, c6⟩ E W ⟨a2, b9, d, c2, c3, b0⟩ D
    refine sg (Wh c2 (Wh c3 (bS D fun _ R D => VQ (Bp (i := c6) aD aB rfl rfl b0 (vL R) (vE R)) (fun k9 e9 => VO (ED (z := (⟨0, 0, K0, []⟩ : Formula)) (zs := C6) jF d b0 (jx.mk ⟨(.slice none 0 0), rfl, (Sl.nil _ _ _)⟩) aD aO e9 rfl rfl (fun j7 j5 d d0 => lr (Wh c2 (Wh c3 (bS D fun _ a9 D => VQ (DM (i := c6) aD aB rfl rfl d0 (vL a9) (vE a9)) (fun c5 f0 => ?_))))))))))
    refine Wa (lt (mi (kw (kw (mi (kw ?_))))))
    obtain rfl := sj D
    refine lB (v := c5) rfl rfl ?_
    obtain ⟨l3, d, c8, l, f2⟩ := ST.uf jF d f0
    exact ⟨_, _, _, rfl, (d.lO Sn), c8, l, (ST.kR d (mB.mem Sn)), c5, rfl, rfl, f2⟩
   exact kX (kA (jI (jL (Wh G (Wi rfl (Wa (ln ⟨h1, bG _, (wi0 .i64 (t + 1)), _, (d.jy St), y, a3, rfl, a⟩)))))))
  refine mF (ml (ml (oU (jI (sg (Wh y (Wa (lt ?_))))))))
  obtain rfl := sj a
  refine lB (v := g) rfl rfl ?_
  obtain ⟨l4, d, c9, n, f6⟩ := ST.uf jF d B
  exact ⟨_, _, _, rfl, (d.lO Sn), c9, n, (ST.kR d (mB.mem Sn)), g, rfl, rfl, f6⟩
theorem tL (j : Nat) (a0 : kJ) (c : Int) (K : Value) (a2 : List Formula) (r : (Formula × kJ)) (w : World) {μ0 : km} (h0 : ni μ0 ((j, Ol (lF a0) 224) :: []) w) (b5 : Sl jx 5 μ0 K a2) (hm : oa a0 c a2 = some r) :
  lT false pg0 244 [(.pointer (some ⟨j, 0, none⟩)), (.int .i64 c), K] w μ0 ((j, Ol (lF a0) 224) :: []) (fun v L1 μ1 => ∃ y1, v = (.agg #[(.int .i64 ((r.1).Op)), (.int .i64 ((r.1).K)), (.string (((r.1).ju).jw)), (.string (((r.1).ju).Word)), y1]) ∧ L1 = ((j, Ol (lF (r.2)) 224) :: []) ∧ Sl jx 5 μ1 y1 ((r.1).Kids)) := by
 refine uW h0 37 func244 rfl (fun b => sg (VE (ku b aO (fun W2 b1 b => lr (Wm (Wi rfl (VE (ku b zeroValue3 (fun W4 A b => VO (jR (.int .i64 (wi0 .i64 (5 - c))) (#[(.int .i64 (wi0 .i64 (5 - c)))]) b rfl rfl fJ (Hk _ (wi0 .i64 (5 - c))) nb rfl (fun W5 b => ln (jM ?_))))))))))))
 let a4 := (wi0 .i64 (5 - c))
 let a9 : Value := (.agg (HK a4).toArray)
 refine jL (Wm (Wm (bS hm fun r6 d1 hm => ?_)))
 refine VE (eD b (bT _) call300 (fun n => lT.lE (JE c K a2 _ _ n (b5.mono jF.mono (kj.refl _)) d1)) ?_ (L0 := []))
 rintro _ f4 aa e2 b B d ⟨a7, H, rfl, a3⟩
 obtain rfl := H.symm
 refine Wa (lS (Wm (V (pc (by exact qW rfl) rfl) (bS hm fun f3 c1 hm => VE (Eg b call266 (uV a7 r6 (.func (.func 301) #[] #[(.pointer (some ⟨A, 0, none⟩))]) (fun (x : Formula) => qx x a4) _ _ (a3.mono jF.mono b.jB) ⟨301, #[], #[(.pointer (some ⟨A, 0, none⟩))], rfl, call301, fun W x vs r hs L hm => by obtain ⟨_, rfl, U⟩ := L; obtain ⟨P, rfl, O⟩ := U.out; exact (AV x P A a4 r W O (At.of (hs _ _ (b.at_ Mh)) _ rfl) hm).lE⟩ c1) (fun e5 b => ln (CI hm rfl (fun b6 hm => ?_) (fun b6 hm => ?_))))))))
 ·refine sg (VB b Mh rfl rfl bY (V (lC (v := a9) (lW rfl) (kW aO bD (tS _ bD) kr)) ?_))
  replace b := b.perm (Nb (Pb Pz) Nz)
  refine VO (jR a9 ((HK a4).toArray) b rfl rfl aB oc nb rfl (fun e6 b => ln ?_))
  replace b := b.jy (Kb (Db St))
  refine kh (kw ?_)
  obtain rfl := sj hm
  exact mL (v := a9) rfl rfl (jD b.has Mh (HK a4) rfl aI aB) ⟨_, _, _, rfl, (b.lO (Db (Kb Sn))), B, d, (ST.kR b (mB.mem (Db (Kb Sn)))), (.slice none 0 0), rfl, rfl, (Sl.nil _ _ _)⟩
 refine kn ?_
 replace b := b.jy (Db St)
 refine sg (Wm (bS hm fun d2 c2 hm => ?_))
 refine VE (eD b (bT _) call299 (fun n => (Dd a7 r6 _ _ n (a3.mono jF.mono (kj.refl _)) c2)) ?_ (L0 := []))
 rintro _ f5 f9 e3 b N h ⟨d5, c7, I, rfl, c4⟩
 obtain rfl := I.symm
 replace b := b.perm (Tr Tn)
 refine bS hm fun z c3 hm => ?_
 refine VE (eD b (Cr Qz Cn) call302 (fun n => (zU d5 d2 c7 (.func (.func 61) #[] #[]) (fun (x : (Formula × Formula)) => nE ki x.1 x.2) _ _ n c4 ⟨61, #[], #[], rfl, call61, fun W x vs r hs L hm => by obtain ⟨_, _, rfl, U, d0⟩ := L; obtain ⟨P, rfl, O⟩ := U.out; obtain ⟨t0, rfl, j0⟩ := d0.out; exact (zP ki) x.1 P x.2 t0 r W O j0 hm⟩ c3)) ?_)
 rintro _ f6 d7 e4 b Q l ⟨d6, J, rfl, y⟩
 obtain rfl := J.symm
 refine Wa (ln (jM (CJ hm (fun R E W => ∃ a5, ST false (keys ((j, Ol (lF a0) 224) :: [])) w W d7 ((b1, Ol C6 30) :: ((j, Ol (lF R) 224) :: a5)) ∧ E 1 = (.int .i64 c) ∧ E 6 = (.pointer (some ⟨b1, 0, none⟩)) ∧ E 8 = d6) (fun R u => ?_) ?_)))
 ·refine sg (Wm (V (kU aD rfl y) (Wi rfl (ln (CI u rfl (fun b9 u => ?_) (fun b9 u => ?_))))))
  ·refine jL (Wm (Wn (Wf LU ?_)))
   replace b := b.perm (Nb (Pb Pz) Nz)
   refine VO (jR (.int .i64 12) ((lF (⟨12⟩ : kJ)).toArray) b rfl rfl sizeOf109 (Hk _ 12) nb rfl (fun f1 b => ln ?_))
   obtain rfl := sj u
   exact ⟨_, (b.jy (Sb (Pb Pz) St)), rfl, rfl, rfl⟩
  refine kn ?_
  obtain rfl := sj u
  exact ⟨_, (b.jy St), rfl, rfl, rfl⟩
 rintro f8 E W ⟨a5, b, c9, M, T⟩ g
 refine jM (sg (Wh T (V (kU aD rfl y) (Wi rfl (ln (CI g rfl (fun b7 g => ?_) (fun b7 g => ?_)))))))
 ·refine sg (Wh T (bS g fun a Z g => VQ (lU (i := 0) (x0 := a) jx.out aD aB rfl rfl y (ky Z) (kv Z)) (fun f2 ⟨_, ⟨f7, rfl, Y⟩, c0⟩ => V (jA rfl (kf b.has c0 aI aB)) ?_)))
  obtain ⟨D, G, rfl⟩ := Y.form
  let p := (C1 a.Op a.K a.ju.jw a.ju.Word D a.Kids.length G)
  refine VO (jR (.agg p.toArray) (p.toArray) b M rfl aB oc nb rfl (fun e9 b => lt (kw ?_)))
  obtain rfl := sj g
  exact mL (v := (.agg p.toArray)) rfl M (jD b.has Mh p rfl aI aB) ⟨_, _, _, rfl, (b.lO (Db (Kb Sn))), ((B.trans N).trans Q), ((d.trans h).trans l), (ST.kR b (mB.mem (Db (Kb Sn)))), (.slice D a.Kids.length G), rfl, rfl, Y⟩
 refine kg (Wh c9 (Wh T ?_))
 obtain ⟨k, t, rfl⟩ := y.form
 let m := (Uf c k z.length t)
 refine V (lC (v := (.agg m.toArray)) (pw rfl rfl) (kW aO bD (tS _ bD) kr)) (VO (jR (.agg m.toArray) (m.toArray) b M rfl aB oc nb rfl (fun f0 b => lt ?_)))
 obtain rfl := sj g
 exact mL (v := (.agg m.toArray)) rfl M (jD b.has Mh m rfl aI aB) ⟨_, _, _, rfl, (b.lO (Db (Kb Sn))), ((B.trans N).trans Q), ((d.trans h).trans l), (ST.kR b (mB.mem (Db (Kb Sn)))), (.slice k z.length t), rfl, rfl, y⟩
theorem AR (G : Nat) (a0 : kJ) (a1 : Int) (c2 : Value) (a2 : List Formula) (r : (Formula × kJ)) (w : World) {μ0 : km} (h0 : ni μ0 ((G, Ol (lF a0) 224) :: []) w) (c1 : Sl jx 5 μ0 c2 a2) (hm : qy a0 a1 a2 = some r) :
  lT false pg0 243 [(.pointer (some ⟨G, 0, none⟩)), (.int .i64 a1), c2] w μ0 ((G, Ol (lF a0) 224) :: []) (fun v L1 μ1 => ∃ y1, v = (.agg #[(.int .i64 ((r.1).Op)), (.int .i64 ((r.1).K)), (.string (((r.1).ju).jw)), (.string (((r.1).ju).Word)), y1]) ∧ L1 = ((G, Ol (lF (r.2)) 224) :: []) ∧ Sl jx 5 μ1 y1 ((r.1).Kids)) := by
 let j6 := ((lF a0).toArray : Array Value)
 refine uW h0 58 func243 rfl (fun b => sg (VE (ku b aO (fun W2 b1 b => lr (Wa (lS (Wm ?_)))))))
 refine V (kU aD rfl c1) (Wm (ln (kC (fun i E W => ∃ x K J N c0, (E 12 = .int .i64 (i : Nat) ∧ E 11 = .int .i64 (a2.length : Nat)) ∧ ST false (keys ((G, Obj.cells j6 224 (0, 0)) :: [])) w W μ0 ((b1, Ol C6 30) :: ((G, Obj.cells j6 224 (0, 0)) :: (N ++ c0))) ∧ E 0 = (.pointer (some ⟨G, 0, none⟩)) ∧ E 1 = (.int .i64 x) ∧ E 6 = (.pointer (some ⟨b1, 0, none⟩)) ∧ E 7 = K ∧ E 10 = c2 ∧ kK 30 jx 5 μ0 K J N ∧ mD a0 (a2.drop i) x J = some r) a2.length c1.len ⟨a1, (.slice none 0 0), ([]), [], _, ⟨rfl, rfl⟩, (b.jy St), rfl, rfl, rfl, rfl, rfl, (kK.nil _ _ _ _), hm⟩ dc dc dc (fun _ _ _ h => by obtain ⟨_, _, _, _, _, ab, _⟩ := h; exact ab) ?_ ?_)))
 ·rintro h2 E W f2 ⟨x, K, J, N, c0, ⟨eI, eN⟩, b, U, H, u, I, b0, D, a⟩
  obtain ⟨c, h8, g8, g7, b7⟩ := kp f2
  rw [g8] at a
  refine bg (VQ (lU (i := (h2 : Int)) (x0 := c) jx.out aD aB b0 eI c1 (aG _) g7) (fun k7 ⟨_, ⟨l0, rfl, Y⟩, f3⟩ => V (jA rfl (kf b.has f3 aI aB)) (VE (ku b aO (fun i6 k4 b => ?_)))))
  obtain ⟨y, z, rfl⟩ := Y.form
  let j4 : Value := (.slice y c.Kids.length z)
  let b8 := (C1 c.Op c.K c.ju.jw c.ju.Word y c.Kids.length z)
  refine VO (jR (.agg b8.toArray) (b8.toArray) b rfl rfl aB oc nb rfl (fun i7 b => ln (bg (VA b Mh b8 aI aB (bS a fun k8 f4 a => VE (Eg b call297 (jV.lE (zV c j4 2 _ _ (Y.mono jF.mono b.jB) f4)) (fun i8 b => Wa (ln (CI a rfl (fun e5 a => ?_) (fun e5 a => ?_))))))))))
  ·refine jL (Wh H (Wi rfl (Wa (kk (kA (kA (jI ?_)))))))
   replace b := b.jy (Db St)
   exact ⟨eI, (wi0 .i64 (x - 1)), K, J, N, _, ⟨rfl, eN⟩, (b.jy St), U, rfl, u, I, b0, D, (by rw [b7]; exact a)⟩
  refine sg (VA b Mh b8 aI aB (bS a fun k9 f5 a => VE (Eg b call297 (jV.lE (zV c j4 3 _ _ (Y.mono jF.mono b.jB) f5)) (fun i9 b => V (mT rfl) (Wa (ln (CI a rfl (fun e6 a => ?_) (fun e6 a => ?_))))))))
  ·refine jL (Wh I (VA b Mh b8 aI aB (VE (kq (cs := b8.toArray) b (lW rfl) (mr aD aB aO) (fun j0 k5 b => ?_)))))
   replace b := b.perm (Nr (Qb (Qb (Qb (Qb Qz)))) Nz)
   refine bS a fun h3 e7 a => VE (pJ (B := N) jF b dc aD lM.1 lM.2.1 rfl lM.2.2.1 lM.2.2.2 rfl rfl D (xZ.lit jF (l := [c]) (.cons (ys := C1 c.Op c.K c.ju.jw c.ju.Word y c.Kids.length z) (jx.mk ⟨j4, rfl, Y⟩) .nil) rfl nb (b.at_ (Ma Mh))) e7 (fun j3 h4 g9 b e4 => Wa (kk (kA (kA (jI ?_))))))
   replace b := b.jy (Kr (Db (Db St)))
   exact ⟨eI, x, h4, h3, g9, _, ⟨rfl, eN⟩, (b.jy (Sb (Pr Pz) (Sb (Pr Pz) St))), U, H, u, rfl, b0, e4, (by rw [b7]; exact a)⟩
  refine kX (kA (kA (jI ?_)))
  replace b := b.jy (Db St)
  exact ⟨eI, x, K, J, N, _, ⟨rfl, eN⟩, (b.jy St), U, H, u, I, b0, D, (by rw [b7]; exact a)⟩
 rintro E W ⟨x, K, J, N, c0, ⟨eI, eN⟩, b, U, H, u, I, b0, D, a⟩
 rw [aH] at a
 refine jI (jM (bg (Wh H (Wi rfl (Wa (ln (CI a rfl (fun e8 a => ?_) (fun e8 a => ?_))))))))
 ·refine sg (bS a fun g f6 a => ?_)
  let j1 : Value := (.string (((g).ju).Word))
  let h7 : Value := (.string (((g).ju).jw))
  refine VE (eD b (bT _) call115 (fun d => lT.lE (Hq  _ _ d  f6)) ?_ (L0 := []))
  rintro _ l1 m2 i0 b c9 m ⟨l6, b2, rfl, c3⟩
  obtain rfl := b2.symm
  obtain ⟨Z, a6, rfl⟩ := c3.form
  let e3 : Value := (.slice Z ((g).Kids).length a6)
  let d9 : Value := (.agg #[(.int .i64 ((g).Op)), (.int .i64 ((g).K)), h7, j1, e3])
  refine VO (jR d9 (#[(.int .i64 ((g).Op)), (.int .i64 ((g).K)), h7, j1, e3]) b u rfl aB oc nb rfl (fun j5 b => ln ?_))
  replace b := b.jy (Kb (Kb (Dr St)))
  refine kh (mi (kw ?_))
  obtain rfl := sj a
  exact mL (v := d9) rfl u (jD b.has Mh [(.int .i64 ((g).Op)), (.int .i64 ((g).K)), h7, j1, e3] rfl aI aB) ⟨_, _, _, rfl, (b.lO (Db (Kb Sn))), c9, m, (ST.kR b (mB.mem (Db (Kb Sn)))), e3, rfl, rfl, c3⟩
 refine sg (Wh H (Wh I (V (so aD rfl D) (Wi rfl (Wa (ln (CI a rfl (fun e9 a => ?_) (fun e9 a => ?_))))))))
 ·refine sg (bS a fun j f7 a => ?_)
  let j2 : Value := (.string (((j).ju).Word))
  let h9 : Value := (.string (((j).ju).jw))
  refine VE (eD b (bT _) call298 (fun d => lT.lE (Iu  _ _ d  f7)) ?_ (L0 := []))
  rintro _ l2 m3 i1 b d0 n ⟨l7, b3, rfl, c4⟩
  obtain rfl := b3.symm
  obtain ⟨a3, a7, rfl⟩ := c4.form
  let e2 : Value := (.slice a3 ((j).Kids).length a7)
  let d8 : Value := (.agg #[(.int .i64 ((j).Op)), (.int .i64 ((j).K)), h9, j2, e2])
  refine VO (jR d8 (#[(.int .i64 ((j).Op)), (.int .i64 ((j).K)), h9, j2, e2]) b u rfl aB oc nb rfl (fun j7 b => ln ?_))
  replace b := b.jy (Kb (Kb (Dr St)))
  refine kh (mi (kw ?_))
  obtain rfl := sj a
  exact mL (v := d8) rfl u (jD b.has Mh [(.int .i64 ((j).Op)), (.int .i64 ((j).K)), h9, j2, e2] rfl aI aB) ⟨_, _, _, rfl, (b.lO (Db (Kb Sn))), d0, n, (ST.kR b (mB.mem (Db (Kb Sn)))), e2, rfl, rfl, c4⟩
 refine sg (Wh H (Wh I (V (so aD rfl D) (Wi rfl (Wa (ln (CI a rfl (fun f0 a => ?_) (fun f0 a => ?_))))))))
 ·refine sg (Wh U (Wh I ?_))
  replace b := b.perm (Nr (Qb (Qb Qz)) Nz)
  obtain ⟨m4, b, d1, p, g1⟩ := ST.uf jF b D
  refine bS a fun k f8 a => ?_
  let h5 : Value := (.string (((k.1).ju).Word))
  let g6 : Value := (.string (((k.1).ju).jw))
  refine VE (eD b (Cb (Pb Pz) Cn) call244 (fun d => (tL G a0 2 K J _ _ d (g1.mono jF.mono (kj.refl _)) f8)) ?_)
  rintro _ l3 m5 i2 b d2 A ⟨l8, b4, rfl, c5⟩
  obtain rfl := b4.symm
  replace b := b.perm (Tb Tn)
  obtain ⟨a4, a8, rfl⟩ := c5.form
  let e0 : Value := (.slice a4 ((k.1).Kids).length a8)
  let b9 : Value := (.agg #[(.int .i64 ((k.1).Op)), (.int .i64 ((k.1).K)), g6, h5, e0])
  replace b := b.perm (Nb (Pb Pz) Nz)
  refine VO (jR b9 (#[(.int .i64 ((k.1).Op)), (.int .i64 ((k.1).K)), g6, h5, e0]) b u rfl aB oc nb rfl (fun j9 b => lt (mi (kw ?_))))
  obtain rfl := sj a
  exact mL (v := b9) rfl u (jD b.has Mh [(.int .i64 ((k.1).Op)), (.int .i64 ((k.1).K)), g6, h5, e0] rfl aI aB) ⟨_, _, _, rfl, (b.lO (Db (Kb Sn))), (d1.trans d2), (p.trans A), (ST.kR b (mB.mem (Db (Kb Sn)))), e0, rfl, rfl, c5⟩
 refine sg (Wh H (Wi rfl (Wa (ln (CI a rfl (fun f1 a => ?_) (fun f1 a => ?_))))))
 ·refine sg (Wh U (Wh I ?_))
  replace b := b.perm (Nr (Qb (Qb Qz)) Nz)
  obtain ⟨m6, b, d3, L, g2⟩ := ST.uf jF b D
  refine bS a fun t f9 a => ?_
  let h6 : Value := (.string (((t.1).ju).Word))
  let h1 : Value := (.string (((t.1).ju).jw))
  refine VE (eD b (Cb (Pb Pz) Cn) call244 (fun d => (tL G a0 3 K J _ _ d (g2.mono jF.mono (kj.refl _)) f9)) ?_)
  rintro _ l4 m7 i3 b d4 O ⟨l9, b5, rfl, c6⟩
  obtain rfl := b5.symm
  replace b := b.perm (Tb Tn)
  obtain ⟨a5, a9, rfl⟩ := c6.form
  let e1 : Value := (.slice a5 ((t.1).Kids).length a9)
  let c8 : Value := (.agg #[(.int .i64 ((t.1).Op)), (.int .i64 ((t.1).K)), h1, h6, e1])
  replace b := b.perm (Nb (Pb Pz) Nz)
  refine VO (jR c8 (#[(.int .i64 ((t.1).Op)), (.int .i64 ((t.1).K)), h1, h6, e1]) b u rfl aB oc nb rfl (fun k1 b => lt (mi (kw ?_))))
  obtain rfl := sj a
  exact mL (v := c8) rfl u (jD b.has Mh [(.int .i64 ((t.1).Op)), (.int .i64 ((t.1).K)), h1, h6, e1] rfl aI aB) ⟨_, _, _, rfl, (b.lO (Db (Kb Sn))), (d3.trans d4), (L.trans O), (ST.kR b (mB.mem (Db (Kb Sn)))), e1, rfl, rfl, c6⟩
 refine kX (kA (jI (sg (Wh H (Wh I ?_)))))
 replace b := b.perm (Nr (Qb (Qb Qz)) Nz)
 obtain ⟨m8, b, d5, P, g3⟩ := ST.uf jF b D
 refine bS a fun T g0 a => ?_
 refine VE (eD b (bT _) call299 (fun d => (Dd K J _ _ d (g3.mono jF.mono (kj.refl _)) g0)) ?_ (L0 := []))
 rintro _ l5 m9 i4 b d6 R ⟨m0, i5, b6, rfl, c7⟩
 obtain rfl := b6.symm
 replace b := b.perm (Tr Tn)
 obtain ⟨M, Q, rfl⟩ := c7.form
 let g5 := (Ug x M T.length Q)
 refine V (lC (v := (.agg g5.toArray)) (Dx rfl rfl rfl) (kW aO bD (tS _ bD) kr)) ?_
 replace b := b.perm (Nb (Pr Pz) Nz)
 refine VO (jR (.agg g5.toArray) (g5.toArray) b u rfl aB oc nb rfl (fun k3 b => lt ?_))
 obtain rfl := sj a
 refine mL (v := (.agg g5.toArray)) rfl u (jD b.has Mh g5 rfl aI aB) ?_
 replace b := b.perm (Nr (Qb Qz) Nz)
 obtain ⟨n0, b, d7, aa, g4⟩ := ST.uf jF b c7
 exact ⟨_, _, _, rfl, (b.lO (Db (Kb Sn))), ((d5.trans d6).trans d7), ((P.trans R).trans aa), (ST.kR b (mB.mem (Db (Kb Sn)))), (.slice M T.length Q), rfl, rfl, g4⟩
theorem zW (c9 : kJ → Formula → Option (Formula × kJ)) (e9 : ∀ (u : Nat) (a0 : kJ) (a : Formula) (y : Value) (r : (Formula × kJ)) (w : World) {μ0 : km} (h0 : ni μ0 ((u, Ol (lF a0) 224) :: []) w) (x : Sl jx 5 μ0 y a.Kids), c9 a0 a = some r → lT false pg0 181 [(.pointer (some ⟨u, 0, none⟩)), (.agg #[(.int .i64 a.Op), (.int .i64 a.K), (.string a.ju.jw), (.string a.ju.Word), y])] w μ0 ((u, Ol (lF a0) 224) :: []) (fun v L1 μ1 => ∃ R, v = (.agg #[(.int .i64 ((r.1).Op)), (.int .i64 ((r.1).K)), (.string (((r.1).ju).jw)), (.string (((r.1).ju).Word)), R]) ∧ L1 = ((u, Ol (lF (r.2)) 224) :: []) ∧ Sl jx 5 μ1 R ((r.1).Kids))) (u : Nat) (a0 : kJ) (a : Formula) (y : Value) (r : (Formula × kJ)) (w : World) {μ0 : km} (h0 : ni μ0 ((u, Ol (lF a0) 224) :: []) w) (x : Sl jx 5 μ0 y a.Kids) (hm : rK c9 a0 a = some r) :
  lT false pg0 181 [(.pointer (some ⟨u, 0, none⟩)), (.agg #[(.int .i64 a.Op), (.int .i64 a.K), (.string a.ju.jw), (.string a.ju.Word), y])] w μ0 ((u, Ol (lF a0) 224) :: []) (fun v L1 μ1 => ∃ R, v = (.agg #[(.int .i64 ((r.1).Op)), (.int .i64 ((r.1).K)), (.string (((r.1).ju).jw)), (.string (((r.1).ju).Word)), R]) ∧ L1 = ((u, Ol (lF (r.2)) 224) :: []) ∧ Sl jx 5 μ1 R ((r.1).Kids)) := by
 let d0 := ((u, Ol (lF a0) 224) :: [])
 refine uW h0 39 func181 rfl (fun b => sg ?_)
 obtain ⟨A1, c2, rfl⟩ := x.form
 let O := (C1 a.Op a.K a.ju.jw a.ju.Word A1 a.Kids.length c2)
 refine VE (kd b rfl (fun W4 b3 b => VE (ku b aO (fun W6 b5 b => lS (Wf nq (VB b (Mt Mh) rfl rfl bY (Wi rfl (ln (CI hm rfl (fun f8 hm => ?_) (fun f8 hm => ?_))))))))))
 ·refine sg (VA b (Mt Mh) O aI aB (VO (jR (.agg O.toArray) (O.toArray) b rfl rfl aB oc nb rfl (fun W8 b => ln ?_))))
  replace b := b.jy (Kb (Db St))
  refine kh (kw ?_)
  obtain rfl := sj hm
  exact mL (v := (.agg O.toArray)) rfl rfl (jD b.has Mh O rfl aI aB) ⟨_, _, _, rfl, (b.lO (Db (Kb Sn))), (kj.refl _), Lo.refl, (ST.kR b (mB.mem (Db (Kb Sn)))), (.slice A1 a.Kids.length c2), rfl, rfl, x⟩
 refine kg (Wa (lS (Wf np (VB b (Mt Mh) rfl rfl dJ (V (kU aD rfl x) (Wm (kk ?_)))))))
 refine jI (kC (fun i E W => ∃ I H T D J b7, (E 15 = .int .i64 (i : Nat) ∧ E 14 = .int .i64 (a.Kids.length : Nat)) ∧ kj μ0 J ∧ Lo (keys d0) w μ0 J ∧ ST false (keys d0) w W J ((u, Ol (lF D) 224) :: ((b5, Ol C6 30) :: ((b3, Ol O 30) :: (T ++ b7)))) ∧ E 0 = (.pointer (some ⟨u, 0, none⟩)) ∧ E 3 = (.pointer (some ⟨b3, 0, none⟩)) ∧ E 4 = (.pointer (some ⟨b5, 0, none⟩)) ∧ E 5 = I ∧ E 13 = (.slice A1 a.Kids.length c2) ∧ kK 30 jx 5 J I H T ∧ nG c9 a (a.Kids.drop i) H D = some r) a.Kids.length x.len ⟨(.slice none 0 0), ([]), [], a0, μ0, _, ⟨rfl, rfl⟩, (kj.refl _), Lo.refl, (b.jy (Sb (Pb (Pb Pz)) St)), rfl, rfl, rfl, rfl, rfl, (kK.nil _ _ _ _), hm⟩ dc dc dc (fun _ _ _ h => by obtain ⟨_, _, _, _, _, _, aa, _⟩ := h; exact aa) ?_ ?_)
 ·rintro f0 E W d7 ⟨I, H, T, D, J, b7, ⟨eI, eN⟩, z, d, b, a2, a3, G, b0, b9, K, c⟩
  obtain ⟨t, f9, e5, e4, e6⟩ := kp d7
  rw [e5] at c
  refine bg (VQ (lU (i := (f0 : Int)) (x0 := t) jx.out aD aB b9 eI (x.mono jF.mono z) (aG _) e4) (fun h7 ⟨_, ⟨h8, rfl, c0⟩, d8⟩ => V (jA rfl (kf b.has d8 aI aB)) (VE (ku b aO (fun g3 h5 b => ?_)))))
  obtain ⟨a7, a9, rfl⟩ := c0.form
  let a6 := (C1 t.Op t.K t.ju.jw t.ju.Word a7 t.Kids.length a9)
  refine VO (jR (.agg a6.toArray) (a6.toArray) b rfl rfl aB oc nb rfl (fun g4 b => ln (jL (Wh b0 (Wh a2 (VA b Mh a6 aI aB (bS c fun g d9 c => ?_)))))))
  refine VE (eD b (Cb (Pb Pz) Cn) call181 (fun P => (e9 u D t (.slice a7 t.Kids.length a9) _ _ P (c0.mono jF.mono (kj.refl _)) d9)) ?_)
  rintro _ h9 f4 g0 b b6 m ⟨i2, b1, rfl, c1⟩
  obtain rfl := b1.symm
  replace b := b.perm (Tb Tn)
  obtain ⟨M, U, rfl⟩ := c1.form
  let d1 : Value := (.slice M ((g.1).Kids).length U)
  refine VE (kq (cs := #[(.int .i64 ((g.1).Op)), (.int .i64 ((g.1).K)), (.string (((g.1).ju).jw)), (.string (((g.1).ju).Word)), d1]) b (lW rfl) (mr aD aB aO) (fun g8 h6 b => ?_))
  replace b := b.perm (Nr (Qb (Qb (Qb (Qb (Qb Qz))))) Nz)
  refine bS c fun f1 d5 c => VE (pJ (B := T) jF b dc aD lM.1 lM.2.1 rfl lM.2.2.1 lM.2.2.2 rfl rfl (K.mono jF b6) (xZ.lit jF (l := [g.1]) (.cons (ys := [(.int .i64 ((g.1).Op)), (.int .i64 ((g.1).K)), (.string (((g.1).ju).jw)), (.string (((g.1).ju).Word)), d1]) (jx.mk ⟨d1, rfl, c1⟩) .nil) rfl nb (b.at_ (Ma Mh))) d5 (fun g9 f2 e8 b d4 => Wa (kk (kA (jI ?_)))))
  replace b := b.jy (Kr (Db (Kb (Db St))))
  exact ⟨eI, f2, f1, e8, g.2, f4, _, ⟨rfl, eN⟩, (z.trans b6), (d.trans m), (b.jy (Sb (Pr Pz) (Sb (Pr Pz) (Sb (Pr Pz) St)))), a2, a3, G, rfl, b9, d4, (by rw [e6]; exact c)⟩
 rintro E W ⟨I, H, T, D, J, b7, ⟨eI, eN⟩, z, d, b, a2, a3, G, b0, b9, K, c⟩
 rw [aH] at c
 refine jI (jM (sg (V (jG nq a3) (VB b (Mt (Mt Mh)) rfl rfl bY (Wi rfl (ln (CI c rfl (fun d6 c => ?_) (fun d6 c => ?_))))))))
 ·refine sg (Wh a2 (V (jG rr a3) (VB b (Mt (Mt Mh)) rfl rfl bY (Wh b0 ?_))))
  replace b := b.perm (Nr (Qb (Qb (Qb Qz))) Nz)
  obtain ⟨i5, b, c5, n, e2⟩ := ST.uf jF b K
  refine bS c fun j e0 c => ?_
  let f3 : Value := (.string (((j.1).ju).Word))
  let d3 : Value := (.string (((j.1).ju).jw))
  refine VE (eD b (Cb Pz Cn) call243 (fun P => (AR u D a.K I H _ _ P (e2.mono jF.mono (kj.refl _)) e0)) ?_)
  rintro _ i0 i6 g1 b c6 p ⟨i3, b2, rfl, c3⟩
  obtain rfl := b2.symm
  replace b := b.perm (Tb Tn)
  obtain ⟨N, Y, rfl⟩ := c3.form
  let b8 : Value := (.slice N ((j.1).Kids).length Y)
  let a5 : Value := (.agg #[(.int .i64 ((j.1).Op)), (.int .i64 ((j.1).K)), d3, f3, b8])
  replace b := b.perm (Nb (Pb Pz) Nz)
  refine VO (jR a5 (#[(.int .i64 ((j.1).Op)), (.int .i64 ((j.1).K)), d3, f3, b8]) b G rfl aB oc nb rfl (fun h2 b => ln ?_))
  replace b := b.jy (Kb (Kb (Db St)))
  refine kh (kw ?_)
  obtain rfl := sj c
  exact mL (v := a5) rfl G (jD b.has Mh [(.int .i64 ((j.1).Op)), (.int .i64 ((j.1).K)), d3, f3, b8] rfl aI aB) ⟨_, _, _, rfl, (b.lO (Db (Kb Sn))), ((z.trans c5).trans c6), ((d.trans n).trans p), (ST.kR b (mB.mem (Db (Kb Sn)))), b8, rfl, rfl, c3⟩
 refine kg (Wh a2 (V (jG nq a3) (VB b (Mt (Mt Mh)) rfl rfl bY (Wh b0 ?_))))
 replace b := b.perm (Nr (Qb (Qb (Qb Qz))) Nz)
 obtain ⟨i7, b, c7, A, e3⟩ := ST.uf jF b K
 refine bS c fun k e1 c => ?_
 let f5 : Value := (.int .i64 ((k.1).Op))
 let e7 : Value := (.string (((k.1).ju).Word))
 let d2 : Value := (.string (((k.1).ju).jw))
 refine VE (eD b (Cb Pz Cn) call244 (fun P => (tL u D a.Op I H _ _ P (e3.mono jF.mono (kj.refl _)) e1)) ?_)
 rintro _ i1 i8 g2 b c8 L ⟨i4, b4, rfl, c4⟩
 obtain rfl := b4.symm
 replace b := b.perm (Tb Tn)
 obtain ⟨Q, Z, rfl⟩ := c4.form
 let a8 : Value := (.slice Q ((k.1).Kids).length Z)
 let a4 : Value := (.agg #[f5, (.int .i64 ((k.1).K)), d2, e7, a8])
 replace b := b.perm (Nb (Pb Pz) Nz)
 refine VO (jR a4 (#[f5, (.int .i64 ((k.1).K)), d2, e7, a8]) b G rfl aB oc nb rfl (fun h4 b => ln ?_))
 replace b := b.jy (Kb (Kb (Db St)))
 refine kh ?_
 obtain rfl := sj c
 exact mL (v := a4) rfl G (jD b.has Mh [f5, (.int .i64 ((k.1).K)), d2, e7, a8] rfl aI aB) ⟨_, _, _, rfl, (b.lO (Db (Kb Sn))), ((z.trans c7).trans c8), ((d.trans A).trans L), (ST.kR b (mB.mem (Db (Kb Sn)))), a8, rfl, rfl, c4⟩
theorem xA : ∀ (n : Nat) (c : Nat) (j : kJ) (g : Formula) (a : Value) (r : (Formula × kJ)) (w : World) {k : km} (y : ni k ((c, Ol (lF j) 224) :: []) w) (i : Sl jx 5 k a g.Kids) (_ : nh n j g = some r),
  lT false pg0 181 [(.pointer (some ⟨c, 0, none⟩)), (.agg #[(.int .i64 g.Op), (.int .i64 g.K), (.string g.ju.jw), (.string g.ju.Word), a])] w k ((c, Ol (lF j) 224) :: []) (fun v u x => ∃ t, v = (.agg #[(.int .i64 ((r.1).Op)), (.int .i64 ((r.1).K)), (.string (((r.1).ju).jw)), (.string (((r.1).ju).Word)), t]) ∧ u = ((c, Ol (lF (r.2)) 224) :: []) ∧ Sl jx 5 x t ((r.1).Kids))
 | 0 => by intros; rename_i h; simp only [nh] at h; cases h
 | n + 1 => zW (nh n) (xA n)
theorem Gu (c : Formula) (u : Value) (r : (Formula × Int)) (w : World) {Z : km} (O : ni Z [] w) (k : Sl jx 5 Z u c.Kids) (hm : yb c = some r) :
  lT false pg0 114 [(.agg #[(.int .i64 c.Op), (.int .i64 c.K), (.string c.ju.jw), (.string c.ju.Word), u])] w Z [] (fun v L1 μ1 => ∃ A, v = (.tuple #[(.agg #[(.int .i64 ((r.1).Op)), (.int .i64 ((r.1).K)), (.string (((r.1).ju).jw)), (.string (((r.1).ju).Word)), A]), (.int .i64 (r.2))]) ∧ L1 = [] ∧ Sl jx 5 μ1 A ((r.1).Kids)) := by
 refine uW O 27 func114 rfl (fun b => sg ?_)
 obtain ⟨H, I, rfl⟩ := k.form
 let n := (C1 c.Op c.K c.ju.jw c.ju.Word H c.Kids.length I)
 refine VE (kd b rfl (fun W4 R b => VE (ku b aO (fun W6 p b => Wa (lS (VA b (Mt Mh) n aI aB (bS hm fun r7 a5 hm => VE (Eg b call129 (wz c (.slice H c.Kids.length I) _ _ (k.mono jF.mono b.jB) a5) (fun W9 b => V (mT rfl) (ln (CI hm rfl (fun Q hm => ?_) (fun Q hm => ?_))))))))))))
 ·refine sg (V (lC (v := (.agg C6.toArray)) qt (kW aO bD (tS _ bD) kr)) (VO (jR (.agg C6.toArray) (C6.toArray) b rfl rfl aB oc nb rfl (fun b6 b => Wa (ln ?_)))))
  replace b := b.jy (Kb (Db St))
  refine kh (kw ?_)
  obtain rfl := sj hm
  exact ra (v0 := (.agg C6.toArray)) (v1 := (.int .i64 11)) rfl rfl (jD b.has Mh C6 rfl aI aB) rfl ⟨_, _, _, rfl, (b.lO Sn), (kj.refl _), Lo.refl, (ST.kR b (mB.mem Sn)), (.slice none 0 0), rfl, rfl, (Sl.nil _ _ _)⟩
 refine kg (V (lC (v := (.agg (lF Ur).toArray)) qt (kW zeroValue224 iP (TH _ iP) kr)) (VE (kd b rfl (fun b7 L b => Wa (lr (Wm (VA b (Mt (Mt Mh)) n aI aB (bS hm fun a U hm => ?_))))))))
 let m : Value := (.int .i64 ((a.1).K))
 let l : Value := (.int .i64 ((a.1).Op))
 let h : Value := (.string (((a.1).ju).Word))
 let a2 : Value := (.string (((a.1).ju).jw))
 refine VE (eD b (Cb Pz Cn) call181 (fun P => ((xA ki) L Ur c (.slice H c.Kids.length I) _ _ P (k.mono jF.mono (kj.refl _)) U)) ?_)
 rintro _ c7 a9 b4 b D d ⟨c9, y, rfl, z⟩
 obtain rfl := y.symm
 replace b := b.perm (Tb Tn)
 refine VE (ku b aO (fun c0 K b => ?_))
 obtain ⟨i, j, rfl⟩ := z.form
 let a0 : Value := (.slice i ((a.1).Kids).length j)
 let N : Value := (.agg #[l, m, a2, h, a0])
 refine VO (jR N (#[l, m, a2, h, a0]) b rfl rfl aB oc nb rfl (fun c1 b => ln ?_))
 replace b := b.jy (Kb (Kb (Kb (Db St))))
 refine jM (sg (Wm (Wn (Wf LU (VB b (Mt Mh) rfl rfl isAgg109 (Wi rfl (Wm (LJ hm (fun M E W => ∃ J, ST false (keys []) w W a9 ((K, Ob #[l, m, a2, h, a0] 30) :: ((p, Ol C6 30) :: J)) ∧ E 2 = (.pointer (some ⟨p, 0, none⟩)) ∧ E 5 = (.pointer (some ⟨K, 0, none⟩)) ∧ E 24 = (.bool M)) 4 ?_ (fun M t G => ?_)))))))))
 ·rintro c8 E W ⟨J, b, B, a3, a4⟩ x
  refine ln (CI x a4 (fun T x => ?_) (fun T x => ?_))
  ·refine sg (V (lC (v := (.agg C6.toArray)) qt (kW aO bD (tS _ bD) kr)) ?_)
   replace b := b.perm (Nb (Pb Pz) Nz)
   refine VO (jR (.agg C6.toArray) (C6.toArray) b B rfl aB oc nb rfl (fun c3 b => Wa (ln ?_)))
   replace b := b.jy (Kb (Db St))
   refine kh (kw ?_)
   obtain rfl := sj x
   exact ra (v0 := (.agg C6.toArray)) (v1 := (.int .i64 12)) rfl B (jD b.has Mh C6 rfl aI aB) rfl ⟨_, _, _, rfl, (b.lO Sn), D, d, (ST.kR b (mB.mem Sn)), (.slice none 0 0), rfl, rfl, (Sl.nil _ _ _)⟩
  refine kg (V (jA a3 (jD b.has Mh [l, m, a2, h, a0] rfl aI aB)) ?_)
  replace b := b.perm (Nb (Pb Pz) Nz)
  refine VO (jR N (#[l, m, a2, h, a0]) b B rfl aB oc nb rfl (fun c4 b => Wa (ln ?_)))
  replace b := b.jy (Kb (Db St))
  refine kh ?_
  obtain rfl := sj x
  exact ra (v0 := N) (v1 := (.int .i64 0)) rfl B (jD b.has Mh [l, m, a2, h, a0] rfl aI aB) rfl ⟨_, _, _, rfl, (b.lO Sn), D, d, (ST.kR b (mB.mem Sn)), a0, rfl, rfl, z⟩
 refine bC t (fun g t => ?_) (fun g t => ?_)
 ·refine un g (un g (un g (V (jS (cB g) rfl) ?_)))
  obtain rfl := sj t
  exact G _ _ ⟨_, (b.jy (Kb (Db St))), rfl, rfl, rfl⟩
 refine ug g (jA rfl (jD b.has Mh [l, m, a2, h, a0] rfl aI aB)) (bS t fun c6 Y t => pE g (Eg b call129 (wz a.1 a0 _ _ (z.mono jF.mono b.jB) Y) (fun c5 b => ug g (mT rfl) (V (jT (cB g) rfl) ?_))))
 obtain rfl := sj t
 exact G _ _ ⟨_, (b.jy (Kb (Db St))), rfl, rfl, rfl⟩
theorem Jx (a : Formula) (k : Value) (c : Formula) (t : Value) (r : (Formula × Int)) (w : World) {N : km} (A : ni N [] w) (i : Sl jx 5 N k a.Kids) (j : Sl jx 5 N t c.Kids) (hm : yj a c = some r) :
  lT false pg0 258 [(.agg #[(.int .i64 a.Op), (.int .i64 a.K), (.string a.ju.jw), (.string a.ju.Word), k]), (.agg #[(.int .i64 c.Op), (.int .i64 c.K), (.string c.ju.jw), (.string c.ju.Word), t])] w N [] (fun v Z μ1 => ∃ Y, v = (.tuple #[(.agg #[(.int .i64 ((r.1).Op)), (.int .i64 ((r.1).K)), (.string (((r.1).ju).jw)), (.string (((r.1).ju).Word)), Y]), (.int .i64 (r.2))]) ∧ Z = [] ∧ Sl jx 5 μ1 Y ((r.1).Kids)) := by
 refine uW A 13 func258 rfl (fun b => sg ?_)
 obtain ⟨u, z, rfl⟩ := i.form
 let a3 : Value := (.slice u a.Kids.length z)
 refine VE (kd b rfl (fun W4 b3 b => ?_))
 obtain ⟨y, G, rfl⟩ := j.form
 let n : Value := (.slice y c.Kids.length G)
 refine VE (kd b rfl (fun W8 b7 b => VE (ku b aO (fun a5 b9 b => Wa (lr (VA b (Mt (Mt Mh)) (C1 a.Op a.K a.ju.jw a.ju.Word u a.Kids.length z) aI aB (VA b (Mt Mh) (C1 c.Op c.K c.ju.jw c.ju.Word y c.Kids.length G) aI aB (VE (kq (cs := #[(.int .i64 a.Op), (.int .i64 a.K), (.string a.ju.jw), (.string a.ju.Word), a3, (.int .i64 c.Op), (.int .i64 c.K), (.string c.ju.jw), (.string c.ju.Word), n]) b (pw rfl rfl) (mr aD aB aO) (fun L I b => V (lC (v := (.agg #[(.int .i64 2), (.int .i64 0), (.string zS), (.string zS), (.slice (some ⟨I, 0, none⟩) 2 2)])) (pw rfl rfl) (kW aO bD (tS _ bD) kr)) ?_))))))))))
 obtain ⟨R, b, K, d, U⟩ := ST.uf (B := [(I, Ob #[(.int .i64 a.Op), (.int .i64 a.K), (.string a.ju.jw), (.string a.ju.Word), a3, (.int .i64 c.Op), (.int .i64 c.K), (.string c.ju.jw), (.string c.ju.Word), n] 30)]) jF b (kK.lit jF (l := [a, c]) (.cons (ys := C1 a.Op a.K a.ju.jw a.ju.Word u a.Kids.length z) (jx.mk ⟨a3, rfl, i⟩) (.cons (ys := C1 c.Op c.K c.ju.jw c.ju.Word y c.Kids.length G) (jx.mk ⟨n, rfl, j⟩) .nil)) rfl nb rfl)
 refine bS hm fun g T hm => ?_
 let p : Value := (.int .i64 ((g.1).Op))
 let a2 : Value := (.string (((g.1).ju).Word))
 let m : Value := (.string (((g.1).ju).jw))
 refine VE (eD b (bT _) call114 (fun E => (Gu (⟨2, 0, K0, [a, c]⟩ : Formula) (.slice (some ⟨I, 0, none⟩) 2 2) _ _ E (U.mono jF.mono (kj.refl _)) T)) ?_ (L0 := []))
 rintro _ a9 W a4 b M h ⟨P, H, rfl, J⟩
 obtain rfl := H.symm
 refine Wx rfl (Wx rfl ?_)
 obtain ⟨x, D, rfl⟩ := J.form
 let a0 : Value := (.slice x ((g.1).Kids).length D)
 let Q : Value := (.agg #[p, (.int .i64 ((g.1).K)), m, a2, a0])
 refine VO (jR Q (#[p, (.int .i64 ((g.1).K)), m, a2, a0]) b rfl rfl aB oc nb rfl (fun O b => Wa (ln ?_)))
 replace b := b.jy (Kb (Db (Db St)))
 refine kh ?_
 obtain rfl := sj hm
 exact ra (v0 := Q) (v1 := (.int .i64 g.2)) rfl rfl (jD b.has Mh [p, (.int .i64 ((g.1).K)), m, a2, a0] rfl aI aB) rfl ⟨_, _, _, rfl, (b.lO Sn), (K.trans M), (d.trans h), (ST.kR b (mB.mem Sn)), a0, rfl, rfl, J⟩
theorem Lw (d1 : Value) (a0 : List Formula) (r : (Formula × Int)) (w : World) {μ0 : km} (h0 : ni μ0 [] w) (c7 : Sl jx 5 μ0 d1 a0) (hm : wm a0 = some r) :
  lT false pg0 194 [d1] w μ0 [] (fun v L1 μ1 => ∃ y1, v = (.tuple #[(.agg #[(.int .i64 ((r.1).Op)), (.int .i64 ((r.1).K)), (.string (((r.1).ju).jw)), (.string (((r.1).ju).Word)), y1]), (.int .i64 (r.2))]) ∧ L1 = [] ∧ Sl jx 5 μ1 y1 ((r.1).Kids)) := by
 let e5 := (a0.drop (Int.toNat 1))
 refine uW h0 36 func194 rfl (fun b => sg (VE (ku b aO (fun W2 O b => Wa (lr (Wm (bS hm fun x6 e3 hm => VQ (lU (i := 0) (x0 := x6) jx.out aD aB rfl rfl c7 (ky e3) (kv e3)) (fun p3 ⟨_, ⟨v8, rfl, f2⟩, f1⟩ => V (jA rfl (kf b.has f1 aI aB)) (bS hm fun j e6 hm => ?_)))))))))
 refine VE (eD b (bT _) call114 (fun hh => (Gu x6 v8 _ _ hh (f2.mono jF.mono (kj.refl _)) e6)) ?_ (L0 := []))
 rintro _ i4 a9 i0 b a4 m ⟨i5, b6, rfl, d0⟩
 obtain rfl := b6.symm
 refine Wm (Wx rfl (Wx rfl (VE (ku b aO (fun i2 P b => ?_)))))
 obtain ⟨c2, c5, rfl⟩ := d0.form
 let d2 : Value := (.slice c2 ((j.1).Kids).length c5)
 refine VO (jR (.agg #[(.int .i64 ((j.1).Op)), (.int .i64 ((j.1).K)), (.string (((j.1).ju).jw)), (.string (((j.1).ju).Word)), d2]) (#[(.int .i64 ((j.1).Op)), (.int .i64 ((j.1).K)), (.string (((j.1).ju).jw)), (.string (((j.1).ju).Word)), d2]) b rfl rfl aB oc nb rfl (fun i3 b => Wa (lS (Wm (bS hm fun _ c8 hm => VQ (CD (i := 1) aD aB rfl rfl (c7.mono jF.mono a4) (vL c8) (vE c8)) (fun f3 b5 => V (kU aD rfl b5.1) (Wm (ln (CJ hm (fun u E W => ∃ A U c3, kj a9 U ∧ Lo (keys []) w a9 U ∧ ST false (keys []) w W U ((P, Ob #[(.int .i64 u.2.1), (.int .i64 u.2.2.1), (.string u.2.2.2.1.jw), (.string u.2.2.2.1.Word), A] 30) :: ((O, Ol C6 30) :: c3)) ∧ E 2 = (.pointer (some ⟨O, 0, none⟩)) ∧ E 4 = (.pointer (some ⟨P, 0, none⟩)) ∧ E 5 = (.int .i64 u.1) ∧ Sl jx 5 U A u.2.2.2.2) (fun u d7 => ?_) ?_)))))))))
 ·refine kC (fun i E W => ∃ L G H y x N z b2, (E 18 = .int .i64 (i : Nat) ∧ E 17 = .int .i64 (e5.length : Nat)) ∧ kj a9 z ∧ Lo (keys []) w a9 z ∧ ST false (keys []) w W z ((P, Ob #[(.int .i64 G), (.int .i64 H), (.string y.jw), (.string y.Word), x] 30) :: ((O, Ol C6 30) :: b2)) ∧ E 2 = (.pointer (some ⟨O, 0, none⟩)) ∧ E 4 = (.pointer (some ⟨P, 0, none⟩)) ∧ E 5 = (.int .i64 L) ∧ E 16 = f3 ∧ Sl jx 5 z x N ∧ tp (e5.drop i) L G H y N = some u) e5.length b5.1.len ⟨j.2, ((j.1).Op), ((j.1).K), ((j.1).ju), d2, ((j.1).Kids), a9, _, ⟨rfl, rfl⟩, (kj.refl _), Lo.refl, (b.jy St), rfl, rfl, rfl, rfl, d0, d7⟩ dc dc dc (fun _ _ _ h => by obtain ⟨_, _, _, _, _, _, _, _, aa, _⟩ := h; exact aa) ?_ ?_
  ·rintro e7 E W d6 ⟨L, G, H, y, x, N, z, b2, ⟨eI, eN⟩, t, d, b, a2, D, a3, b4, I, c⟩
   obtain ⟨a, f6, e1, e0, e2⟩ := kp d6
   rw [e1] at c
   refine bg (VQ (lU (i := (e7 : Int)) (x0 := a) jx.out aD aB b4 eI (b5.1.mono jF.mono t) (aG _) e0) (fun h1 ⟨_, ⟨h4, rfl, c0⟩, d8⟩ => V (jA rfl (kf b.has d8 aI aB)) (VE (ku b aO (fun g2 g8 b => ?_)))))
   obtain ⟨Y, Z, rfl⟩ := c0.form
   let b8 := (C1 a.Op a.K a.ju.jw a.ju.Word Y a.Kids.length Z)
   refine VO (jR (.agg b8.toArray) (b8.toArray) b rfl rfl aB oc nb rfl (fun g3 b => lS (Wh a3 (Wi rfl (ln (CI c rfl (fun d5 c => ?_) (fun d5 c => ?_)))))))
   ·refine mF (ml (Tk (by simp) (ml (oU (jI ?_)))))
    obtain rfl := sj c
    exact ⟨x, z, _, t, d, (b.jy (Db St)), a2, D, a3, I⟩
   refine kn (jL (V (jA D (jD b.has (Mt Mh) [(.int .i64 G), (.int .i64 H), (.string y.jw), (.string y.Word), x] rfl aI aB)) (VA b Mh b8 aI aB (bS c fun g d9 c => ?_))))
   refine VE (eD b (bT _) call258 (fun hh => (Jx (⟨G, H, y, N⟩ : Formula) x a (.slice Y a.Kids.length Z) _ _ hh (I.mono jF.mono (kj.refl _)) (c0.mono jF.mono (kj.refl _)) d9)) ?_ (L0 := []))
   rintro _ h5 f0 f9 b c9 n ⟨h8, a5, rfl, c1⟩
   obtain rfl := a5.symm
   refine Wm (Wx rfl (Wx rfl ?_))
   obtain ⟨b0, b3, rfl⟩ := c1.form
   let d3 : Value := (.slice b0 ((g.1).Kids).length b3)
   replace b := b.perm (Nb (Pb Pz) Nz)
   refine VO (jR (.agg #[(.int .i64 ((g.1).Op)), (.int .i64 ((g.1).K)), (.string (((g.1).ju).jw)), (.string (((g.1).ju).Word)), d3]) (#[(.int .i64 ((g.1).Op)), (.int .i64 ((g.1).K)), (.string (((g.1).ju).jw)), (.string (((g.1).ju).Word)), d3]) b D rfl aB oc nb rfl (fun g7 b => Wa (kk (kA (jI ?_)))))
   replace b := b.jy (Kb (Db St))
   exact ⟨eI, g.2, ((g.1).Op), ((g.1).K), ((g.1).ju), d3, ((g.1).Kids), f0, _, ⟨rfl, eN⟩, (t.trans c9), (d.trans n), (b.jy St), a2, D, rfl, b4, c1, (by rw [e2]; exact c)⟩
  rintro E W ⟨L, G, H, y, x, N, z, b2, ⟨eI, eN⟩, t, d, b, a2, D, a3, b4, I, c⟩
  rw [aH] at c
  refine jI ?_
  obtain rfl := sj c
  exact ⟨x, z, _, t, d, (b.jy St), a2, D, a3, I⟩
 rintro ⟨e8, Q, T, k, M⟩ E W ⟨A, U, c3, a8, l, b, p, e4, c6, b9⟩ B
 refine jM (sg (Wh c6 (Wi rfl (ln (CI B rfl (fun d4 B => ?_) (fun d4 B => ?_))))))
 ·refine sg (V (lC (v := (.agg C6.toArray)) qt (kW aO bD (tS _ bD) kr)) (Wh c6 ?_))
  replace b := b.perm (Nb (Pb Pz) Nz)
  refine VO (jR (.agg C6.toArray) (C6.toArray) b p rfl aB oc nb rfl (fun g0 b => Wa (ln ?_)))
  replace b := b.jy (Kb (Db St))
  refine kh (kw ?_)
  obtain rfl := sj B
  exact ra (v0 := (.agg C6.toArray)) (v1 := (.int .i64 e8)) rfl p (jD b.has Mh C6 rfl aI aB) rfl ⟨_, _, _, rfl, (b.lO Sn), (a4.trans a8), (m.trans l), (ST.kR b (mB.mem Sn)), (.slice none 0 0), rfl, rfl, (Sl.nil _ _ _)⟩
 refine kg (V (jA e4 (jD b.has Mh [(.int .i64 Q), (.int .i64 T), (.string k.jw), (.string k.Word), A] rfl aI aB)) ?_)
 obtain ⟨J, K, rfl⟩ := b9.form
 let R := (C1 Q T k.jw k.Word J M.length K)
 replace b := b.perm (Nb (Pb Pz) Nz)
 refine VO (jR (.agg R.toArray) (R.toArray) b p rfl aB oc nb rfl (fun g1 b => Wa (ln ?_)))
 replace b := b.jy (Kb (Db St))
 refine kh ?_
 obtain rfl := sj B
 exact ra (v0 := (.agg R.toArray)) (v1 := (.int .i64 0)) rfl p (jD b.has Mh R rfl aI aB) rfl ⟨_, _, _, rfl, (b.lO Sn), (a4.trans a8), (m.trans l), (ST.kR b (mB.mem Sn)), (.slice J M.length K), rfl, rfl, b9⟩
theorem Ny (k : kD) (G H : Value) (p : jv) (r : (Formula × Int)) (w : World) {μ0 : km} (h0 : ni μ0 [] w) (t : Sl jU 15 μ0 G k.jJ) (y : Sl kH 8 μ0 H k.jW) (hm : AY k p = some r) :
  lT false pg0 124 [(.agg #[(.string k.Name), G, H]), (.agg (jz p).toArray)] w μ0 [] (fun v L1 μ1 => ∃ y1, v = (.tuple #[(.agg #[(.int .i64 ((r.1).Op)), (.int .i64 ((r.1).K)), (.string (((r.1).ju).jw)), (.string (((r.1).ju).Word)), y1]), (.int .i64 (r.2))]) ∧ L1 = [] ∧ Sl jx 5 μ1 y1 ((r.1).Kids)) := by
 refine uW h0 41 func124 rfl (fun b => sg ?_)
 obtain ⟨A1, c2, rfl⟩ := t.form
 obtain ⟨A3, c4, rfl⟩ := y.form
 let f5 := (C5 k.Name A1 k.jJ.length c2 A3 k.jW.length c4)
 refine VE (kd b rfl (fun W6 b5 b => VE (kd b rfl (fun W8 b7 b => VE (ku b aO (fun i4 b9 b => Wa (lr (VA b (Mt (Mt Mh)) f5 dt cL (VA b (Mt Mh) (jz p) bR aJ (bS hm fun a e7 hm => ?_))))))))))
 let b8 : Value := (.int .i64 (((a.1).jC).K))
 let A : Value := (.int .i64 (((a.1).jC).Op))
 let b1 := (((a.1).jC).ju)
 let L : Value := (.string (b1.Word))
 let d8 : Value := (.string (b1.jw))
 let a0 := (((a.1).Signed).jv)
 refine VE (eD b (bT _) call192 (fun O => (KY k (.slice A1 k.jJ.length c2) (.slice A3 k.jW.length c4) p _ _ O (t.mono jX.mono (kj.refl _)) (y.mono lx.mono (kj.refl _)) e7)) ?_ (L0 := []))
 rintro _ j4 j8 i2 b I d ⟨j6, j7, a5, rfl, e9, c5⟩
 obtain rfl := a5.symm
 refine Wm (Wx rfl (Wx rfl (VE (ku b eU (fun i6 j3 b => ?_)))))
 obtain ⟨d9, e1, rfl⟩ := e9.form
 let f8 : Value := (.slice d9 (((a.1).Signed).Tag).length e1)
 obtain ⟨z, D, rfl⟩ := c5.form
 let a2 : Value := (.slice z (((a.1).jC).Kids).length D)
 refine VO (jR (.agg #[(.int .i64 (a0.Kind)), (.string ((a0.Head).jw)), (.string ((a0.Head).Word)), (.string (a0.kE)), (.string ((a0.B).jw)), (.string ((a0.B).Word)), (.string ((a0.C).jw)), (.string ((a0.C).Word)), (.string (a0.kL)), f8, A, b8, d8, L, a2]) (#[(.int .i64 (a0.Kind)), (.string ((a0.Head).jw)), (.string ((a0.Head).Word)), (.string (a0.kE)), (.string ((a0.B).jw)), (.string ((a0.B).Word)), (.string ((a0.C).jw)), (.string ((a0.C).Word)), (.string (a0.kL)), f8, A, b8, d8, L, a2]) b rfl rfl dD oc nb rfl (fun i7 b => Wa (lS (Wm (V (mT rfl) (ln (CI hm rfl (fun e6 hm => ?_) (fun e6 hm => ?_))))))))
 ·refine sg (V (lC (v := (.agg C6.toArray)) qt (kW aO bD (tS _ bD) kr)) ?_)
  replace b := b.perm (Nb (Pb Pz) Nz)
  refine VO (jR (.agg C6.toArray) (C6.toArray) b rfl rfl aB oc nb rfl (fun i8 b => Wa (ln ?_)))
  replace b := b.jy (Kb (Db (Db (Db St))))
  refine kh (kw ?_)
  obtain rfl := sj hm
  exact ra (v0 := (.agg C6.toArray)) (v1 := (.int .i64 42)) rfl rfl (jD b.has Mh C6 rfl aI aB) rfl ⟨_, _, _, rfl, (b.lO Sn), I, d, (ST.kR b (mB.mem Sn)), (.slice none 0 0), rfl, rfl, (Sl.nil _ _ _)⟩
 refine kg (Wf KG (VA b Mh [A, b8, d8, L, a2] aI aB (VE (kq (cs := #[A, b8, d8, L, a2]) b (lW rfl) (mr aD aB aO) (fun i9 e0 b => Wa (ln ?_))))))
 replace b := b.jy (Kb (Db St))
 refine jM (sg (VA b (Mt (Mt (Mt Mh))) f5 dt cL (VA b (Mt (Mt Mh)) (jz p) bR aJ (bS hm fun c6 e8 hm => ?_))))
 refine VE (eD b (bT _) call193 (fun O => (JF k (.slice A1 k.jJ.length c2) (.slice A3 k.jW.length c4) p _ _ O (t.mono jX.mono I) (y.mono lx.mono I) e8)) ?_ (L0 := []))
 rintro _ j5 e2 i3 b a8 P ⟨f6, a6, rfl, a7⟩
 obtain rfl := a6.symm
 refine V (kU dr rfl a7) (Wm (ln ?_))
 replace b := b.jy (Kb (Kb (Db (Db St))))
 replace b := b.Fk
 refine kC (fun i E W => ∃ Q N K Z, (E 27 = .int .i64 (i : Nat) ∧ E 26 = .int .i64 (c6.length : Nat)) ∧ ST false (keys []) w W e2 ((b9, Ol C6 30) :: (K ++ Z)) ∧ E 4 = (.pointer (some ⟨b9, 0, none⟩)) ∧ E 8 = Q ∧ E 25 = f6 ∧ kK 30 jx 5 e2 Q N K ∧ ul (c6.drop i) N = some r) c6.length a7.len ⟨(.slice (some ⟨e0, 0, none⟩) 1 1), ([(a.1).jC]), [(e0, Ob #[A, b8, d8, L, a2] 30)], _, ⟨rfl, rfl⟩, (b.jy (Sb (Pr Pz) St)), rfl, rfl, rfl, (kK.lit jF (l := [(a.1).jC]) (.cons (ys := [A, b8, d8, L, a2]) (jx.mk ⟨a2, rfl, (c5.mono jF.mono a8)⟩) .nil) rfl nb rfl), hm⟩ dc dc dc (fun _ _ _ h => by obtain ⟨_, _, _, _, aa, _⟩ := h; exact aa) ?_ ?_
 ·rintro f0 E W d0 ⟨Q, N, K, Z, ⟨eI, eN⟩, b, T, a3, a4, U, j⟩
  obtain ⟨c, f7, d6, d5, d7⟩ := kp d0
  rw [d6] at j
  refine bg (VQ (lU (i := (f0 : Int)) (x0 := c) kH.out dr dQ a4 eI a7 (aG _) d5) (fun h2 ⟨_, ⟨h5, h6, rfl, a9, d3⟩, d1⟩ => V (jA rfl (kf b.has d1 iX dQ)) (VE (ku b gu (fun g0 g8 b => ?_)))))
  obtain ⟨u, x, rfl⟩ := a9.form
  let c7 := (C1 c.jC.Op c.jC.K c.jC.ju.jw c.jC.ju.Word u c.jC.Kids.length x)
  obtain ⟨b2, b6, rfl⟩ := d3.form
  let c0 := (C9 c.ju.jw c.ju.Word c.jC.Op c.jC.K c.jC.ju.jw c.jC.ju.Word u c.jC.Kids.length x b2 c.me.length b6)
  refine VO (jR (.agg c0.toArray) (c0.toArray) b rfl rfl dQ oc nb rfl (fun g1 b => ln (jL (Wh a3 (Wf Ir (VA b Mh c7 aI aB (VE (kq (cs := c7.toArray) b (lW rfl) (mr aD aB aO) (fun g2 g9 b => ?_)))))))))
  replace b := b.perm (Nr (Qb (Qb (Qb Qz))) Nz)
  refine bS j fun f1 c9 j => VE (pJ (B := K) jF b dc aD lM.1 lM.2.1 rfl lM.2.2.1 lM.2.2.2 rfl rfl U (xZ.lit jF (l := [c.jC]) (.cons (ys := C1 c.jC.Op c.jC.K c.jC.ju.jw c.jC.ju.Word u c.jC.Kids.length x) (jx.mk ⟨(.slice u c.jC.Kids.length x), rfl, a9⟩) .nil) rfl nb (b.at_ (Ma Mh))) c9 (fun g3 f2 e3 b c8 => Wa (kk (kA (jI ?_)))))
  replace b := b.jy (Kr (Db (Db St)))
  exact ⟨eI, f2, f1, e3, _, ⟨rfl, eN⟩, (b.jy (Sb (Pr Pz) St)), T, rfl, a4, c8, (by rw [d7]; exact j)⟩
 rintro E W ⟨Q, N, K, Z, ⟨eI, eN⟩, b, T, a3, a4, U, j⟩
 rw [aH] at j
 refine jI (sg (Wh a3 ?_))
 replace b := b.perm (Nr (Qb Qz) Nz)
 obtain ⟨i0, b, c1, m, d4⟩ := ST.uf jF b U
 refine bS j fun g d2 j => ?_
 let g4 : Value := (.int .i64 ((g.1).Op))
 let f4 : Value := (.string (((g.1).ju).Word))
 let f3 : Value := (.string (((g.1).ju).jw))
 refine VE (eD b (bT _) call194 (fun O => (Lw Q N _ _ O (d4.mono jF.mono (kj.refl _)) d2)) ?_ (L0 := []))
 rintro _ h7 i1 f9 b c3 n ⟨h8, Y, rfl, b0⟩
 obtain rfl := Y.symm
 refine Wx rfl (Wx rfl ?_)
 obtain ⟨J, M, rfl⟩ := b0.form
 let R : Value := (.slice J ((g.1).Kids).length M)
 let b4 : Value := (.agg #[g4, (.int .i64 ((g.1).K)), f3, f4, R])
 refine VO (jR b4 (#[g4, (.int .i64 ((g.1).K)), f3, f4, R]) b T rfl aB oc nb rfl (fun g7 b => Wa (lt ?_)))
 obtain rfl := sj j
 exact ra (v0 := b4) (v1 := (.int .i64 g.2)) rfl T (jD b.has Mh [g4, (.int .i64 ((g.1).K)), f3, f4, R] rfl aI aB) rfl ⟨_, _, _, rfl, (b.lO Sn), (((I.trans a8).trans c1).trans c3), (((d.trans P).trans m).trans n), (ST.kR b (mB.mem Sn)), R, rfl, rfl, b0⟩
theorem DL (Q : Formula → (ju → Option Bool) → Option Bool) (a5 : ∀ (g : Formula) (k : Value) (t : Value) (J : ju → Option Bool) (r : Bool) (w : World) (c : Sl jx 5 (hp w) k g.Kids) (K : tF pg0 t (hp w) (fun (x : ju) => [(.agg (jE x).toArray)]) (fun (r : Bool) => (.bool r)) J), Q g J = some r → jV false pg0 130 [(.agg #[(.int .i64 g.Op), (.int .i64 g.K), (.string g.ju.jw), (.string g.ju.Word), k]), t] w (.bool r)) (g : Formula) (k t : Value) (J : ju → Option Bool) (r : Bool) (w : World) (c : Sl jx 5 (hp w) k g.Kids) (K : tF pg0 t (hp w) (fun (x : ju) => [(.agg (jE x).toArray)]) (fun (r : Bool) => (.bool r)) J) (hm : vG Q g J = some r) :
  jV false pg0 130 [(.agg #[(.int .i64 g.Op), (.int .i64 g.K), (.string g.ju.jw), (.string g.ju.Word), k]), t] w (.bool r) := by
 refine cG 45 func130 rfl (fun b => sg ?_)
 obtain ⟨A1, c2, rfl⟩ := c.form
 refine VE (kd b rfl (fun W4 n b => Wa (lS (Wf nq (VB b Mh rfl rfl bY (Wi rfl (ln (CI hm rfl (fun a9 hm => ?_) (fun a9 hm => ?_)))))))))
 ·refine sg (Wm (Wf tJ (VA b Mh (jE g.ju) bn aN (bS hm fun r6 L hm => VE (La g.ju b K (kj.refl _) rfl (qW rfl) L (fun W8 b => Wa (ln ?_)))))))
  replace b := b.jy (Db St)
  refine kh (kw ?_)
  obtain rfl := sj hm
  exact rP b
 refine kg (Wa (lS (Wf np (VB b Mh rfl rfl dJ (V (kU aD rfl c) (Wm (kk ?_)))))))
 refine jI (kC (fun i E W => ∃ z I, (E 18 = .int .i64 (i : Nat) ∧ E 17 = .int .i64 (g.Kids.length : Nat)) ∧ ST false kx w W (hp w) ((n, Ol (C1 g.Op g.K g.ju.jw g.ju.Word A1 g.Kids.length c2) 30) :: I) ∧ E 1 = t ∧ E 2 = (.pointer (some ⟨n, 0, none⟩)) ∧ E 5 = (.int .i64 z) ∧ E 16 = (.slice A1 g.Kids.length c2) ∧ oZ Q J g (g.Kids.drop i) z = some r) g.Kids.length c.len ⟨0, _, ⟨rfl, rfl⟩, (b.jy St), rfl, rfl, rfl, rfl, hm⟩ dc dc dc (fun _ _ _ h => by obtain ⟨_, _, l, _⟩ := h; exact l) ?_ ?_)
 ·rintro O E W a4 ⟨z, I, ⟨d, m⟩, b, G, u, y, H, a⟩
  obtain ⟨j, c1, A, v, N⟩ := kp a4
  rw [A] at a
  refine bg (VQ (lU (i := (O : Int)) (x0 := j) jx.out aD aB H d c (aG _) v) (fun b7 ⟨_, ⟨c0, rfl, M⟩, Z⟩ => V (jA rfl (kf b.has Z aI aB)) (VE (ku b aO (fun P b6 b => ?_)))))
  obtain ⟨B, D, rfl⟩ := M.form
  let a0 := (C1 j.Op j.K j.ju.jw j.ju.Word B j.Kids.length D)
  refine VO (jR (.agg a0.toArray) (a0.toArray) b rfl rfl aB oc nb rfl (fun R b => lr (VA b Mh a0 aI aB (Wh G (bS a fun b9 p a => VE (Eg b call130 (a5 j (.slice B j.Kids.length D) t J _ _ (M.mono jF.mono b.jB) (K.mono b.jB) p) (fun b5 b => ln ?_)))))))
  replace b := b.jy (Db St)
  refine CI a rfl (fun T a => ?_) (fun T a => ?_)
  ·exact jL (Wh y (Wi rfl (Wa (kk (kA (jI ⟨d, (wi0 .i64 (z + 1)), _, ⟨rfl, m⟩, (b.jy St), G, u, rfl, H, (by rw [N]; exact a)⟩))))))
  exact kX (kA (jI ⟨d, z, _, ⟨rfl, m⟩, (b.jy St), G, u, y, H, (by rw [N]; exact a)⟩))
 rintro E W ⟨z, I, ⟨d, m⟩, b, G, u, y, H, a⟩
 rw [aH] at a
 refine jI (jM (sg (V (jG nq u) (VB b Mh rfl rfl bY (ln (bg (Wi rfl (Wa (ln ?_)))))))))
 refine CI a rfl (fun U a => ?_) (fun U a => ?_)
 ·refine sg (Wh y (V (jG np u) (VB b Mh rfl rfl dJ (V (kU aD rfl c) (Wi rfl (Wa (ln ?_)))))))
  replace b := b.jy (Db St)
  refine kh (mi (kw ?_))
  obtain rfl := sj a
  exact rP b
 refine sg (Wi rfl (Wa (ln (CI a rfl (fun Y a => ?_) (fun Y a => ?_)))))
 ·refine sg (Wh y (Wi rfl (Wa (ln ?_))))
  replace b := b.jy (Db St)
  refine kh (mi (kw ?_))
  obtain rfl := sj a
  exact rP b
 refine kX (kA (jI (sg (Wh y (V (jG rr u) (VB b Mh rfl rfl bY (Wi rfl (Wa (ln ?_)))))))))
 exact kh (rQ a b)
theorem Ck : ∀ (n : Nat) (c : Formula) (a : Value) (g : Value) (j : ju → Option Bool) (r : Bool) (w : World) (i : Sl jx 5 (hp w) a c.Kids) (k : tF pg0 g (hp w) (fun (x : ju) => [(.agg (jE x).toArray)]) (fun (r : Bool) => (.bool r)) j) (_ : pK n c j = some r),
  jV false pg0 130 [(.agg #[(.int .i64 c.Op), (.int .i64 c.K), (.string c.ju.jw), (.string c.ju.Word), a]), g] w (.bool r)
 | 0 => by intros; rename_i h; simp only [pK] at h; cases h
 | n + 1 => DL (pK n) (Ck n)
theorem CV (a : Formula) (j k : Value) (G : ju → Option Bool) (r : Bool) (w : World) (c : Sl jx 5 (hp w) j a.Kids) (z : tF pg0 k (hp w) (fun (x : ju) => [(.agg (jE x).toArray)]) (fun (r : Bool) => (.bool r)) G) (hm : vp a G = some r) :
  jV false pg0 54 [(.agg #[(.int .i64 a.Op), (.int .i64 a.K), (.string a.ju.jw), (.string a.ju.Word), j]), k] w (.bool r) := by
 refine cG 16 func54 rfl (fun b => sg ?_)
 obtain ⟨u, y, rfl⟩ := c.form
 let a0 := (C1 a.Op a.K a.ju.jw a.ju.Word u a.Kids.length y)
 refine VE (kd b rfl (fun U Z b => Wa (lr (Wm (V (OX underlying101 z.form rfl rfl) (Wm (Vg rfl rfl (jA rfl (jD b.has Mh a0 rfl aI aB)) (bS hm fun d K hm => OO rfl rfl (Eg b call129 (wz a (.slice u a.Kids.length y) _ _ (c.mono jF.mono b.jB) K) (fun Y b => V (jS rfl rfl) (Wm (LJ hm (fun D E W => ∃ B, ST false kx w W (hp w) B ∧ E 4 = (.bool false) ∧ E 15 = (.bool D)) 4 ?_ (fun D g t => ?_)))))))))))))
 ·rintro T E W ⟨B, b, N, J⟩ H
  exact Wg J (lt (rQ H b))
 refine bC g (fun i g => ?_) (fun i g => ?_)
 ·refine ug i (jA rfl (jD b.has Mh a0 rfl aI aB)) (ug i (jH rfl) (bS g fun Q I g => pE i (Eg b call130 ((Ck ki) a (.slice u a.Kids.length y) k G _ _ (c.mono jF.mono b.jB) (z.mono b.jB) I) (fun M b => V (jS (cB i) rfl) ?_))))
  obtain rfl := sj g
  exact t _ _ ⟨_, (b.jy (Db St)), rfl, rfl⟩
 refine un i (un i (un i (V (jT (cB i) rfl) ?_)))
 obtain rfl := sj g
 exact t _ _ ⟨_, (b.jy (Db St)), rfl, rfl⟩
theorem BC (K : Nat) (a : Value) (G : List (ju × (List (ByteArray × Bool)))) (c : Value) (t : List jv) (j : Value) (D : List (ju × (List jv))) (g : Value) (u : List (ByteArray × (List jv))) (i : Value) (B : List jN) (J : Int) (I : ju) (a2 : ByteArray) (r : Bool) (w : World) (H : qo (fun (x : ju) => (.agg (jE x).toArray)) (lN Value.string (fun (x : Bool) => (Value.bool x))) (hp w) a G) (T : Sl (Pl jz) 9 (hp w) c t) (Z : qo (fun (x : ju) => (.agg (jE x).toArray)) (jZ 52 jz 9) (hp w) j D) (U : qo Value.string (jZ 52 jz 9) (hp w) g u) (Y : Sl (Pl kz) 3 (hp w) i B) (Q : At (hp w) (.pointer (some ⟨K, 0, none⟩)) [a, c, j, g, i, (.int .i64 J)]) (hm : tM G t D u B J I a2 = some r) :
  jV true pg0 128 [(.pointer (some ⟨K, 0, none⟩)), (.agg (jE I).toArray), (.string a2)] w (.bool r) := by
 refine cG 19 func128 rfl (fun l => sg (VE (kd l rfl (fun W2 v l => Wa (ln (jM ?_))))))
 replace l := l.drew
 have d := l.has.jy (Kb Sn)
 refine kI d kl (X 0 rfl d (jH rfl) (X 1 rfl d (D5 underlying183 rfl rfl) (X 2 rfl d (jH rfl) (Xg 3 rfl rfl rfl d (jH rfl) (Xg 4 rfl rfl rfl d (mN rfl) (sL 5 rfl kr (.inr ⟨2, true, 9, rfl, rfl, by decide, rfl⟩) rfl dc (fun _ _ h => h) d (Cl [a] xt rfl Q rfl) (fun p a3 => ub 6 rfl rfl rfl d (fun _ m => jA rfl (pA m (y := a) a3 gM)) (ub 7 rfl rfl rfl d (fun _ m => jA rfl (jD m Mh (jE I) rfl bn aN)) ?_))))))))
 obtain ⟨a4, a5, M, N⟩ := H
 refine ub 8 rfl rfl rfl d (fun _ m => oT (k := I) (z := (.map none)) AK eJ fl rfl rfl M (fun b o n => m.1 b o (N b o n))) (Xg 9 rfl rfl rfl d (jH rfl) (ub 10 rfl rfl rfl d (fun _ m => Am (k := a2) (z := false) (vf := (fun (x : Bool) => (Value.bool x))) HO fw jd rfl rfl ((mO.DW kc.1 M I N).mono (fun b o n => m.1 b o n))) (X 11 rfl d (jS rfl rfl) (X 12 rfl d (mP rfl) (kT kr (jI ?_))))))
 exact kh (rQ hm l)
theorem HS (N : ju) (Q D : Nat) (t : Value) (B : List (ju × (List (ByteArray × Bool)))) (a : Value) (j : List jv) (i : Value) (z : List (ju × (List jv))) (c : Value) (k : List (ByteArray × (List jv))) (g : Value) (u : List jN) (I : Int) (T : Nat) (Y : ByteArray) (r : Bool) (w : World) (M : qo (fun (x : ju) => (.agg (jE x).toArray)) (lN Value.string (fun (x : Bool) => (Value.bool x))) (hp w) t B) (G : Sl (Pl jz) 9 (hp w) a j) (K : qo (fun (x : ju) => (.agg (jE x).toArray)) (jZ 52 jz 9) (hp w) i z) (H : qo Value.string (jZ 52 jz 9) (hp w) c k) (J : Sl (Pl kz) 3 (hp w) g u) (U : At (hp w) (.pointer (some ⟨D, 0, none⟩)) [t, a, i, c, g, (.int .i64 I)]) (Z : At (hp w) (.pointer (some ⟨Q, 0, none⟩)) [(.pointer (some ⟨D, 0, none⟩))]) (d : At (hp w) (.pointer (some ⟨T, 0, none⟩)) [(.string Y)]) (hm : pL N B j z k u I Y = some r) :
  jV true pg0 191 [(.agg (jE N).toArray), (.pointer (some ⟨Q, 0, none⟩)), (.pointer (some ⟨T, 0, none⟩))] w (.bool r) := by
 refine cG 9 func191 rfl (fun b => sg (VE (kd b rfl (fun W2 h b => Wa (lr (V (jA rfl (pA b.has (y := (.pointer (some ⟨D, 0, none⟩))) Z isAgg183)) (VA b Mh (jE N) bn aN (V (jA rfl (pA b.has (y := (.string Y)) d bM)) (bS hm fun l a2 hm => VE (Eg b call128 (BC D t B a j i z c k g u I N Y _ _ (M.mono b.jB) (G.mono (Pl.mono _) b.jB) (K.mono b.jB) (H.mono b.jB) (J.mono (Pl.mono _) b.jB) (U.mono b.jB) a2) (fun W5 b => Wa ?_)))))))))))
 refine ln ?_
 exact kh (rQ hm b)
theorem Eu (g : Value) (i r : List jv) (w : World) (a : Sl (Pl jz) 9 (hp w) g i) (hm : rq i = some r) :
  lV true pg0 196 [g] w 52 jz 9 r := by
 unfold rq at hm
 refine vi 8 func196 rfl (fun b => sg (Wa (lS (Wm ?_))))
 obtain ⟨y, B, rfl⟩ := a.form
 refine V (BV aP rfl rfl) (ln ?_)
 rcases y with _ | z
 ·have u := a.isNil
  replace hm : some [] = some r := by rw [u] at hm; simpa [mE, maxLen] using hm
  refine xg (rfl) (sg (Wa (lt (kw ?_))))
  obtain rfl := sj hm
  exact lB (v := (.slice none 0 0)) rfl rfl ⟨_, [], rfl, b.nM (fun p d => by cases d) (by simp), jZ.nil _ _ _⟩
 ·refine qI (rfl) (kg (VE (kq (cs := #[]) b qt (Bi [] aP aJ cO dc rfl (by simp) rfl rfl) (fun G k b => Wm (bS hm fun H t hm => VE (nW (enc := jz) (v := (.slice (some ⟨k, 0, none⟩) 0 0)) (vs := (.slice (some z) i.length B)) (R := [(k, Ob #[] 52)]) b kM dc nz aP nO.1 nO.2.1 rfl nO.2.2.1 nO.2.2.2 rfl rfl (jZ.lit (l := []) (enc := jz) rfl dc rfl rfl) (a.mono (Pl.mono _) b.jB) t (fun D x j b c => Wa (lt ?_))))))))
  obtain rfl := sj hm
  exact lB (v := x) rfl rfl ⟨_, j, rfl, b.nM (fun p d => (Ml d)) c.nd, c⟩
theorem xB (g : Value) (t : List jv) (j : Value) (B : jv → Option Bool) (r : Int) (w : World) (c : Sl (Pl jz) 9 (hp w) g t) (D : tF pg0 j (hp w) (fun (x : jv) => [(.agg (jz x).toArray)]) (fun (r : Bool) => (.bool r)) B) (hm : pq t B = some r) :
  jV false pg0 180 [g, j] w (.int .i64 r) := by
 refine cG 19 func180 rfl (fun b => sg (Wa (lS (Wm (V (kU aP rfl c) (Wm (ln (kC (fun i E W => ∃ k, (E 8 = .int .i64 (i : Nat) ∧ E 7 = .int .i64 (t.length : Nat)) ∧ ST false kx w W (hp w) k ∧ E 0 = g ∧ E 1 = j ∧ ox B (t.drop i) i = some r) t.length c.len ⟨_, ⟨rfl, rfl⟩, (b.jy St), rfl, rfl, hm⟩ dc dc dc (fun _ _ _ h => by obtain ⟨_, l, _⟩ := h; exact l) ?_ ?_))))))))
 ·rintro Q E W H ⟨k, ⟨d, m⟩, b, u, y, a⟩
  obtain ⟨z, T, M, K, N⟩ := kp H
  rw [M] at a
  refine bg (Wh d (Wa (lr (Wh y (Wh u (Wm (VQ (na (enc := jz) (i := (Q : Int)) (x0 := z) aP aJ rfl rfl c (aG _) K) (fun Y I => V (jA rfl (kf b.has I bR aJ)) (bS a fun Z J a => ?_)))))))))
  refine VE (La z b D (kj.refl _) rfl (qW rfl) J (fun U b => ln (CI a rfl (fun G a => ?_) (fun G a => ?_))))
  ·refine sg (Wm (Wa (lt (mi (kw (mi (kw ?_)))))))
   obtain rfl := sj a
   exact rP b
  exact kX (kA (jI ⟨d, _, ⟨rfl, m⟩, (b.jy St), u, y, (by rw [N]; exact a)⟩))
 rintro E W ⟨k, ⟨d, m⟩, b, u, y, a⟩
 rw [aH] at a
 exact jI (sg (Wa (lt (rQ a b))))
theorem BK (j : Value) (a0 : List jv) (t : LO) (H : Value) (f1 : jv → Option Bool) (r : List jv) (w : World) {μ0 : km} (h0 : ni μ0 (t ++ []) w) (T : jZ 52 jz 9 j a0 t) (a4 : tF pg0 H μ0 (fun (x : jv) => [(.agg (jz x).toArray)]) (fun (r : Bool) => (.bool r)) f1) (hm : qQ a0 f1 = some r) :
  kY false pg0 195 [j, H] w (t ++ []) (fun v L1 W' => ∃ A S2, v = A ∧ L1 = (S2 ++ []) ∧ jZ 52 jz 9 A r S2) := by
 refine wB h0 42 func195 rfl (fun d => sg (Wa (lr (Wm (Wm (bS hm fun n d3 hm => VE (Eg d call180 (xB j a0 H f1 _ _ (T.sl kM (fun b o h => d.at_ (Ml h))) (a4.mono d.jB) d3) (fun W3 d => Wa (ln ?_)))))))))
 refine jM (sg (Wm (Wi rfl (ln (CI hm rfl (fun d2 hm => ?_) (fun d2 hm => ?_))))))
 ·refine sg (Wm (Wa (lt (kw ?_))))
  obtain rfl := sj hm
  exact lB (v := j) rfl rfl ⟨_, _, rfl, (d.lO (Kr Sn)), j, t, rfl, rfl, T⟩
 refine kS (Wm (Wi rfl (Wa (ln (kZ (mG (fun m E W => ∃ U I B D a2, ST false (keys (t ++ [])) w W μ0 (I ++ a2) ∧ E 0 = j ∧ E 1 = H ∧ E 5 = (.int .i64 B) ∧ E 6 = (.int .i64 D) ∧ jZ 52 jz 9 j U I ∧ nA f1 m U B D = some r) ki ⟨a0, t, n, (wi0 .i64 (n + 1)), _, (d.jy St), rfl, rfl, rfl, rfl, T, hm⟩ ?_))))))
 rintro m E W ⟨U, I, B, D, a2, d, y, Q, G, K, g, a⟩
 cases m with
 | zero => rw [nA] at a; cases a
 | succ c8 =>
  refine jM (sg (Wh K (Wh y (V (nw aP rfl g) (Wi rfl (ln (CI a rfl (fun O a => ?_) (fun O a => ?_))))))))
  ·refine kn (jM (CJ a (fun Y E W => ∃ J a3, ST false (keys (t ++ [])) w W μ0 (J ++ a3) ∧ E 0 = j ∧ E 1 = H ∧ E 5 = (.int .i64 Y.2) ∧ E 6 = (.int .i64 D) ∧ jZ 52 jz 9 j Y.1 J) (fun Y c => ?_) ?_))
   ·refine bg (Wh y (Wh K (bS c fun k M c => VQ (nU (i := D) (x0 := k) aP aJ rfl rfl g (ky M) (kv M)) (fun e4 b3 => V (jA rfl (sP d.has (fun p h => (Ml h)) g kM b3 (kv M) bR aJ)) (VE (ku d cO (fun d7 e2 d => VO (jR (.agg (jz k).toArray) ((jz k).toArray) d rfl rfl aJ (nz k) nb rfl (fun d8 d => lr (Wh Q ?_))))))))))
    refine VA d Mh (jz k) bR aJ (bS c fun e6 b5 c => VE (La k d a4 (kj.refl _) rfl (qW rfl) b5 (fun d9 d => V (mT rfl) (ln (CI c rfl (fun P c => ?_) (fun P c => ?_))))))
    ·refine sg (Wh y (Wh G (VA d Mh (jz k) bR aJ (bS c fun d0 N c => VQ (nU (i := B) (x0 := d0) aP aJ rfl rfl g (ky N) (kv N)) (fun e5 b4 => ?_)))))
     replace d := d.perm (Nr (Qb Qz) Nz)
     refine VO (Dy (u := (.agg (jz k).toArray)) (x1 := k)  d g kM nz rfl rfl rfl b4 (kv N) aJ (fun e0 c1 d L => ln ?_))
     replace d := d.jy (Kr (Db St))
     refine jL (Wh G (Wi rfl (Wa (kk (kA (jI ?_))))))
     obtain rfl := sj c
     exact ⟨c1, _, (d.jy St), y, Q, rfl, K, L⟩
    refine kX (kA (jI ?_))
    obtain rfl := sj c
    exact ⟨I, _, (d.jy (Db St)), y, Q, G, K, g⟩
   rintro ⟨c7, c9⟩ E W ⟨J, a3, d, c3, c4, c5, c6, b6⟩ R
   exact jL (Wh c6 (Wi rfl (Wa (ln ⟨c8, bG _, c7, J, c9, (wi0 .i64 (D + 1)), _, (d.jy St), c3, c4, c5, rfl, b6, R⟩))))
  refine mF (ml (ml (oU (jI (sg (Wh y (Wh G (bS a fun _ Z a => VQ (Ac (i := B) aP aJ rfl rfl g (vL Z) (vE Z)) (fun e7 b7 => VO (CO (z := SF)  d g kM nz aP cO b7 rfl rfl (fun e1 c2 d a9 => lr (Wh y ?_))))))))))))
  refine Wh G (bS a fun _ l a => VQ (EX (i := B) aP aJ rfl rfl a9 kM (vL l) (vE l)) (fun a5 b9 => Wa (lt ?_)))
  obtain rfl := sj a
  exact lB (v := a5) rfl rfl ⟨_, _, rfl, (d.lO (Kr Sn)), a5, c2, rfl, rfl, b9⟩
theorem Jt (a : jv) (r : Bool) (w : World) (hm : yi a = some r) :
  jV true pg0 197 [(.agg (jz a).toArray)] w (.bool r) := by
 refine cG 6 func197 rfl (fun b => sg (VE (kd b rfl (fun g j b => Wa (lr (VA b Mh (jz a) bR aJ (bS hm fun k c hm => VE (Eg b call144 (wZ a _ _  c) (fun i b => V (mT rfl) (Wa (kk ?_)))))))))))
 refine jI ?_
 exact kh (rQ hm b)
theorem Nj (c : Value) (k : List jv) (a : LO) (g : Value) (t : (jv × jv) → Option Int) (r : List jv) (w : World) {y : km} (u : ni y (a ++ []) w) (i : jZ 52 jz 9 c k a) (j : KB pg0 g y (fun (x : (jv × jv)) => [(.agg (jz x.1).toArray), (.agg (jz x.2).toArray)]) (fun (r : Int) => (.int .i64 r)) t) (hm : Af t k = some r) :
  kY true pg0 198 [c, g] w (a ++ []) (fun v z W' => ∃ S, v = (.tuple #[]) ∧ z = (S ++ []) ∧ jZ 52 jz 9 c r S) := LI (P := pg0) (ρ := OM) Tq 9 bR aJ jz kM nz u.H u.S i j hm
theorem Dv (j : Value) (a0 : List jv) (x : LO) (r : List jv) (w : World) {μ0 : km} (h0 : ni μ0 (x ++ []) w) (B : jZ 52 jz 9 j a0 x) (hm : sE a0 = some r) :
  kY true pg0 199 [j] w (x ++ []) (fun v L1 W' => ∃ y1 S2, v = y1 ∧ L1 = (S2 ++ []) ∧ jZ 52 jz 9 y1 r S2) := by
 refine wB h0 61 func199 rfl (fun b => sg (Wa (lS (Wm (V (nw aP rfl B) (Wi rfl (ln (CI hm rfl (fun g0 hm => ?_) (fun g0 hm => ?_)))))))))
 ·refine sg (Wm (Wa (lt (kw ?_))))
  obtain rfl := sj hm
  exact lB (v := j) rfl rfl ⟨_, _, rfl, (b.lO (Kr Sn)), j, x, rfl, rfl, B⟩
 refine kS (Wa (ln (kZ (mG (fun m E W => ∃ t b4, ST true (keys (x ++ [])) w W μ0 (x ++ b4) ∧ E 0 = j ∧ E 3 = (.int .i64 t) ∧ ob a0 m t = some r) ki ⟨1, _, (b.jy St), rfl, rfl, hm⟩ ?_))))
 rintro m E W ⟨t, b4, b, D, H, a⟩
 cases m with
 | zero => rw [ob] at a; cases a
 | succ f5 =>
  refine jM (sg (Wh H (Wh D (V (nw aP rfl B) (Wi rfl (ln (CI a rfl (fun d0 a => ?_) (fun d0 a => ?_))))))))
  ·refine kn (jM (kZ (jM ?_)))
   replace b := b.drew
   have d := b.has.jy (Kr Sn)
   refine kI d kl (X 0 rfl d (jH D) (X 1 rfl d (jH H) (bS a fun c3 Z a => XQ 2 rfl d (nU (i := t) (x0 := c3) aP aJ rfl rfl B (ky Z) (kv Z)) (fun g7 d6 => XH 3 rfl d (fun _ l => jA rfl (sP l (fun p h => (Ml h)) B kM d6 (kv Z) bR aJ)) (X 4 rfl d (jH D) (X 5 rfl d (jH H) (X 6 rfl d (kG rfl rfl rfl) (bS a fun c4 n a => XQ 7 rfl d (nU (i := (wi0 .i64 (t - 1))) (x0 := c4) aP aJ rfl rfl B (ky n) (kv n)) (fun g8 d7 => XH 8 rfl d (fun _ l => jA rfl (sP l (fun p h => (Ml h)) B kM d7 (kv n) bR aJ)) (X 9 rfl d (uY rfl rfl (nf ey) (rb (uT _ c3 c4))) (kT kr (jI ?_))))))))))))
   refine CI a rfl (fun d1 a => ?_) (fun d1 a => ?_)
   ·refine sg (Wh D (Wh H (bS a fun _ P a => VQ (Ac (i := t) aP aJ rfl rfl B (vL P) (vE P)) (fun c1 M => Wa (lS (Wa (ln ?_)))))))
    refine CJ a (fun U E W => ∃ A b5, ST true (keys (x ++ [])) w W μ0 (A ++ b5) ∧ E 0 = j ∧ E 3 = (.int .i64 U.2) ∧ jZ 52 jz 9 j U.1 A) (fun U d4 => ?_) ?_
    ·refine kZ (mG (fun m E W => ∃ L K Y y b6, ST true (keys (x ++ [])) w W μ0 (K ++ b6) ∧ E 0 = j ∧ E 3 = (.int .i64 Y) ∧ E 4 = c1 ∧ E 5 = (.int .i64 y) ∧ jZ 52 jz 9 j L K ∧ nY t m L Y y = some U) ki ⟨a0, x, t, 1, _, (b.jy St), D, H, rfl, rfl, B, d4⟩ ?_)
     rintro m E W ⟨L, K, Y, y, b6, b, Q, T, I, J, g, k⟩
     cases m with
     | zero => rw [nY] at k; cases k
     | succ f6 =>
      refine jM (sg (Wh J (Wh I (V (I8 aP rfl M g) (Wi rfl (ln (CI k rfl (fun d2 k => ?_) (fun d2 k => ?_))))))))
      ·refine kn (jM (CJ k (fun O E W => ∃ N b7, ST true (keys (x ++ [])) w W μ0 (N ++ b7) ∧ E 0 = j ∧ E 3 = (.int .i64 O.2) ∧ E 4 = c1 ∧ E 5 = (.int .i64 y) ∧ jZ 52 jz 9 j O.1 N) (fun O c => ?_) ?_))
       ·refine kZ (jM ?_)
        replace b := b.drew
        have d := b.has.jy (Kr Sn)
        refine kI d kl (X 0 rfl d (jH I) (X 1 rfl d (jH J) (bS c fun c6 a2 c => XQ 2 rfl d (Ak (i := y) (x0 := c6) aP aJ rfl rfl g M (ky a2) (kv a2)) (fun g9 d8 => XH 3 rfl d (fun _ l => jA rfl (sP l (fun p h => (Ml h)) g kM d8 (BG (kv a2)) bR aJ)) (X 4 rfl d (jH I) (X 5 rfl d (jH J) (X 6 rfl d (kG rfl rfl rfl) (bS c fun c7 a3 c => XQ 7 rfl d (Ak (i := (wi0 .i64 (y - 1))) (x0 := c7) aP aJ rfl rfl g M (ky a3) (kv a3)) (fun h1 d9 => XH 8 rfl d (fun _ l => jA rfl (sP l (fun p h => (Ml h)) g kM d9 (BG (kv a3)) bR aJ)) (X 9 rfl d (D6 rfl rfl (nf ey) (zD (uT _ c6 c7))) (kT kr (jI ?_))))))))))))
        refine CI c rfl (fun d3 c => ?_) (fun d3 c => ?_)
        ·refine sg (Wh Q (Wh T (Wh I (Wh J (bS c fun a9 a4 c => VQ (Ak (i := y) (x0 := a9) aP aJ rfl rfl g M (ky a4) (kv a4)) (fun h2 e0 => V (jA rfl (sP b.has (fun p h => (Ml h)) g kM e0 (BG (kv a4)) bR aJ)) (bS c fun f8 a5 c => VQ (nU (i := Y) (x0 := f8) aP aJ rfl rfl g (ky a5) (kv a5)) (fun h3 e1 => VO (Dy (u := (.agg (jz a9).toArray)) (x1 := a9)  b g kM nz rfl rfl rfl e1 (kv a5) aJ (fun g3 e8 b c9 => ln (jL ?_)))))))))))
         refine Wh T (Wi rfl (Wa (kk (kA (jI ?_)))))
         obtain rfl := sj c
         exact ⟨e8, _, (b.jy St), Q, rfl, I, J, c9⟩
        refine kX (kA (jI ?_))
        obtain rfl := sj c
        exact ⟨K, _, (b.jy St), Q, T, I, J, g⟩
       rintro ⟨f4, f7⟩ E W ⟨N, b7, b, f0, f1, f2, f3, e4⟩ d5
       exact jL (Wh f3 (Wi rfl (Wa (ln ⟨f6, bG _, f4, N, f7, (wi0 .i64 (y + 1)), _, (b.jy St), f0, f1, f2, rfl, e4, d5⟩))))
      refine mF (ml (ml (oU (jI ?_))))
      obtain rfl := sj k
      exact ⟨K, _, (b.jy St), Q, T, g⟩
    rintro ⟨g4, c5⟩ E W ⟨A, b5, b, b9, c0, b3⟩ G
    refine sg (Wh b9 (Wh c0 (bS G fun _ R G => VQ (Ac (i := c5) aP aJ rfl rfl b3 (vL R) (vE R)) (fun h4 e2 => VO (CO (z := SF)  b b3 kM nz aP cO e2 rfl rfl (fun g2 e7 b c8 => lr (Wh b9 (Wh c0 (bS G fun _ b2 G => VQ (EX (i := c5) aP aJ rfl rfl c8 kM (vL b2) (vE b2)) (fun c2 e3 => ?_))))))))))
    refine Wa (lt (mi (kw (kw (mi (kw ?_))))))
    obtain rfl := sj G
    exact lB (v := c2) rfl rfl ⟨_, _, rfl, (b.lO (Kr Sn)), c2, e7, rfl, rfl, e3⟩
   exact kX (kA (jI (jL (Wh H (Wi rfl (Wa (ln ⟨f5, bG _, (wi0 .i64 (t + 1)), _, (b.jy St), D, rfl, a⟩)))))))
  refine mF (ml (ml (oU (jI (sg (Wh D (Wa (lt ?_))))))))
  obtain rfl := sj a
  exact lB (v := j) rfl rfl ⟨_, _, rfl, (b.lO (Kr Sn)), j, x, rfl, rfl, B⟩
theorem M9 (i : Value) (t r : List jv) (w : World) (B : Sl (Pl jz) 9 (hp w) i t) (hm : zd t = some r) :
  lV false pg0 125 [i] w 52 jz 9 r := by
 refine vi 11 func125 rfl (fun b => sg (Wa (lr (Wm (bS hm fun A T hm => VE (tU b call196 (lV.lE (Eu i t _ _ (B.mono (Pl.mono _) b.jB) T)) (fun W3 v7 E R8 b a5 u Q => bS hm fun U D hm => ?_)))))))
 refine VE (eM b (Cr Qz Cn) call195 (fun h _ => (BK v7 A R8 (.func (.func 197) #[] #[]) (fun (x : jv) => yi x) _ _ h Q ⟨197, #[], #[], rfl, call197, fun W x r z hm => (Jt x r W  hm).lE⟩ D)) ?_)
 rintro _ b5 b9 O b L l d ⟨k, K, a, rfl, I⟩
 obtain rfl := a.symm
 replace b := b.perm (Tr Tn)
 refine Wa (lr (Wm (bS hm fun Y G hm => ?_)))
 refine VE (eM b (Cr Qz Cn) call198 (fun h _ => kY.lE (Nj k U K (.func (.func 81) #[] #[]) (fun (x : (jv × jv)) => qv x.1 x.2) _ _ h I ⟨81, #[], rfl, call81, fun W x r z hm => CT x.1 x.2 r W  hm⟩ G)) ?_)
 rintro _ b6 c0 a9 b a2 m d ⟨M, c, rfl, J⟩
 obtain rfl := c.symm
 replace b := b.perm (Tr Tn)
 refine lr (Wm (bS hm fun R H hm => ?_))
 refine VE (eM b (Cr Qz Cn) call199 (fun h _ => kY.lE (Dv k Y M _ _ h J H)) ?_)
 rintro _ b7 c1 P b a3 n d ⟨Z, N, g, rfl, j⟩
 obtain rfl := g.symm
 replace b := b.perm (Tr Tn)
 refine Wa (lt ?_)
 obtain rfl := sj hm
 exact lB (v := Z) rfl rfl ⟨_, N, rfl, b.nM (fun p y => (Ml y)) j.nd, j⟩
theorem EW (k : kD) (H K c1 : Value) (a1 : List jv) (a2 : ByteArray) (r : List jv) (w : World) (g : Sl jU 15 (hp w) H k.jJ) (J : Sl kH 8 (hp w) K k.jW) (h5 : Sl (Pl jz) 9 (hp w) c1 a1) (hm : sd k a1 a2 = some r) :
  lV false pg0 52 [(.agg #[(.string k.Name), H, K]), c1, (.string a2)] w 52 jz 9 r := by
 refine vi 47 func52 rfl (fun d => sg ?_)
 obtain ⟨A1, c2, rfl⟩ := g.form
 let c8 : Value := (.slice A1 k.jJ.length c2)
 obtain ⟨A3, c4, rfl⟩ := J.form
 let b1 := (C5 k.Name A1 k.jJ.length c2 A3 k.jW.length c4)
 refine VE (kd d rfl (fun W6 O d => Wa (lr (Wm (Wm (bS hm fun B i5 hm => ?_))))))
 refine VE (yH d (bT _) call123 (fun _ _ _ _ => (KJ c1 a1 a2 _ _ (h5.mono (Pl.mono _) d.jB) i5)) (fun W9 l1 g4 l0 d a5 af ae h4 => ?_) (L0 := []))
 obtain ⟨N, A, e0, f9, e1, g0, e2, g1, e3, g2, e4, g3, Q, c0, rfl, h6, h7, h8, h9, i0⟩ := h4
 replace c0 := c0.symm; subst c0
 replace d := d.perm (Tb (Tb (Tb (Tr (Tr (Tr (Tr (Tr Tn))))))))
 refine Wa (lr (Wa (lS (Wf yR (VB d (Mt (Mt (Mt (Ma (Ma (Ma (Ma (Ma Mh)))))))) rfl rfl jc (V (kU dP rfl g) (Wm ?_)))))))
 refine ln (kC (fun i E W => ∃ D I G L b4, (E 19 = .int .i64 (i : Nat) ∧ E 18 = .int .i64 (k.jJ.length : Nat)) ∧ kj g4 L ∧ ST false kx w W L ((N, Ob #[(.pointer (some ⟨A, 0, none⟩))] 183) :: ((A, Ob #[e0, e1, e2, e3, e4, (.int .i64 B.2.2.2.2.2.1)] 246) :: ((Q, Ob #[(.string B.2.2.2.2.2.2)] 9) :: ((O, Ol b1 25) :: (G ++ (f9 ++ (g0 ++ (g1 ++ (g2 ++ (g3 ++ b4)))))))))) ∧ E 3 = (.pointer (some ⟨O, 0, none⟩)) ∧ E 7 = (.func (.func 191) #[] #[(.pointer (some ⟨N, 0, none⟩)), (.pointer (some ⟨Q, 0, none⟩))]) ∧ E 8 = D ∧ E 17 = c8 ∧ jZ 52 jz 9 D I G ∧ qS k B (k.jJ.drop i) I = some r) k.jJ.length g.len ⟨(.slice none 0 0), ([]), [], g4, _, ⟨rfl, rfl⟩, (kj.refl _), (d.jy (Kb (Kb (Kb (Sb (Pr (Pr (Pr (Pr (Pr Pz))))) St))))), rfl, rfl, rfl, rfl, (jZ.nil _ _ _), hm⟩ dc dc dc (fun _ _ _ h => by obtain ⟨_, _, _, _, _, aa, _⟩ := h; exact aa) ?_ ?_)
 ·let b6 : Value := (.func (.func 191) #[] #[(.pointer (some ⟨N, 0, none⟩)), (.pointer (some ⟨Q, 0, none⟩))])
  rintro d8 E W f0 ⟨D, I, G, L, b4, ⟨P, eN⟩, u, d, Y, Z, a3, a4, M, j⟩
  obtain ⟨a, i6, f8, f7, c6⟩ := kp f0
  rw [f8] at j
  refine bg (VQ (lU (i := (d8 : Int)) (x0 := a) jU.out dP dD a4 P (g.mono jX.mono (a5.trans u)) (aG _) f7) (fun k1 ⟨_, ⟨k4, k5, rfl, f5, f6⟩, f1⟩ => V (jA rfl (kf d.has f1 fZ dD)) (VE (ku d eU (fun i9 d0 d => ?_)))))
  obtain ⟨b2, b7, rfl⟩ := f5.form
  obtain ⟨b3, b9, rfl⟩ := f6.form
  let a0 := (C3 a.Signed.jv.Kind a.Signed.jv.Head.jw a.Signed.jv.Head.Word a.Signed.jv.kE a.Signed.jv.B.jw a.Signed.jv.B.Word a.Signed.jv.C.jw a.Signed.jv.C.Word a.Signed.jv.kL b2 a.Signed.Tag.length b7 a.jC.Op a.jC.K a.jC.ju.jw a.jC.ju.Word b3 a.jC.Kids.length b9)
  refine VO (jR (.agg a0.toArray) (a0.toArray) d rfl rfl dD oc nb rfl (fun j0 d => lr (V (jA Y (jD d.has (Mt (Mt (Mt (Mt Mh)))) b1 rfl dt cL)) (Wf zj (Wf yO (VA d Mh (jz a.Signed.jv) bR aJ (bS j fun c f2 j => ?_)))))))
  let e5 : Value := (.string (((c.1).ju).Word))
  let d1 : Value := (.string (((c.1).ju).jw))
  refine VE (eD d (bT _) call124 (fun hh => (Ny k c8 (.slice A3 k.jW.length c4) a.Signed.jv _ _ hh (g.mono jX.mono (a5.trans u)) (J.mono lx.mono (a5.trans u)) f2)) ?_ (L0 := []))
  rintro _ k6 c3 i8 d a9 ab ⟨k8, a6, rfl, c7⟩
  obtain rfl := a6.symm
  refine Wm (Wx rfl (Wx rfl (VE (ku d aO (fun j4 k0 d => ?_)))))
  obtain ⟨T, U, rfl⟩ := c7.form
  let b8 : Value := (.slice T ((c.1).Kids).length U)
  refine VO (jR (.agg #[(.int .i64 ((c.1).Op)), (.int .i64 ((c.1).K)), d1, e5, b8]) (#[(.int .i64 ((c.1).Op)), (.int .i64 ((c.1).K)), d1, e5, b8]) d rfl rfl aB oc nb rfl (fun j5 d => Wa (lr (Wm (Wi rfl (Wm (LJ j (fun d9 E W => ∃ c9, ST false kx w W c3 ((d0, Ol a0 57) :: ((N, Ob #[(.pointer (some ⟨A, 0, none⟩))] 183) :: ((A, Ob #[e0, e1, e2, e3, e4, (.int .i64 B.2.2.2.2.2.1)] 246) :: ((Q, Ob #[(.string B.2.2.2.2.2.2)] 9) :: ((O, Ol b1 25) :: (G ++ (f9 ++ (g0 ++ (g1 ++ (g2 ++ (g3 ++ c9))))))))))) ∧ E 3 = (.pointer (some ⟨O, 0, none⟩)) ∧ E 7 = b6 ∧ E 8 = D ∧ E 10 = (.pointer (some ⟨d0, 0, none⟩)) ∧ E 17 = c8 ∧ E 18 = (.int .i64 (k.jJ.length : Int)) ∧ E 19 = (.int .i64 (d8 : Int)) ∧ E 37 = (.bool d9)) 4 ?_ (fun d9 z b0 => ?_))))))))
  ·rintro k7 E W ⟨c9, d, d2, d3, d4, h2, d5, d6, d7, h3⟩ y
   refine ln (CI y h3 (fun e8 y => ?_) (fun e8 y => ?_))
   ·refine jL (Wh d4 (V (jG zj h2) (Wf yO (VA d Mh (jz a.Signed.jv) bR aJ (VE (kq (cs := (jz a.Signed.jv).toArray) d (lW rfl) (mr aP aJ cO) (fun j6 h1 d => ?_)))))))
    replace d := d.perm (Nr (Qb (Qb (Qb (Qb (Qb (Qb Qz)))))) Nz)
    refine bS y fun i1 e9 y => VE (nW (enc := jz) (v := D) (vs := (.slice (some ⟨h1, 0, none⟩) 1 1)) (R := G) d kM dc nz aP nO.1 nO.2.1 rfl nO.2.2.1 nO.2.2.2 rfl rfl M (Sl.lit (enc := jz) (l := [a.Signed.jv]) kM rfl nb rfl (d.at_ (Ma Mh))) e9 (fun j7 i2 g7 d e7 => Wa (kk (kA (jI ?_)))))
    replace d := d.jy (Kr (Db (Db St)))
    exact ⟨d7, i2, i1, g7, c3, _, ⟨rfl, d6⟩, (u.trans a9), (d.jy (Sb (Pr Pz) (Sb (Pr Pz) (Sb (Pr Pz) (Sb (Pr Pz) St))))), d2, d3, rfl, d5, e7, (by rw [c6]; exact y)⟩
   refine kX (kA (jI ?_))
   replace d := d.jy (Db St)
   exact ⟨d7, D, I, G, c3, _, ⟨rfl, d6⟩, (u.trans a9), (d.jy St), d2, d3, d4, d5, M, (by rw [c6]; exact y)⟩
  refine bC z (fun t z => ?_) (fun t z => ?_)
  ·refine ug t (jA rfl (jD d.has Mh [(.int .i64 ((c.1).Op)), (.int .i64 ((c.1).K)), d1, e5, b8] rfl aI aB)) (ug t (jH Z) (bS z fun k2 f3 z => pE t (Eg d call54 (CV c.1 b8 b6 (fun (x : ju) => pL x B.1 B.2.1 B.2.2.1 B.2.2.2.1 B.2.2.2.2.1 B.2.2.2.2.2.1 B.2.2.2.2.2.2) _ _ (c7.mono jF.mono d.jB) ⟨191, #[], #[(.pointer (some ⟨N, 0, none⟩)), (.pointer (some ⟨Q, 0, none⟩))], rfl, call191, fun W x r n hm => (HS x N A e0 B.1 e1 B.2.1 e2 B.2.2.1 e3 B.2.2.2.1 e4 B.2.2.2.2.1 B.2.2.2.2.2.1 Q B.2.2.2.2.2.2 r W (h6.at (fun b o m => n _ _ ((fun b o m => d.at_ (Mt (Mt (Mt (Mt (Mt (Mt (Ma (Ml m))))))))) b o m))) (h7.sl kM (fun b o m => n _ _ ((fun b o m => d.at_ (Mt (Mt (Mt (Mt (Mt (Mt (Ma (Ma (Ml m)))))))))) b o m))) (h8.at (fun b o m => n _ _ ((fun b o m => d.at_ (Mt (Mt (Mt (Mt (Mt (Mt (Ma (Ma (Ma (Ml m))))))))))) b o m))) (h9.at (fun b o m => n _ _ ((fun b o m => d.at_ (Mt (Mt (Mt (Mt (Mt (Mt (Ma (Ma (Ma (Ma (Ml m)))))))))))) b o m))) ((i0.Ej pN).mono (Pl.mono _) (lR (fun b o m => n _ _ ((fun b o m => d.at_ (Mt (Mt (Mt (Mt (Mt (Mt (Ma (Ma (Ma (Ma (Ma (Ml m))))))))))))) b o m)))) (At.of (n _ _ (d.at_ (Mt (Mt (Mt Mh))))) _ rfl) (At.of (n _ _ (d.at_ (Mt (Mt Mh)))) _ rfl) (At.of (n _ _ (d.at_ (Mt (Mt (Mt (Mt Mh)))))) _ rfl) hm).lE⟩ f3) (fun j8 d => V (jS (cB t) rfl) ?_))))
   obtain rfl := sj z
   exact b0 _ _ ⟨_, (d.jy (Db St)), Y, Z, a3, rfl, a4, eN, P, rfl⟩
  refine un t (un t (un t (V (jT (cB t) rfl) ?_)))
  obtain rfl := sj z
  exact b0 _ _ ⟨_, (d.jy (Db St)), Y, Z, a3, rfl, a4, eN, P, rfl⟩
 rintro E W ⟨D, I, G, L, b4, ⟨P, eN⟩, u, d, Y, Z, a3, a4, M, j⟩
 rw [aH] at j
 refine jI ?_
 replace d := d.jy (Db (Db (Db (Db (Kr (Dr (Dr (Dr (Dr (Dr St))))))))))
 refine sg (Wh a3 (bS j fun k3 f4 j => VE (tU d call125 (M9 D I _ _ (M.sl kM (fun b o m => d.at_ (Ml m))) f4) (fun j9 i3 k9 g8 d i4 ad c5 => Wa (ln ?_)))))
 replace d := d.jy (Kr (Dr St))
 refine kh ?_
 obtain rfl := sj j
 exact lB (v := i3) rfl rfl ⟨_, g8, rfl, d.nM (fun p m => (Ml m)) c5.nd, c5⟩
theorem Gy (g : kD) (D K : Value) (i : kD) (G M : Value) (r : ((List jv) × (List jv) × Int)) (w : World) (x : Sl jU 15 (hp w) D g.jJ) (I : Sl kH 8 (hp w) K g.jW) (y : Sl jU 15 (hp w) G i.jJ) (J : Sl kH 8 (hp w) M i.jW) (hm : wj g i = some r) :
  kY false pg0 17 [(.agg #[(.string g.Name), D, K]), (.agg #[(.string i.Name), G, M])] w [] (fun v L1 W' => ∃ y1 S2 y4 S5, v = (.tuple #[y1, y4, (.int .i64 (r.2.2))]) ∧ L1 = (S2 ++ (S5 ++ [])) ∧ jZ 52 jz 9 y1 r.1 S2 ∧ jZ 52 jz 9 y4 r.2.1 S5) := by
 refine vi 41 func17 rfl (fun d => sg ?_)
 obtain ⟨A1, c2, rfl⟩ := x.form
 obtain ⟨A3, c4, rfl⟩ := I.form
 let A := (C5 g.Name A1 g.jJ.length c2 A3 g.jW.length c4)
 refine VE (kd d rfl (fun W6 p d => ?_))
 obtain ⟨A7, c8, rfl⟩ := y.form
 obtain ⟨A9, R, rfl⟩ := J.form
 let a0 := (C5 i.Name A7 i.jJ.length c8 A9 i.jW.length R)
 refine VE (kd d rfl (fun f8 n d => Wa (Wa (Wa (lr (Wa (Wa (lr (Wa ?_)))))))))
 refine ln (pk (kZ (mG (fun m E W => ∃ t a4 N u a5 Q H a9 b9, kj (hp w) a9 ∧ ST false kx w W a9 ((n, Ol a0 25) :: ((p, Ol A 25) :: (Q ++ (N ++ b9)))) ∧ E 2 = (.pointer (some ⟨p, 0, none⟩)) ∧ E 3 = (.pointer (some ⟨n, 0, none⟩)) ∧ E 7 = t ∧ E 8 = u ∧ E 9 = (.int .i64 H) ∧ jZ 52 jz 9 t a4 N ∧ jZ 52 jz 9 u a5 Q ∧ pj g i m a4 a5 H = some r) ki ⟨(.slice none 0 0), ([]), [], (.slice none 0 0), ([]), [], 0, (hp w), _, (kj.refl _), (d.jy St), rfl, rfl, rfl, rfl, rfl, (jZ.nil _ _ _), (jZ.nil _ _ _), hm⟩ ?_)))
 rintro m E W ⟨t, a4, N, u, a5, Q, H, a9, b9, j, d, T, U, Y, Z, c9, a2, a3, c⟩
 cases m with
 | zero => rw [pj] at c; cases c
 | succ e6 =>
  refine jM (kZ (jM ?_))
  replace d := d.drew
  have h := d.has.jy (Kb (Kb Sn))
  refine kI h kl (XH 0 rfl h (fun _ l => jA T (jD l (Mt Mh) A rfl dt cL)) (X 1 rfl h (jH Z) (X 2 rfl h (jG xU U) (XH 3 rfl h (fun _ l => jA rfl (jP l Mh rfl bM)) (XH 5 rfl h (fun _ l => jA U (jD l Mh a0 rfl dt cL)) (X 6 rfl h (jH Y) (X 7 rfl h (jG xU T) (XH 8 rfl h (fun _ l => jA rfl (jP l (Mt Mh) rfl bM)) (bS c fun e7 d7 c => XE 4 rfl (tU d call52 (EW g (.slice A1 g.jJ.length c2) (.slice A3 g.jW.length c4) u a5 i.Name _ _ (x.mono jX.mono (j.trans d.jB)) (I.mono lx.mono (j.trans d.jB)) (a3.sl kM (fun b o P => d.at_ (Mt (Mt (Ml P))))) d7) (fun f4 d2 f7 c1 d k L b1 => ?_)))))))))))
  have h := d.has.wV k (Dr (Kb (Kb Sn)))
  refine ⟨h, (bS c fun e8 d8 c => XE 9 rfl (tU d call52 (EW i (.slice A7 i.jJ.length c8) (.slice A9 i.jW.length R) t a4 g.Name _ _ (y.mono jX.mono ((j.trans k).trans d.jB)) (J.mono lx.mono ((j.trans k).trans d.jB)) (a2.sl kM (fun b o P => d.at_ (Ma (Mt (Mt (Ma (Ml P))))))) d8) (fun f5 d3 d4 c3 d a7 O b2 => ?_)))⟩
  have h := d.has.wV (k.trans a7) (Dr (Dr (Kb (Kb Sn))))
  refine ⟨h, (X 10 rfl h (mP rfl) (X 11 rfl h (mP rfl) (kT kr (jI (jM (sg (Wm (V (nw aP rfl b1) (Wh Y (V (nw aP rfl a2) (Wi rfl (Wm (LJ c (fun d1 E W => ∃ c0, ST false kx w W d4 ((n, Ol a0 25) :: ((p, Ol A 25) :: (c3 ++ (c1 ++ (Q ++ (N ++ c0)))))) ∧ E 2 = (.pointer (some ⟨p, 0, none⟩)) ∧ E 3 = (.pointer (some ⟨n, 0, none⟩)) ∧ E 7 = t ∧ E 8 = u ∧ E 9 = (.int .i64 H) ∧ E 10 = d2 ∧ E 11 = d3 ∧ E 35 = (.bool d1)) 6 ?_ (fun d1 B a8 => ?_))))))))))))))⟩
  ·rintro f6 E W ⟨c0, d, d9, e0, e1, e2, d0, e3, e4, e5⟩ z
   refine ln (CI z e5 (fun d6 z => ?_) (fun d6 z => ?_))
   ·refine sg (Wh e1 (Wh e2 (Wh d0 (Wa (Wa (Wa (ln ?_)))))))
    replace d := d.jy (Db (Db (Dr (Dr St))))
    refine kh (kw (mi (kw (kw (mi (kw ?_))))))
    obtain rfl := sj z
    exact Hd (v0 := t) (v1 := u) (v2 := (.int .i64 H)) rfl rfl rfl rfl ⟨_, _, rfl, (d.Kp (Sr (Qr Qz) (Kr Sn))), t, N, u, Q, rfl, rfl, a2, a3⟩
   refine kn ?_
   replace d := d.jy (Kb (Kb (Kr (Kr (Dr (Dr St))))))
   exact jL (Wh e3 (Wh e4 (Wa (Wa (kk (kA (jI (jL (Wh d0 (Wi rfl (Wa (ln ⟨e6, bG _, d2, e7, c1, d3, e8, c3, (wi0 .i64 (H + 1)), d4, _, ((j.trans k).trans a7), (d.jy St), d9, e0, rfl, rfl, rfl, b1, b2, z⟩))))))))))))
  refine bC B (fun a B => ?_) (fun a B => ?_)
  ·refine ug a (jH rfl) (ug a (nw aP rfl b2) (ug a (jH Z) (ug a (nw aP rfl a3) (ug a (kG rfl rfl rfl) (V (jS (cB a) rfl) ?_)))))
   obtain rfl := sj B
   exact a8 _ _ ⟨_, (d.jy (Sb (Pr (Pr Pz)) (Sb (Pr (Pr Pz)) St))), T, U, Y, Z, c9, rfl, rfl, rfl⟩
  refine un a (un a (un a (un a (un a (V (jT (cB a) rfl) ?_)))))
  obtain rfl := sj B
  exact a8 _ _ ⟨_, (d.jy (Sb (Pr (Pr Pz)) (Sb (Pr (Pr Pz)) St))), T, U, Y, Z, c9, rfl, rfl, rfl⟩
theorem JG (k : kD) (j B : Value) (t : kD) (a c : Value) (r : ((List jv) × (List (ju × (List (ByteArray × Bool)))) × (List jv) × (List (ju × (List jv))) × (List (ByteArray × (List jv))) × (List jN) × Int × ByteArray)) (w : World) (g : Sl jU 15 (hp w) j k.jJ) (y : Sl kH 8 (hp w) B k.jW) (i : Sl jU 15 (hp w) a t.jJ) (z : Sl kH 8 (hp w) c t.jW) (hm : AA k t = some r) :
  kY false pg0 53 [(.agg #[(.string k.Name), j, B]), (.agg #[(.string t.Name), a, c])] w [] (fun v L1 W' => ∃ L S2 m l O S7 P M a2 N a3 Q a4 T Y, v = (.tuple #[L, (.func (.func 127) #[] #[(.pointer (some ⟨m, 0, none⟩)), (.pointer (some ⟨Y, 0, none⟩))])]) ∧ L1 = ((m, Ob #[(.pointer (some ⟨l, 0, none⟩))] 183) :: ((l, Ob #[O, P, a2, a3, a4, (.int .i64 (r.2.2.2.2.2.2.1))] 246) :: ((Y, Ob #[(.string (r.2.2.2.2.2.2.2)), a, c] 25) :: (S2 ++ (S7 ++ (M ++ (N ++ (Q ++ (T ++ []))))))))) ∧ jZ 52 jz 9 L r.1 S2 ∧ lP (fun (x : ju) => (.agg (jE x).toArray)) (lN Value.string (fun (x : Bool) => (Value.bool x))) O r.2.1 S7 ∧ jZ 52 jz 9 P r.2.2.1 M ∧ lP (fun (x : ju) => (.agg (jE x).toArray)) (jZ 52 jz 9) a2 r.2.2.2.1 N ∧ lP Value.string (jZ 52 jz 9) a3 r.2.2.2.2.1 Q ∧ pH 285 kz 3 a4 r.2.2.2.2.2.1 T) := by
 refine vi 21 func53 rfl (fun d => sg ?_)
 obtain ⟨A1, c2, rfl⟩ := g.form
 obtain ⟨A3, n, rfl⟩ := y.form
 refine VE (kd d rfl (fun W6 l d => ?_))
 obtain ⟨A7, p, rfl⟩ := i.form
 obtain ⟨A9, I, rfl⟩ := z.form
 refine VE (kd d rfl (fun f4 U d => Wa (Wa (lr (VA d (Mt Mh) (C5 k.Name A1 k.jJ.length c2 A3 k.jW.length n) dt cL (VA d Mh (C5 t.Name A7 t.jJ.length p A9 t.jW.length I) dt cL (bS hm fun d7 b7 hm => ?_)))))))
 refine VE (yH d (bT _) call17 (fun _ _ _ _ => (Gy k (.slice A1 k.jJ.length c2) (.slice A3 k.jW.length n) t (.slice A7 t.jJ.length p) (.slice A9 t.jW.length I) _ _ (g.mono jX.mono d.jB) (y.mono lx.mono d.jB) (i.mono jX.mono d.jB) (z.mono lx.mono d.jB) b7)) (fun f5 g0 g3 f1 d e6 A h R => ?_) (L0 := []))
 obtain ⟨g2, f3, K, c9, D, rfl, f0, J⟩ := R
 replace D := D.symm; subst D
 replace d := d.perm (Tr (Tr Tn))
 refine Wm (Wx rfl (Wx rfl (Wx rfl (Wa (Wa (Wa (ln ?_)))))))
 replace d := d.jy (Dr (Kr (Kb (Db St))))
 refine sg (Wm (bS hm fun f9 b9 hm => ?_))
 refine VE (yH d (bT _) call126 (fun _ _ _ _ => (H6 K d7.2.1 _ _ (J.sl kM (fun b o hq => d.at_ (Ml hq))) b9)) (fun f6 g1 g4 f2 d e7 E h W => ?_) (L0 := []))
 obtain ⟨H, d9, d0, e0, d1, e1, d2, e2, d3, e3, d4, G, rfl, c0, c1, c3, c5, c6⟩ := W
 replace G := G.symm; subst G
 replace d := d.perm (Tb (Tr (Tr (Tr (Tr (Tr Tn))))))
 refine VE (ku d zeroValue183 (fun f7 Z d => VO (jR (.pointer (some ⟨H, 0, none⟩)) (#[(.pointer (some ⟨H, 0, none⟩))]) d rfl rfl sizeOf183 oc nb rfl (fun f8 d => lr (Wm (V (pc (by exact uI rfl rfl) rfl) (Wa (Wa (lt ?_)))))))))
 obtain rfl := sj hm
 exact ER (v := K) (u := (.func (.func 127) #[] #[(.pointer (some ⟨Z, 0, none⟩)), (.pointer (some ⟨U, 0, none⟩))])) rfl rfl rfl ⟨_, _, rfl, (d.Kp (Kb (Kb (Sb (Pr (Pr (Pr (Pr (Pr (Pr Pz)))))) (Sr (Qr (Qr (Qr (Qr (Qr Qz))))) (Kr (Kr (Kr (Kr (Kr Sn)))))))))), K, c9, Z, H, d9, d0, e0, d1, e1, d2, e2, d3, e3, d4, U, rfl, rfl, J, c0, c1, c3, c5, c6⟩
theorem GO (Z : ju) (d I : Nat) (u : Value) (G : List (ju × (List (ByteArray × Bool)))) (a : Value) (k : List jv) (j : Value) (B : List (ju × (List jv))) (c : Value) (t : List (ByteArray × (List jv))) (i : Value) (z : List jN) (Q : Int) (a2 : Nat) (g : ByteArray) (D : Value) (J : List ke) (H : Value) (N : List mj) (r : Bool) (w : World) (Y : qo (fun (x : ju) => (.agg (jE x).toArray)) (lN Value.string (fun (x : Bool) => (Value.bool x))) (hp w) u G) (K : Sl (Pl jz) 9 (hp w) a k) (U : qo (fun (x : ju) => (.agg (jE x).toArray)) (jZ 52 jz 9) (hp w) j B) (M : qo Value.string (jZ 52 jz 9) (hp w) c t) (T : Sl (Pl kz) 3 (hp w) i z) (a3 : At (hp w) (.pointer (some ⟨I, 0, none⟩)) [u, a, j, c, i, (.int .i64 Q)]) (a4 : At (hp w) (.pointer (some ⟨d, 0, none⟩)) [(.pointer (some ⟨I, 0, none⟩))]) (l : Sl jU 15 (hp w) D J) (m : Sl kH 8 (hp w) H N) (a5 : At (hp w) (.pointer (some ⟨a2, 0, none⟩)) [(.string g), D, H]) (hm : vJ Z G k B t z Q g J N = some r) :
  jV true pg0 127 [(.agg (jE Z).toArray), (.pointer (some ⟨d, 0, none⟩)), (.pointer (some ⟨a2, 0, none⟩))] w (.bool r) := by
 refine cG 10 func127 rfl (fun b => sg (VE (kd b rfl (fun W2 n b => Wa (lr (V (jA rfl (pA b.has (y := (.pointer (some ⟨I, 0, none⟩))) a4 isAgg183)) (VA b Mh (jE Z) bn aN (VQ (Cl [(.string g)] xU rfl a5 rfl) (fun p h => V (jA rfl (pA b.has (y := (.string g)) h bM)) (bS hm fun v a9 hm => VE (Eg b call128 (BC I u G a k j B c t i z Q Z g _ _ (Y.mono b.jB) (K.mono (Pl.mono _) b.jB) (U.mono b.jB) (M.mono b.jB) (T.mono (Pl.mono _) b.jB) (a3.mono b.jB) a9) (fun W8 b => ?_))))))))))))
 refine Wa (ln ?_)
 exact kh (rQ hm b)
theorem HP (y : kD) (t D : Value) (c : kD) (u G : Value) (i : Formula) (H : Value) (r : Bool) (w : World) (k : Sl jU 15 (hp w) t y.jJ) (z : Sl kH 8 (hp w) D y.jW) (g : Sl jU 15 (hp w) u c.jJ) (j : Sl kH 8 (hp w) G c.jW) (B : Sl jx 5 (hp w) H i.Kids) (hm : wI y c i = some r) :
  jV false pg0 19 [(.agg #[(.string y.Name), t, D]), (.agg #[(.string c.Name), u, G]), (.agg #[(.int .i64 i.Op), (.int .i64 i.K), (.string i.ju.jw), (.string i.ju.Word), H])] w (.bool r) := by
 refine cG 18 func19 rfl (fun d => sg ?_)
 obtain ⟨A1, c2, rfl⟩ := k.form
 obtain ⟨A3, n, rfl⟩ := z.form
 refine VE (kd d rfl (fun W6 b5 d => ?_))
 obtain ⟨U, Z, rfl⟩ := g.form
 obtain ⟨Y, K, rfl⟩ := j.form
 refine VE (kd d rfl (fun d4 d8 d => ?_))
 obtain ⟨M, T, rfl⟩ := B.form
 refine VE (kd d rfl (fun d5 d9 d => Wa (lr (VA d (Mt (Mt Mh)) (C5 y.Name A1 y.jJ.length c2 A3 y.jW.length n) dt cL (VA d (Mt Mh) (C5 c.Name U c.jJ.length Z Y c.jW.length K) dt cL (bS hm fun a A hm => ?_))))))
 refine VE (yH d (bT _) call53 (fun _ _ _ _ => (JG y (.slice A1 y.jJ.length c2) (.slice A3 y.jW.length n) c (.slice U c.jJ.length Z) (.slice Y c.jW.length K) _ _ (k.mono jX.mono d.jB) (z.mono lx.mono d.jB) (g.mono jX.mono d.jB) (j.mono lx.mono d.jB) A)) (fun d6 e1 e3 c6 d I p m v => ?_) (L0 := []))
 obtain ⟨e2, c7, N, b6, b7, c9, b9, d0, c0, d1, c1, d2, c3, d3, Q, J, rfl, c5, E, L, O, P, R⟩ := v
 replace J := J.symm; subst J
 replace d := d.perm (Tb (Tb (Tb (Tr (Tr (Tr (Tr (Tr (Tr Tn)))))))))
 refine Wm (Wx rfl (Wx rfl (Wa (Wa (ln ?_)))))
 replace d := d.jy (Kb (Kb (Kb (Dr (Kr (Kr (Kr (Kr (Kr (Kb (Db (Db St))))))))))))
 refine sg (VA d (Mt (Mt (Mt (Ma (Ma (Ma (Ma (Ma Mh)))))))) (C1 i.Op i.K i.ju.jw i.ju.Word M i.Kids.length T) aI aB (Wm (bS hm fun e0 a9 hm => VE (Eg d call54 (CV i (.slice M i.Kids.length T) (.func (.func 127) #[] #[(.pointer (some ⟨N, 0, none⟩)), (.pointer (some ⟨Q, 0, none⟩))]) (fun (x : ju) => vJ x a.2.1 a.2.2.1 a.2.2.2.1 a.2.2.2.2.1 a.2.2.2.2.2.1 a.2.2.2.2.2.2.1 a.2.2.2.2.2.2.2 c.jJ c.jW) _ _ (B.mono jF.mono (I.trans d.jB)) ⟨127, #[], #[(.pointer (some ⟨N, 0, none⟩)), (.pointer (some ⟨Q, 0, none⟩))], rfl, call127, fun W x r l hm => (GO x N b6 b7 a.2.1 b9 a.2.2.1 c0 a.2.2.2.1 c1 a.2.2.2.2.1 c3 a.2.2.2.2.2.1 a.2.2.2.2.2.2.1 Q a.2.2.2.2.2.2.2 (.slice U c.jJ.length Z) c.jJ (.slice Y c.jW.length K) c.jW r W (E.at (fun b o h => l _ _ ((fun b o h => d.at_ (Mt (Mt (Mt (Ml h))))) b o h))) (L.sl kM (fun b o h => l _ _ ((fun b o h => d.at_ (Mt (Mt (Mt (Ma (Ml h)))))) b o h))) (O.at (fun b o h => l _ _ ((fun b o h => d.at_ (Mt (Mt (Mt (Ma (Ma (Ml h))))))) b o h))) (P.at (fun b o h => l _ _ ((fun b o h => d.at_ (Mt (Mt (Mt (Ma (Ma (Ma (Ml h)))))))) b o h))) ((R.Ej pN).mono (Pl.mono _) (lR (fun b o h => l _ _ ((fun b o h => d.at_ (Mt (Mt (Mt (Ma (Ma (Ma (Ma (Ml h))))))))) b o h)))) (At.of (l _ _ (d.at_ (Mt Mh))) _ rfl) (At.of (l _ _ (d.at_ Mh)) _ rfl) (g.mono jX.mono ((I.trans d.jB).trans l)) (j.mono lx.mono ((I.trans d.jB).trans l)) (At.of (l _ _ (d.at_ (Mt (Mt Mh)))) _ rfl) hm).lE⟩ a9) (fun d7 d => Wa (ln ?_))))))
 exact kh (rQ hm d)
theorem ym (a : mQ) (y z t x u D : Value) (r : ((List jv) × (List jv) × Bool)) (w : World) (i : Sl jU 15 (hp w) y a.jw.jJ) (j : Sl kH 8 (hp w) z a.jw.jW) (c : Sl jU 15 (hp w) t a.Client.jJ) (g : Sl kH 8 (hp w) x a.Client.jW) (k : Sl jx 5 (hp w) u a.Formula.Kids) (G : Sl ol 2 (hp w) D a.Keys) (hm : qc a = some r) :
  kY false pg0 56 [(.agg #[(.string a.jw.Name), y, z, (.string a.Client.Name), t, x, (.int .i64 a.Formula.Op), (.int .i64 a.Formula.K), (.string a.Formula.ju.jw), (.string a.Formula.ju.Word), u, (.int .i64 a.rZ), (.int .i64 a.my.uy), (.int .i64 a.my.uF), (.int .i64 a.nB), (.int .i64 a.pG), (.int .i64 a.oh), D])] w [] (fun v L1 W' => ∃ m S2 n S5, v = (.tuple #[m, n, (.bool (r.2.2))]) ∧ L1 = (S2 ++ (S5 ++ [])) ∧ jZ 52 jz 9 m r.1 S2 ∧ jZ 52 jz 9 n r.2.1 S5) := by
 refine vi 26 func56 rfl (fun b => sg ?_)
 obtain ⟨I, Q, rfl⟩ := i.form
 obtain ⟨J, T, rfl⟩ := j.form
 let a2 := (C5 a.jw.Name I a.jw.jJ.length Q J a.jw.jW.length T)
 obtain ⟨K, U, rfl⟩ := c.form
 obtain ⟨M, Y, rfl⟩ := g.form
 let a0 := (C5 a.Client.Name K a.Client.jJ.length U M a.Client.jW.length Y)
 obtain ⟨A9, N, rfl⟩ := k.form
 obtain ⟨P, R, rfl⟩ := G.form
 refine VE (kd b rfl (fun c0 c5 b => Wa (Wa (Wa (lr (Wf ze (VA b Mh a2 dt cL (Wf vO (VA b Mh a0 dt cL (bS hm fun c7 a4 hm => ?_))))))))))
 refine VE (yH b (bT _) call17 (fun _ _ _ _ => (Gy a.jw (.slice I a.jw.jJ.length Q) (.slice J a.jw.jW.length T) a.Client (.slice K a.Client.jJ.length U) (.slice M a.Client.jW.length Y) _ _ (i.mono jX.mono b.jB) (j.mono lx.mono b.jB) (c.mono jX.mono b.jB) (g.mono lx.mono b.jB) a4)) (fun c1 c9 d0 W b B l d a3 => ?_) (L0 := []))
 obtain ⟨Z, E, h, L, H, rfl, p, A⟩ := a3
 replace H := H.symm; subst H
 replace b := b.perm (Tr (Tr Tn))
 refine Wm (Wx rfl (Wx rfl (Wx rfl (Wa (Wa (Wa (lr (Wm (Wm (Wf ze (VA b (Ma (Ma Mh)) a2 dt cL ?_)))))))))))
 refine Wf vO (VA b (Ma (Ma Mh)) a0 dt cL (Wf Dm (VA b (Ma (Ma Mh)) (C1 a.Formula.Op a.Formula.K a.Formula.ju.jw a.Formula.ju.Word A9 a.Formula.Kids.length N) aI aB (bS hm fun O a5 hm => VE (Eg b call19 (HP a.jw (.slice I a.jw.jJ.length Q) (.slice J a.jw.jW.length T) a.Client (.slice K a.Client.jJ.length U) (.slice M a.Client.jW.length Y) a.Formula (.slice A9 a.Formula.Kids.length N) _ _ (i.mono jX.mono (B.trans b.jB)) (j.mono lx.mono (B.trans b.jB)) (c.mono jX.mono (B.trans b.jB)) (g.mono lx.mono (B.trans b.jB)) (k.mono jF.mono (B.trans b.jB)) a5) (fun c3 b => Wa (Wa (Wa (ln ?_)))))))))
 replace b := b.jy (Kr (Kr (Db St)))
 refine kh ?_
 obtain rfl := sj hm
 exact Hd (v0 := Z) (v1 := h) (v2 := (.bool O)) rfl rfl rfl rfl ⟨_, _, rfl, (b.Kp (Kr (Kr Sn))), Z, E, h, L, rfl, rfl, p, A⟩
theorem zN (a : mQ) (K U t J u n : Value) (c : mQ) (N Y x M y p : Value) (r : Bool) (w : World) (B : Sl jU 15 (hp w) K a.jw.jJ) (Q : Sl kH 8 (hp w) U a.jw.jW) (g : Sl jU 15 (hp w) t a.Client.jJ) (z : Sl kH 8 (hp w) J a.Client.jW) (i : Sl jx 5 (hp w) u a.Formula.Kids) (a4 : Sl ol 2 (hp w) n a.Keys) (G : Sl jU 15 (hp w) N c.jw.jJ) (T : Sl kH 8 (hp w) Y c.jw.jW) (j : Sl jU 15 (hp w) x c.Client.jJ) (D : Sl kH 8 (hp w) M c.Client.jW) (k : Sl jx 5 (hp w) y c.Formula.Kids) (a5 : Sl ol 2 (hp w) p c.Keys) (hm : tq a c = some r) :
  jV false pg0 23 [(.agg #[(.string a.jw.Name), K, U, (.string a.Client.Name), t, J, (.int .i64 a.Formula.Op), (.int .i64 a.Formula.K), (.string a.Formula.ju.jw), (.string a.Formula.ju.Word), u, (.int .i64 a.rZ), (.int .i64 a.my.uy), (.int .i64 a.my.uF), (.int .i64 a.nB), (.int .i64 a.pG), (.int .i64 a.oh), n]), (.agg #[(.string c.jw.Name), N, Y, (.string c.Client.Name), x, M, (.int .i64 c.Formula.Op), (.int .i64 c.Formula.K), (.string c.Formula.ju.jw), (.string c.Formula.ju.Word), y, (.int .i64 c.rZ), (.int .i64 c.my.uy), (.int .i64 c.my.uF), (.int .i64 c.nB), (.int .i64 c.pG), (.int .i64 c.oh), p])] w (.bool r) := by
 refine cG 38 func23 rfl (fun d => sg ?_)
 obtain ⟨A1, c2, rfl⟩ := B.form
 obtain ⟨A3, c4, rfl⟩ := Q.form
 obtain ⟨A5, c6, rfl⟩ := g.form
 obtain ⟨A7, c8, rfl⟩ := z.form
 obtain ⟨A9, c0, rfl⟩ := i.form
 obtain ⟨L, c1, rfl⟩ := a4.form
 refine VE (kd d rfl (fun h9 i5 d => ?_))
 obtain ⟨O, c3, rfl⟩ := G.form
 obtain ⟨P, c5, rfl⟩ := T.form
 obtain ⟨R, c7, rfl⟩ := j.form
 obtain ⟨b6, c9, rfl⟩ := D.form
 obtain ⟨b7, d0, rfl⟩ := k.form
 obtain ⟨b9, d1, rfl⟩ := a5.form
 refine VE (kd d rfl (fun i0 i6 d => Wa (lr (VA d (Mt Mh) (C2 a.jw.Name A1 a.jw.jJ.length c2 A3 a.jw.jW.length c4 a.Client.Name A5 a.Client.jJ.length c6 A7 a.Client.jW.length c8 a.Formula.Op a.Formula.K a.Formula.ju.jw a.Formula.ju.Word A9 a.Formula.Kids.length c0 a.rZ a.my.uy a.my.uF a.nB a.pG a.oh L a.Keys.length c1) dR dx (bS hm fun d5 f5 hm => ?_)))))
 refine VE (yH d (bT _) call56 (fun _ _ _ _ => (ym a (.slice A1 a.jw.jJ.length c2) (.slice A3 a.jw.jW.length c4) (.slice A5 a.Client.jJ.length c6) (.slice A7 a.Client.jW.length c8) (.slice A9 a.Formula.Kids.length c0) (.slice L a.Keys.length c1) _ _ (B.mono jX.mono d.jB) (Q.mono lx.mono d.jB) (g.mono jX.mono d.jB) (z.mono lx.mono d.jB) (i.mono jF.mono d.jB) (a4.mono uN.mono d.jB) f5)) (fun i1 j0 j6 h5 d Z a1 h f1 => ?_) (L0 := []))
 obtain ⟨h1, h7, d9, g3, m, rfl, f9, g0⟩ := f1
 replace m := m.symm; subst m
 replace d := d.perm (Tr (Tr Tn))
 refine Wm (Wx rfl (Wx rfl (Wx rfl (Wa (Wa (Wa (ln ?_)))))))
 replace d := d.jy (Kr (Kr (Kb (Db St))))
 refine sg (VA d (Ma (Ma Mh)) (C2 c.jw.Name O c.jw.jJ.length c3 P c.jw.jW.length c5 c.Client.Name R c.Client.jJ.length c7 b6 c.Client.jW.length c9 c.Formula.Op c.Formula.K c.Formula.ju.jw c.Formula.ju.Word b7 c.Formula.Kids.length d0 c.rZ c.my.uy c.my.uF c.nB c.pG c.oh b9 c.Keys.length d1) dR dx (bS hm fun d6 f6 hm => ?_))
 refine VE (yH d (bT _) call56 (fun _ _ _ _ => (ym c (.slice O c.jw.jJ.length c3) (.slice P c.jw.jW.length c5) (.slice R c.Client.jJ.length c7) (.slice b6 c.Client.jW.length c9) (.slice b7 c.Formula.Kids.length d0) (.slice b9 c.Keys.length d1) _ _ (G.mono jX.mono (Z.trans d.jB)) (T.mono lx.mono (Z.trans d.jB)) (j.mono jX.mono (Z.trans d.jB)) (D.mono lx.mono (Z.trans d.jB)) (k.mono jF.mono (Z.trans d.jB)) (a5.mono uN.mono (Z.trans d.jB)) f6)) (fun i2 j3 e1 h6 d h3 aa h f2 => ?_) (L0 := []))
 obtain ⟨h2, h8, e0, g4, a9, rfl, g1, g2⟩ := f2
 replace a9 := a9.symm; subst a9
 replace d := d.perm (Tr (Tr Tn))
 refine Wm (Wx rfl (Wx rfl (Wx rfl (Wa (Wa (Wa (ln ?_)))))))
 replace d := d.jy (Kr (Kr (Kr (Kr (Db St)))))
 refine sg (Wm (Wm (V (P6 jo rfl rfl rfl) (Wm (LJ hm (fun d8 E W => ∃ d2, ST false kx w W e1 (g4 ++ (g3 ++ d2)) ∧ E 4 = (.bool false) ∧ E 6 = d9 ∧ E 9 = e0 ∧ E 31 = (.bool d8)) 5 ?_ (fun d8 a3 A => ?_))))))
 ·rintro j4 E W ⟨d2, d, d4, g7, g8, g9⟩ f3
  refine Wh g9 (LJ f3 (fun d7 E W => ∃ d3, ST false kx w W e1 d3 ∧ E 4 = (.bool false) ∧ E 37 = (.bool d7)) 5 ?_ (fun d7 a2 v => ?_))
  ·rintro j5 E W ⟨d3, d, i7, h0⟩ f4
   exact Wg h0 (lt (rQ f4 d))
  refine bC a2 (fun I a2 => ?_) (fun I a2 => ?_)
  ·refine un I (un I (un I (un I (V (jS (cB I) rfl) ?_))))
   obtain rfl := sj a2
   exact v _ _ ⟨_, (d.jy (Dr (Dr St))), d4, rfl⟩
  refine ug I (jH g7) (ug I (jH g8) (bS a2 fun i8 f7 a2 => pE I (Eg d call58 (jV.lE (zq d9 d5.2.1 e0 d6.2.1 _ _ (g0.sl kM (fun b o l => d.at_ (Ma (Ml l)))) (g2.sl kM (fun b o l => d.at_ (Ml l))) f7)) (fun i3 d => ug I (mT rfl) (V (jT (cB I) rfl) ?_)))))
  obtain rfl := sj a2
  exact v _ _ ⟨_, (d.jy (Dr (Dr St))), d4, rfl⟩
 refine bC a3 (fun H a3 => ?_) (fun H a3 => ?_)
 ·refine un H (un H (un H (un H (V (jS (cB H) rfl) ?_))))
  obtain rfl := sj a3
  exact A _ _ ⟨_, (d.jy (Dr (Kr (Dr St)))), rfl, rfl, rfl, rfl⟩
 refine ug H (jH rfl) (ug H (jH rfl) (bS a3 fun i9 f8 a3 => pE H (Eg d call58 (jV.lE (zq h1 d5.1 h2 d6.1 _ _ (f9.sl kM (fun b o l => d.at_ (Ma (Ma (Ml l))))) (g1.sl kM (fun b o l => d.at_ (Ml l))) f8)) (fun i4 d => ug H (mT rfl) (V (jT (cB H) rfl) ?_)))))
 obtain rfl := sj a3
 exact A _ _ ⟨_, (d.jy (Dr (Kr (Dr St)))), rfl, rfl, rfl, rfl⟩
theorem AF (a : Value) (g : List jv) (c : Value) (i : jv → Option Bool) (r : Bool) (w : World) (j : Sl (Pl jz) 9 (hp w) a g) (k : tF pg0 c (hp w) (fun (x : jv) => [(.agg (jz x).toArray)]) (fun (r : Bool) => (.bool r)) i) (hm : qa g i = some r) :
  jV false pg0 112 [a, c] w (.bool r) := by
 refine cG 9 func112 rfl (fun b => sg (Wa (lr (Wm (Wm (bS hm fun y t hm => VE (Eg b call180 (xB a g c i _ _ (j.mono (Pl.mono _) b.jB) (k.mono b.jB) t) (fun u b => Wi rfl (Wa (kk ?_))))))))))
 exact jI (kh (rQ hm b))
theorem Fa (c : jv) (g : Nat) (a : Value) (j : List jv) (r : Bool) (w : World) (k : Sl (Pl jz) 9 (hp w) a j) (i : At (hp w) (.pointer (some ⟨g, 0, none⟩)) [a]) (hm : uz c j = some r) :
  jV true pg0 131 [(.agg (jz c).toArray), (.pointer (some ⟨g, 0, none⟩))] w (.bool r) := by
 refine cG 8 func131 rfl (fun b => sg (VE (kd b rfl (fun u z b => Wa (lr (V (jA rfl (pA b.has (y := a) i isAgg45)) (VA b Mh (jz c) bR aJ (bS hm fun B t hm => VE (Eg b call111 (DK a j c _ _ (k.mono (Pl.mono _) b.jB) t) (fun x b => V (mT rfl) (Wa ?_)))))))))))
 refine ln ?_
 exact kh (rQ hm b)
theorem Ch (a : Value) (j : List jv) (i : Value) (c : List jv) (r : Bool) (w : World) (t : Sl (Pl jz) 9 (hp w) a j) (g : Sl (Pl jz) 9 (hp w) i c) (hm : uu j c = some r) :
  jV false pg0 57 [a, i] w (.bool r) := by
 refine cG 9 func57 rfl (fun b => sg ?_)
 obtain ⟨u, y, rfl⟩ := g.form
 refine VE (kd b rfl (fun B k b => Wa (lr (Wm (V (pc (by exact qW rfl) rfl) (bS hm fun G z hm => VE (Eg b call112 (AF a j (.func (.func 131) #[] #[(.pointer (some ⟨k, 0, none⟩))]) (fun (x : jv) => uz x c) _ _ (t.mono (Pl.mono _) b.jB) ⟨131, #[], #[(.pointer (some ⟨k, 0, none⟩))], rfl, call131, fun W x r d hm => (Fa x k (.slice u c.length y) c r W (g.mono (Pl.mono _) (b.jB.trans d)) (At.of (d _ _ (b.at_ Mh)) _ rfl) hm).lE⟩ z) (fun D b => V (mT rfl) (Wa (ln ?_))))))))))
 exact kh (rQ hm b)
theorem uG (a : mQ) (I Q t H u A : Value) (c : mQ) (K T x J y L : Value) (r : Bool) (w : World) (B : Sl jU 15 (hp w) I a.jw.jJ) (M : Sl kH 8 (hp w) Q a.jw.jW) (g : Sl jU 15 (hp w) t a.Client.jJ) (z : Sl kH 8 (hp w) H a.Client.jW) (i : Sl jx 5 (hp w) u a.Formula.Kids) (a5 : Sl ol 2 (hp w) A a.Keys) (G : Sl jU 15 (hp w) K c.jw.jJ) (N : Sl kH 8 (hp w) T c.jw.jW) (j : Sl jU 15 (hp w) x c.Client.jJ) (D : Sl kH 8 (hp w) J c.Client.jW) (k : Sl jx 5 (hp w) y c.Formula.Kids) (v : Sl ol 2 (hp w) L c.Keys) (hm : oY a c = some r) :
  jV false pg0 22 [(.agg #[(.string a.jw.Name), I, Q, (.string a.Client.Name), t, H, (.int .i64 a.Formula.Op), (.int .i64 a.Formula.K), (.string a.Formula.ju.jw), (.string a.Formula.ju.Word), u, (.int .i64 a.rZ), (.int .i64 a.my.uy), (.int .i64 a.my.uF), (.int .i64 a.nB), (.int .i64 a.pG), (.int .i64 a.oh), A]), (.agg #[(.string c.jw.Name), K, T, (.string c.Client.Name), x, J, (.int .i64 c.Formula.Op), (.int .i64 c.Formula.K), (.string c.Formula.ju.jw), (.string c.Formula.ju.Word), y, (.int .i64 c.rZ), (.int .i64 c.my.uy), (.int .i64 c.my.uF), (.int .i64 c.nB), (.int .i64 c.pG), (.int .i64 c.oh), L])] w (.bool r) := by
 refine cG 38 func22 rfl (fun d => sg ?_)
 obtain ⟨A1, c2, rfl⟩ := B.form
 obtain ⟨A3, c4, rfl⟩ := M.form
 obtain ⟨A5, c6, rfl⟩ := g.form
 obtain ⟨A7, c8, rfl⟩ := z.form
 obtain ⟨A9, c5, rfl⟩ := i.form
 obtain ⟨b5, c7, rfl⟩ := a5.form
 refine VE (kd d rfl (fun j3 j8 d => ?_))
 obtain ⟨b6, c9, rfl⟩ := G.form
 obtain ⟨b7, d0, rfl⟩ := N.form
 obtain ⟨b9, d1, rfl⟩ := j.form
 obtain ⟨c0, d2, rfl⟩ := D.form
 obtain ⟨c1, d3, rfl⟩ := k.form
 obtain ⟨c3, d4, rfl⟩ := v.form
 refine VE (kd d rfl (fun j4 j9 d => Wa (lr (VA d (Mt Mh) (C2 a.jw.Name A1 a.jw.jJ.length c2 A3 a.jw.jW.length c4 a.Client.Name A5 a.Client.jJ.length c6 A7 a.Client.jW.length c8 a.Formula.Op a.Formula.K a.Formula.ju.jw a.Formula.ju.Word A9 a.Formula.Kids.length c5 a.rZ a.my.uy a.my.uF a.nB a.pG a.oh b5 a.Keys.length c7) dR dx (bS hm fun d6 g3 hm => ?_)))))
 refine VE (yH d (bT _) call56 (fun _ _ _ _ => (ym a (.slice A1 a.jw.jJ.length c2) (.slice A3 a.jw.jW.length c4) (.slice A5 a.Client.jJ.length c6) (.slice A7 a.Client.jW.length c8) (.slice A9 a.Formula.Kids.length c5) (.slice b5 a.Keys.length c7) _ _ (B.mono jX.mono d.jB) (M.mono lx.mono d.jB) (g.mono jX.mono d.jB) (z.mono lx.mono d.jB) (i.mono jF.mono d.jB) (a5.mono uN.mono d.jB) g3)) (fun j5 k2 k6 i5 d a2 a1 h f8 => ?_) (L0 := []))
 obtain ⟨h7, i7, h8, i8, m, rfl, g8, g9⟩ := f8
 replace m := m.symm; subst m
 replace d := d.perm (Tr (Tr Tn))
 refine Wm (Wx rfl (Wx rfl (Wx rfl (Wa (Wa (Wa (ln ?_)))))))
 replace d := d.jy (Kr (Kr (Kb (Db St))))
 refine sg (VA d (Ma (Ma Mh)) (C2 c.jw.Name b6 c.jw.jJ.length c9 b7 c.jw.jW.length d0 c.Client.Name b9 c.Client.jJ.length d1 c0 c.Client.jW.length d2 c.Formula.Op c.Formula.K c.Formula.ju.jw c.Formula.ju.Word c1 c.Formula.Kids.length d3 c.rZ c.my.uy c.my.uF c.nB c.pG c.oh c3 c.Keys.length d4) dR dx (bS hm fun d7 g4 hm => ?_))
 refine VE (yH d (bT _) call56 (fun _ _ _ _ => (ym c (.slice b6 c.jw.jJ.length c9) (.slice b7 c.jw.jW.length d0) (.slice b9 c.Client.jJ.length d1) (.slice c0 c.Client.jW.length d2) (.slice c1 c.Formula.Kids.length d3) (.slice c3 c.Keys.length d4) _ _ (G.mono jX.mono (a2.trans d.jB)) (N.mono lx.mono (a2.trans d.jB)) (j.mono jX.mono (a2.trans d.jB)) (D.mono lx.mono (a2.trans d.jB)) (k.mono jF.mono (a2.trans d.jB)) (v.mono uN.mono (a2.trans d.jB)) g4)) (fun j6 k3 p i6 d i1 aa h f9 => ?_) (L0 := []))
 obtain ⟨h9, i9, i0, j0, n, rfl, h0, h1⟩ := f9
 replace n := n.symm; subst n
 replace d := d.perm (Tr (Tr Tn))
 refine Wm (Wx rfl (Wx rfl (Wx rfl (Wa (Wa (Wa (ln ?_)))))))
 replace d := d.jy (Kr (Kr (Kr (Kr (Db St)))))
 refine sg (Wm (Wm (bS hm fun k1 g7 hm => VE (Eg d call57 (Ch h9 d7.1 h7 d6.1 _ _ (h0.sl kM (fun b o l => d.at_ (Ml l))) (g8.sl kM (fun b o l => d.at_ (Ma (Ma (Ml l))))) g7) (fun j7 d => Wm (LJ hm (fun d9 E W => ∃ e2, ST false kx w W p e2 ∧ E 4 = (.bool false) ∧ E 7 = (.bool d6.2.2) ∧ E 10 = (.bool d7.2.2) ∧ E 30 = (.bool d9)) 4 ?_ (fun d9 Z P => ?_)))))))
 ·rintro h6 E W ⟨e2, d, d5, h2, h3, h4⟩ g0
  refine Wh h4 (LJ g0 (fun e5 E W => ∃ e3, ST false kx w W p e3 ∧ E 4 = (.bool false) ∧ E 37 = (.bool e5)) 6 ?_ (fun e5 a9 R => ?_))
  ·rintro k4 E W ⟨e3, d, k0, h5⟩ g1
   exact Wg h5 (lt (rQ g1 d))
  refine bC a9 (fun U a9 => ?_) (fun U a9 => ?_)
  ·refine ug U (jH h2) (ug U (jH rfl) (LJ a9 (fun d8 E W => ∃ e4, ST false kx w W p e4 ∧ E 4 = (.bool false) ∧ E 31 = (.bool h6) ∧ E 36 = (.bool d8)) 3 ?_ (fun d8 a4 O => ?_)))
   ·rintro k5 E W ⟨e4, d, f5, f6, f7⟩ g2
    refine V (jS (f6.trans (cB U)) f7) ?_
    obtain rfl := sj g2
    exact R _ _ ⟨_, (d.jy St), f5, rfl⟩
   refine bC a4 (fun a3 a4 => ?_) (fun a3 a4 => ?_)
   ·refine un a3 (un a3 (ug U (jS (cB a3) rfl) ?_))
    obtain rfl := sj a4
    exact O _ _ ⟨_, (d.jy St), d5, rfl, rfl⟩
   refine ug a3 (jH h3) (ug a3 (mT rfl) (ug U (jT (cB a3) rfl) ?_))
   obtain rfl := sj a4
   exact O _ _ ⟨_, (d.jy St), d5, rfl, rfl⟩
  refine un U (un U (Vu rfl rfl (Vu rfl rfl (un U (V (jT (cB U) rfl) ?_)))))
  obtain rfl := sj a9
  exact R _ _ ⟨_, (d.jy St), d5, rfl⟩
 refine bC Z (fun Y Z => ?_) (fun Y Z => ?_)
 ·refine ug Y (jH rfl) (ug Y (jH rfl) (bS Z fun i4 e1 Z => pE Y (Eg d call57 (Ch i0 d7.2.1 h8 d6.2.1 _ _ (h1.sl kM (fun b o l => d.at_ (Ma (Ml l)))) (g9.sl kM (fun b o l => d.at_ (Ma (Ma (Ma (Ml l)))))) e1) (fun i3 d => V (jS (cB Y) rfl) ?_))))
  obtain rfl := sj Z
  exact P _ _ ⟨_, (d.jy (Dr (Dr (Dr (Dr St))))), rfl, rfl, rfl, rfl⟩
 refine un Y (un Y (un Y (V (jT (cB Y) rfl) ?_)))
 obtain rfl := sj Z
 exact P _ _ ⟨_, (d.jy (Dr (Dr (Dr (Dr St))))), rfl, rfl, rfl, rfl⟩
set_option maxHeartbeats 4000000 in
theorem Jr (r : Bool) (w : World) (e1 : Cm pg0 (hp w)) (hm : vP  = some r) :
  jV false pg0 20 [] w (.bool r) := by
 refine cG 55 func20 rfl (fun d => sg (Wa (lr (V (lC (v := (.agg (jE BS).toArray)) (pw rfl rfl) (kW ee dA (Kc _ dA) kr)) (V (lC (v := (.agg (jz ME).toArray)) (Dx rfl rfl rfl) (kW cO dT (Ts _ dT) kr)) (VE (ku d cO (fun W2 b1 d => VO (jR (.agg (jz ME).toArray) ((jz ME).toArray) d rfl rfl aJ (nz ME) nb rfl (fun W3 d => ln (jM ?_)))))))))))
 refine jL (V (lC (v := (.agg #[(.string K4), (.slice none 0 0), (.slice none 0 0)])) (lW rfl) (kW zeroValue25 fk (Ta _ fk) kr)) (V (lC (v := (.agg #[(.string K3), (.slice none 0 0), (.slice none 0 0)])) (lW rfl) (kW zeroValue25 fk (Ta _ fk) kr)) (Wf qp (VA d Mh (jE BS) bn aN (V (lC (v := (.agg #[(.int .i64 1), (.int .i64 0), (.string (BS.jw)), (.string (BS.Word)), (.slice none 0 0)])) (pw rfl rfl) (kW aO bD (tS _ bD) kr)) (V (lC (v := (.agg C4.toArray)) (Dx rfl rfl rfl) (kW zeroValue34 ek (UJ _ ek) kr)) (VE (ku d zeroValue34 (fun W5 K d => VO (jR (.agg C4.toArray) (C4.toArray) d rfl rfl dx oc nb rfl (fun W6 d => lr (VA d Mh C4 dR dx (VE (ku d zeroValue34 (fun W8 M d => ?_)))))))))))))))
 let g6 : Value := (.pointer (some ⟨M, 0, none⟩))
 let g5 : Value := (.pointer (some ⟨K, 0, none⟩))
 refine VO (jR (.agg C4.toArray) (C4.toArray) d rfl rfl dx oc nb rfl (fun W9 d => ln (jM ?_)))
 replace d := d.drew
 have h := d.has.jy (Db (Db (Kb Sn)))
 refine kI h kl (XH 0 rfl h (fun _ hS => jA rfl (jD hS Mh (jz ME) rfl bR aJ)) (X 3 rfl h (lC (v := (.agg EK.toArray)) (lW rfl) (kW aO bD (tS _ bD) kr)) (bS hm fun a d6 hm => XE 1 rfl (Ln (enc := (kN .u8)) (z := 0) d (fun _ => rfl) dc cQ sD.1 sD.2.1 sD.2.2.1 sD.2.2.2 rfl rfl rfl d6 (fun f9 g4 f8 d a0 => ?_)))))
 let n := (⟨(⟨ME, a⟩ : Signed), UQ⟩ : ke)
 let L := (⟨Ud, (⟨K3, [n], []⟩ : kD), Ua, 0, K5, 0, 0, 0, []⟩ : mQ)
 have h := d.has.jy (Dr (Db (Db (Kb Sn))))
 refine ⟨h, ?_⟩
 obtain ⟨g, i, rfl⟩ := a0.form
 let h1 : Value := (.slice g a.length i)
 refine X 2 rfl h (lC (v := (.agg #[(.int .i64 1), (.string (BS.jw)), (.string (BS.Word)), (.string K3), (.string (K0.jw)), (.string (K0.Word)), (.string (K0.jw)), (.string (K0.Word)), (.string zS), h1])) (pw rfl rfl) (kW jq gW (Uy _ gW) kr)) (X 4 rfl h (lC (v := (.agg (C7 g a.length i).toArray)) (pw rfl rfl) (kW eU fK (Sj _ fK) kr)) ?_)
 have f1 := a0.Qp d (fun p m => (Ml m))
 obtain ⟨Z, d, I, aa, J⟩ := ST.Pk d a0 (fun _ => rfl)
 refine XE 5 rfl (kq (cs := (C7 g a.length i).toArray) d (lW rfl) (mr dP dD eU) (fun g0 k d => ?_))
 let b8 : Value := (.slice (some ⟨k, 0, none⟩) 1 1)
 have h := d.has.wV I (Db (Db (Db (Kb Sn))))
 refine ⟨h, (X 6 rfl h (jG vO rfl) (X 7 rfl h (jG yR rfl) ?_))⟩
 replace d := d.perm (Nb (Pb Pz) Nz)
 refine XO 8 rfl (jR b8 ((C8 k).toArray) d rfl rfl sizeOf22 oc nb rfl (fun g1 d => ?_))
 have h := d.has.wV I (Db (Db (Db (Kb Sn))))
 refine ⟨h, (kT kr (jI ?_))⟩
 replace d := d.jy (Kb (Kb (Kb (Db St))))
 refine sg (VA d (Mt (Mt Mh)) C4 dR dx (VA d Mh (C8 k) dR dx (bS hm fun g3 e0 hm => VE (Eg d call25 (JA Ms (.slice none 0 0) (.slice none 0 0) (.slice none 0 0) (.slice none 0 0) (.slice none 0 0) (.slice none 0 0) L (.slice none 0 0) (.slice none 0 0) b8 (.slice none 0 0) (.slice none 0 0) (.slice none 0 0) _ _ (e1.mono (I.trans d.jB)) (Sl.nil _ _ _) (Sl.nil _ _ _) (Sl.nil _ _ _) (Sl.nil _ _ _) (Sl.nil _ _ _) (Sl.nil _ _ _) (Sl.nil _ _ _) (Sl.nil _ _ _) ((kK.lit jX (l := [n]) (.cons (ys := C7 g a.length i) (jU.mk ⟨h1, (.slice none 0 0), rfl, J, (Sl.nil _ _ _)⟩) .nil) rfl nb rfl).sl jX d.jB (fun b o m => (by rw [bP] at m; cases m; exact d.at_ (Mt Mh)))) (Sl.nil _ _ _) (Sl.nil _ _ _) (Sl.nil _ _ _) e0) (fun g2 d => V (pM rfl rfl rfl) (Wm (LJ hm (fun b3 E W => ∃ c4, ST false kx w W Z ((M, Ol (C8 k) 34) :: ((k, Ol (C7 g a.length i) 57) :: ((K, Ol C4 34) :: c4))) ∧ E 0 = (.bool false) ∧ E 2 = g5 ∧ E 3 = g6 ∧ E 32 = (.bool b3)) 7 ?_ (fun b3 H Y => ?_))))))))
 ·let h3 := ((C8 k).toArray : Array Value)
  let R := ((C7 g a.length i).toArray : Array Value)
  rintro g7 E W ⟨c4, d, c8, a4, a5, e2⟩ d7
  refine Wh e2 (LJ d7 (fun b2 E W => ∃ c5, ST false kx w W Z ((M, Obj.cells h3 34 (0, 0)) :: ((k, Obj.cells R 57 (0, 0)) :: ((K, Ol C4 34) :: c5))) ∧ E 0 = (.bool false) ∧ E 2 = g5 ∧ E 3 = g6 ∧ E 37 = (.bool b2)) 4 ?_ (fun b2 G U => ?_))
  ·rintro g8 E W ⟨c5, d, c9, A, d0, e3⟩ d8
   refine Wh e3 (LJ d8 (fun b0 E W => ∃ c6, ST false kx w W Z ((M, Obj.cells h3 34 (0, 0)) :: ((k, Obj.cells R 57 (0, 0)) :: ((K, Ol C4 34) :: c6))) ∧ E 0 = (.bool false) ∧ E 2 = g5 ∧ E 3 = g6 ∧ E 43 = (.bool b0)) 5 ?_ (fun b0 D T => ?_))
   ·rintro g9 E W ⟨c6, d, d1, O, P, e4⟩ d9
    refine Wh e4 (LJ d9 (fun a9 E W => ∃ c7, ST false kx w W Z ((M, Obj.cells h3 34 (0, 0)) :: ((k, Obj.cells R 57 (0, 0)) :: ((K, Ol C4 34) :: c7))) ∧ E 0 = (.bool false) ∧ E 2 = g5 ∧ E 3 = g6 ∧ E 48 = (.bool a9)) 4 ?_ (fun a9 B Q => ?_))
    ·rintro h0 E W ⟨c7, d, a3, d2, d3, d4⟩ b5
     refine Wh d4 (LJ b5 (fun a8 E W => ∃ a2, ST false kx w W Z a2 ∧ E 0 = (.bool false) ∧ E 54 = (.bool a8)) 5 ?_ (fun a8 y N => ?_))
     ·rintro f7 E W ⟨a2, d, f0, d5⟩ b6
      exact Wg d5 (lt (rQ b6 d))
     refine bC y (fun j y => ?_) (fun j y => ?_)
     ·refine ug j (jA d2 (jD d.has (Mt (Mt Mh)) C4 rfl dR dx)) (ug j (jA d3 (jD d.has Mh (C8 k) rfl dR dx)) (bS y fun f2 b9 y => pE j (Eg d call22 (uG Ms (.slice none 0 0) (.slice none 0 0) (.slice none 0 0) (.slice none 0 0) (.slice none 0 0) (.slice none 0 0) L (.slice none 0 0) (.slice none 0 0) b8 (.slice none 0 0) (.slice none 0 0) (.slice none 0 0) _ _ (Sl.nil _ _ _) (Sl.nil _ _ _) (Sl.nil _ _ _) (Sl.nil _ _ _) (Sl.nil _ _ _) (Sl.nil _ _ _) (Sl.nil _ _ _) (Sl.nil _ _ _) ((kK.lit jX (l := [n]) (.cons (ys := C7 g a.length i) (jU.mk ⟨h1, (.slice none 0 0), rfl, J, (Sl.nil _ _ _)⟩) .nil) rfl nb rfl).sl jX d.jB (fun b o m => (by rw [bP] at m; cases m; exact d.at_ (Mt Mh)))) (Sl.nil _ _ _) (Sl.nil _ _ _) (Sl.nil _ _ _) b9) (fun e5 d => ug j (mT rfl) (V (jS (cB j) rfl) ?_)))))
      obtain rfl := sj y
      exact N _ _ ⟨_, (d.jy (Db (Db (Db St)))), a3, rfl⟩
     refine un j (un j (un j (un j (V (jT (cB j) rfl) ?_))))
     obtain rfl := sj y
     exact N _ _ ⟨_, (d.jy (Db (Db (Db St)))), a3, rfl⟩
    refine bC B (fun x B => ?_) (fun x B => ?_)
    ·refine ug x (jA P (jD d.has Mh (C8 k) rfl dR dx)) (ug x (jA O (jD d.has (Mt (Mt Mh)) C4 rfl dR dx)) (bS B fun f3 c0 B => pE x (Eg d call22 (uG L (.slice none 0 0) (.slice none 0 0) b8 (.slice none 0 0) (.slice none 0 0) (.slice none 0 0) Ms (.slice none 0 0) (.slice none 0 0) (.slice none 0 0) (.slice none 0 0) (.slice none 0 0) (.slice none 0 0) _ _ (Sl.nil _ _ _) (Sl.nil _ _ _) ((kK.lit jX (l := [n]) (.cons (ys := C7 g a.length i) (jU.mk ⟨h1, (.slice none 0 0), rfl, J, (Sl.nil _ _ _)⟩) .nil) rfl nb rfl).sl jX d.jB (fun b o m => (by rw [bP] at m; cases m; exact d.at_ (Mt Mh)))) (Sl.nil _ _ _) (Sl.nil _ _ _) (Sl.nil _ _ _) (Sl.nil _ _ _) (Sl.nil _ _ _) (Sl.nil _ _ _) (Sl.nil _ _ _) (Sl.nil _ _ _) (Sl.nil _ _ _) c0) (fun e6 d => V (jS (cB x) rfl) ?_))))
     obtain rfl := sj B
     exact Q _ _ ⟨_, (d.jy St), d1, O, P, rfl⟩
    refine un x (un x (un x (V (jT (cB x) rfl) ?_)))
    obtain rfl := sj B
    exact Q _ _ ⟨_, (d.jy St), d1, O, P, rfl⟩
   refine bC D (fun t D => ?_) (fun t D => ?_)
   ·refine ug t (jA A (jD d.has (Mt (Mt Mh)) C4 rfl dR dx)) (ug t (jA A (jD d.has (Mt (Mt Mh)) C4 rfl dR dx)) (bS D fun f4 c1 D => pE t (Eg d call23 (zN Ms (.slice none 0 0) (.slice none 0 0) (.slice none 0 0) (.slice none 0 0) (.slice none 0 0) (.slice none 0 0) Ms (.slice none 0 0) (.slice none 0 0) (.slice none 0 0) (.slice none 0 0) (.slice none 0 0) (.slice none 0 0) _ _ (Sl.nil _ _ _) (Sl.nil _ _ _) (Sl.nil _ _ _) (Sl.nil _ _ _) (Sl.nil _ _ _) (Sl.nil _ _ _) (Sl.nil _ _ _) (Sl.nil _ _ _) (Sl.nil _ _ _) (Sl.nil _ _ _) (Sl.nil _ _ _) (Sl.nil _ _ _) c1) (fun e7 d => ug t (mT rfl) (V (jS (cB t) rfl) ?_)))))
    obtain rfl := sj D
    exact T _ _ ⟨_, (d.jy St), c9, A, d0, rfl⟩
   refine un t (un t (un t (un t (V (jT (cB t) rfl) ?_))))
   obtain rfl := sj D
   exact T _ _ ⟨_, (d.jy St), c9, A, d0, rfl⟩
  refine bC G (fun u G => ?_) (fun u G => ?_)
  ·refine ug u (jA a4 (jD d.has (Mt (Mt Mh)) C4 rfl dR dx)) (ug u (jA a5 (jD d.has Mh (C8 k) rfl dR dx)) (bS G fun f5 c2 G => pE u (Eg d call23 (zN Ms (.slice none 0 0) (.slice none 0 0) (.slice none 0 0) (.slice none 0 0) (.slice none 0 0) (.slice none 0 0) L (.slice none 0 0) (.slice none 0 0) b8 (.slice none 0 0) (.slice none 0 0) (.slice none 0 0) _ _ (Sl.nil _ _ _) (Sl.nil _ _ _) (Sl.nil _ _ _) (Sl.nil _ _ _) (Sl.nil _ _ _) (Sl.nil _ _ _) (Sl.nil _ _ _) (Sl.nil _ _ _) ((kK.lit jX (l := [n]) (.cons (ys := C7 g a.length i) (jU.mk ⟨h1, (.slice none 0 0), rfl, J, (Sl.nil _ _ _)⟩) .nil) rfl nb rfl).sl jX d.jB (fun b o m => (by rw [bP] at m; cases m; exact d.at_ (Mt Mh)))) (Sl.nil _ _ _) (Sl.nil _ _ _) (Sl.nil _ _ _) c2) (fun e8 d => V (jS (cB u) rfl) ?_))))
   obtain rfl := sj G
   exact U _ _ ⟨_, (d.jy St), c8, a4, a5, rfl⟩
  refine un u (un u (un u (V (jT (cB u) rfl) ?_)))
  obtain rfl := sj G
  exact U _ _ ⟨_, (d.jy St), c8, a4, a5, rfl⟩
 refine bC H (fun c H => ?_) (fun c H => ?_)
 ·refine ug c (jG vO rfl) (ug c (jA rfl (jD d.has (Mt (Mt Mh)) [(.string K3), (.slice none 0 0), (.slice none 0 0)] rfl dt cL)) (ug c (jG vO rfl) (ug c (jA rfl (jD d.has (Mt (Mt Mh)) [(.string K3), (.slice none 0 0), (.slice none 0 0)] rfl dt cL)) (bS H fun f6 c3 H => pE c (Eg d call27 (Da RZ (.slice none 0 0) (.slice none 0 0) RZ (.slice none 0 0) (.slice none 0 0) _ _ (Sl.nil _ _ _) (Sl.nil _ _ _) (Sl.nil _ _ _) (Sl.nil _ _ _) c3) (fun e9 d => ug c (pM rfl rfl rfl) (V (jS (cB c) rfl) ?_)))))))
  obtain rfl := sj H
  exact Y _ _ ⟨_, (d.jy St), rfl, rfl, rfl, rfl⟩
 refine un c (un c (un c (un c (un c (un c (V (jT (cB c) rfl) ?_))))))
 obtain rfl := sj H
 exact Y _ _ ⟨_, (d.jy St), rfl, rfl, rfl, rfl⟩
theorem Ek (k : Value) (u : List jv) (r : Int) (w : World) (j : Sl (Pl jz) 9 (hp w) k u) (hm : vR u = some r) :
  jV true pg0 108 [k] w (.int .i64 r) := by
 refine cG 54 func108 rfl (fun b => sg (Wa (lr (Wa (lS (Wm ?_))))))
 refine V (kU aP rfl j) (Wm (ln (kC (fun i E W => ∃ g t, (E 8 = .int .i64 (i : Nat) ∧ E 7 = .int .i64 (u.length : Nat)) ∧ ST true kx w W (hp w) t ∧ E 3 = (.int .i64 g) ∧ E 6 = k ∧ rA (u.drop i) g = some r) u.length j.len ⟨0, _, ⟨rfl, rfl⟩, (b.jy St), rfl, rfl, hm⟩ dc dc dc (fun _ _ _ h => by obtain ⟨_, _, l, _⟩ := h; exact l) ?_ ?_)))
 ·rintro I E W z ⟨g, t, ⟨d, m⟩, b, x, y, c⟩
  obtain ⟨a, J, G, D, H⟩ := kp z
  rw [G] at c
  refine bg (VQ (na (enc := jz) (i := (I : Int)) (x0 := a) aP aJ y d j (aG _) D) (fun Q B => V (jA rfl (kf b.has B bR aJ)) (VE (ku b cO (fun K N b => VO (jR (.agg (jz a).toArray) ((jz a).toArray) b rfl rfl aJ (nz a) nb rfl (fun M b => ln (jL (Wh x (Wf qp (Wf oM (VB b Mh rfl rfl bM (V (nX bW rfl) ?_)))))))))))))
  refine Wi rfl (Wf qp (Wf tG (VB b Mh rfl rfl bM (V (nX bW rfl) (Wi rfl (Wf vT (VB b Mh rfl rfl bM (V (nX bW rfl) (Wi rfl (Wf nD (Wf oM (VB b Mh rfl rfl bM (V (nX bW rfl) (Wi rfl ?_))))))))))))))
  refine Wf nD (Wf tG (VB b Mh rfl rfl bM (V (nX bW rfl) (Wi rfl (Wf rV (Wf oM (VB b Mh rfl rfl bM (V (nX bW rfl) (Wi rfl (Wf rV (Wf tG (VB b Mh rfl rfl bM (V (nX bW rfl) (Wi rfl ?_))))))))))))))
  refine Wf uD (VB b Mh rfl rfl bM (V (nX bW rfl) (Wi rfl (Wi rfl (Wa (kk (kA (jI ?_))))))))
  replace b := b.jy (Db St)
  exact ⟨d, (wi0 .i64 (g + (wi0 .i64 ((wi0 .i64 ((wi0 .i64 ((wi0 .i64 ((wi0 .i64 ((wi0 .i64 ((wi0 .i64 ((wi0 .i64 (20 + (a.Head.jw.size : Int))) + (a.Head.Word.size : Int))) + (a.kE.size : Int))) + (a.B.jw.size : Int))) + (a.B.Word.size : Int))) + (a.C.jw.size : Int))) + (a.C.Word.size : Int))) + (a.kL.size : Int))))), _, ⟨rfl, m⟩, (b.jy St), rfl, y, (by rw [H]; exact c)⟩
 rintro E W ⟨g, t, ⟨d, m⟩, b, x, y, c⟩
 rw [aH] at c
 exact jI (sg (Wh x (Wa (lt (rQ c b)))))
theorem yg (H : Value) (Q : List Key) (u : Value) (J : List Signed) (r : Int) (w : World) (B : Sl ol 2 (hp w) H Q) (D : Sl tj 10 (hp w) u J) (hm : uo Q J = some r) :
  jV true pg0 40 [H, u] w (.int .i64 r) := by
 refine cG 45 func40 rfl (fun b => sg (Wa (lr (Wa (lS (Wm ?_))))))
 refine V (kU gZ rfl B) (Wm (ln (kC (fun i E W => ∃ t N, (E 12 = .int .i64 (i : Nat) ∧ E 11 = .int .i64 (Q.length : Nat)) ∧ ST true kx w W (hp w) N ∧ E 1 = u ∧ E 5 = (.int .i64 t) ∧ E 10 = H ∧ qk J (Q.drop i) t = some r) Q.length B.len ⟨0, _, ⟨rfl, rfl⟩, (b.jy St), rfl, rfl, rfl, hm⟩ dc dc dc (fun _ _ _ h => by obtain ⟨_, _, n, _⟩ := h; exact n) ?_ ?_)))
 ·rintro c3 E W b5 ⟨t, N, ⟨m, p⟩, b, U, Y, Z, g⟩
  obtain ⟨k, d4, b9, b7, c0⟩ := kp b5
  rw [b9] at g
  refine bg (VQ (lU (i := (c3 : Int)) (x0 := k) ol.out gZ sizeOf119 Z m B (aG _) b7) (fun d8 ⟨_, ⟨d9, rfl, a2⟩, b6⟩ => V (jA rfl (kf b.has b6 isAgg119 sizeOf119)) (VE (ku b zeroValue119 (fun d5 d7 b => ?_)))))
  obtain ⟨A, L, rfl⟩ := a2.form
  refine VO (jR (.agg #[(.string k.kE), (.slice A k.Key.length L)]) (#[(.string k.kE), (.slice A k.Key.length L)]) b rfl rfl sizeOf119 oc nb rfl (fun d6 b => ln (jL (Wh Y (Wf RK (VB b Mh rfl rfl bM (V (nX bW rfl) (Wi rfl (Wf RB (VB b Mh rfl rfl iK (V (kU cQ rfl a2) (Wi rfl (Wi rfl (Wa ?_))))))))))))))
  refine kk (kA (jI ?_))
  replace b := b.jy (Db St)
  exact ⟨m, (wi0 .i64 (t + (wi0 .i64 ((wi0 .i64 (10 + (k.kE.size : Int))) + (k.Key.length : Int))))), _, ⟨rfl, p⟩, (b.jy St), U, rfl, Z, (by rw [c0]; exact g)⟩
 rintro E W ⟨t, N, ⟨m, p⟩, b, U, Y, Z, g⟩
 rw [aH] at g
 refine jI (jM (sg (Wh U (V (kU je rfl D) (Wm (ln (CJ g (fun G E W => ∃ M, ST true kx w W (hp w) M ∧ E 5 = (.int .i64 G)) (fun G a5 => ?_) ?_)))))))
 ·refine kC (fun i E W => ∃ j x, (E 29 = .int .i64 (i : Nat) ∧ E 28 = .int .i64 (J.length : Nat)) ∧ ST true kx w W (hp w) x ∧ E 5 = (.int .i64 j) ∧ E 27 = u ∧ rF (J.drop i) j = some G) J.length D.len ⟨t, _, ⟨rfl, rfl⟩, (b.jy St), Y, rfl, a5⟩ dc dc dc (fun _ _ _ h => by obtain ⟨_, _, n, _⟩ := h; exact n) ?_ ?_
  ·rintro c1 E W a3 ⟨j, x, ⟨m, p⟩, b, y, z, c⟩
   obtain ⟨a, c4, a9, R, b0⟩ := kp a3
   rw [a9] at c
   refine bg (VQ (lU (i := (c1 : Int)) (x0 := a) tj.out je iW z m D (aG _) R) (fun d0 ⟨_, ⟨d1, rfl, I⟩, O⟩ => V (jA rfl (kf b.has O isAgg55 iW)) (VE (ku b jq (fun c5 c9 b => ?_)))))
   obtain ⟨K, T, rfl⟩ := I.form
   let a0 := (O0 a.jv.Kind a.jv.Head.jw a.jv.Head.Word a.jv.kE a.jv.B.jw a.jv.B.Word a.jv.C.jw a.jv.C.Word a.jv.kL K a.Tag.length T)
   refine VO (jR (.agg a0.toArray) (a0.toArray) b rfl rfl iW oc nb rfl (fun c6 b => ln ?_))
   replace b := b.drew
   have d := b.has.jy (Kb Sn)
   refine kI d kl (X 0 rfl d (jH y) (X 1 rfl d (jG yO rfl) (XH 2 rfl d (fun _ v => jA rfl (jD v Mh (jz a.jv) rfl bR aJ)) (X 5 rfl d (jG Sq rfl) (XH 6 rfl d (fun _ v => jA rfl (jP v Mh rfl iK)) (X 7 rfl d (kU cQ rfl I) (XE 3 rfl (kq (cs := (jz a.jv).toArray) b (lW rfl) (mr aP aJ cO) (fun c7 b3 b => ?_)))))))))
   have d := b.has.jy (Db (Kb Sn))
   refine ⟨d, (bS c fun c2 P c => XE 4 rfl (Eg b call108 (Ek (.slice (some ⟨b3, 0, none⟩) 1 1) ([a.jv]) _ _ (Sl.lit (enc := jz) (l := [a.jv]) kM rfl nb rfl (b.at_ Mh)) P) (fun c8 b => ?_)))⟩
   have d := b.has.jy (Db (Kb Sn))
   refine ⟨d, (X 8 rfl d (kG rfl rfl rfl) (X 9 rfl d (kG rfl rfl rfl) (X 10 rfl d (mP rfl) (kT kr (kA (jI ?_))))))⟩
   replace b := b.jy (Db (Db St))
   exact ⟨m, (wi0 .i64 (j + (wi0 .i64 (c2 + (a.Tag.length : Int))))), _, ⟨rfl, p⟩, (b.jy St), rfl, z, (by rw [b0]; exact c)⟩
  rintro E W ⟨j, x, ⟨m, p⟩, b, y, z, c⟩
  rw [aH] at c
  refine jI ?_
  obtain rfl := sj c
  exact ⟨_, (b.jy St), y⟩
 rintro d3 E W ⟨M, b, b4⟩ a4
 exact sg (Wh b4 (Wa (lt (rQ a4 b))))
theorem FE (I : (List Formula) → Option Int) (N : ∀ (j : Value) (u : List Formula) (r : Int) (w : World) (t : Sl jx 5 (hp w) j u), I u = some r → jV false pg0 39 [j] w (.int .i64 r)) (j : Value) (u : List Formula) (r : Int) (w : World) (t : Sl jx 5 (hp w) j u) (hm : wO I u = some r) :
  jV false pg0 39 [j] w (.int .i64 r) := by
 refine cG 31 func39 rfl (fun l => sg (Wa (lr (Wa (lS (Wm ?_))))))
 refine V (kU aD rfl t) (Wm (ln (kC (fun i E W => ∃ x z, (E 8 = .int .i64 (i : Nat) ∧ E 7 = .int .i64 (u.length : Nat)) ∧ ST false kx w W (hp w) z ∧ E 3 = (.int .i64 x) ∧ E 6 = j ∧ rE I (u.drop i) x = some r) u.length t.len ⟨0, _, ⟨rfl, rfl⟩, (l.jy St), rfl, rfl, hm⟩ dc dc dc (fun _ _ _ h => by obtain ⟨_, _, p, _⟩ := h; exact p) ?_ ?_)))
 ·rintro Z E W M ⟨x, z, ⟨n, L⟩, l, D, G, g⟩
  obtain ⟨c, R, T, Q, U⟩ := kp M
  let a0 := ((c.ju.jw.size : Int) + (c.ju.Word.size : Int))
  rw [T] at g
  refine bg (VQ (lU (i := (Z : Int)) (x0 := c) jx.out aD aB G n t (aG _) Q) (fun a5 ⟨_, ⟨P, rfl, H⟩, J⟩ => V (jA rfl (kf l.has J aI aB)) (VE (ku l aO (fun O a4 l => ?_)))))
  obtain ⟨y, B, rfl⟩ := H.form
  let A := (C1 c.Op c.K c.ju.jw c.ju.Word y c.Kids.length B)
  refine VO (jR (.agg A.toArray) (A.toArray) l rfl rfl aB oc nb rfl (fun a2 l => ln ?_))
  replace l := l.drew
  have d := l.has.jy (Kb Sn)
  refine kI d kl (X 0 rfl d (jH D) (X 1 rfl d (jG tJ rfl) (X 2 rfl d (jG oM rfl) (XH 3 rfl d (fun _ m => jA rfl (jP m Mh rfl bM)) (X 4 rfl d (nX bW rfl) (X 5 rfl d (jG tJ rfl) (X 6 rfl d (jG tG rfl) (XH 7 rfl d (fun _ m => jA rfl (jP m Mh rfl bM)) (X 8 rfl d (nX bW rfl) (X 9 rfl d (kG rfl rfl rfl) (X 10 rfl d (JN (k := .i64) (a := (wi0 .i64 a0)) (b := 16) (v := (.int .i64 (wi0 .i64 (Int.tdiv (wi0 .i64 a0) 16)))) rfl rfl dc rfl) (X 11 rfl d (kG rfl rfl rfl) (X 12 rfl d (jG np rfl) (XH 13 rfl d (fun _ m => jA rfl (jP m Mh rfl dJ)) ?_))))))))))))))
  refine bS g fun Y K g => XE 14 rfl (Eg l call39 (N (.slice y c.Kids.length B) c.Kids _ _ (H.mono jF.mono l.jB) K) (fun a3 l => ?_))
  have d := l.has.jy (Kb Sn)
  refine ⟨d, (X 15 rfl d (kG rfl rfl rfl) (X 16 rfl d (kG rfl rfl rfl) (X 17 rfl d (mP rfl) (kT kr (kA (jI ?_))))))⟩
  replace l := l.jy (Db St)
  exact ⟨n, (wi0 .i64 (x + (wi0 .i64 ((wi0 .i64 (1 + (wi0 .i64 (Int.tdiv (wi0 .i64 a0) 16)))) + Y)))), _, ⟨rfl, L⟩, (l.jy St), rfl, G, (by rw [U]; exact g)⟩
 rintro E W ⟨x, z, ⟨n, L⟩, l, D, G, g⟩
 rw [aH] at g
 exact jI (sg (Wh D (Wa (lt (rQ g l)))))
theorem yo : ∀ (n : Nat) (a : Value) (c : List Formula) (r : Int) (w : World) (g : Sl jx 5 (hp w) a c) (_ : oA n c = some r),
  jV false pg0 39 [a] w (.int .i64 r)
 | 0 => by intros; rename_i h; simp only [oA] at h; cases h
 | n + 1 => FE (oA n) (yo n)
set_option maxHeartbeats 4000000 in
theorem vU (x : kD) (J N : Value) (r : Int) (w : World) (y : Sl jU 15 (hp w) J x.jJ) (G : Sl kH 8 (hp w) N x.jW) (hm : wg x = some r) :
  jV false pg0 38 [(.agg #[(.string x.Name), J, N])] w (.int .i64 r) := by
 refine cG 61 func38 rfl (fun d => sg ?_)
 obtain ⟨A1, c2, rfl⟩ := y.form
 obtain ⟨A3, c4, rfl⟩ := G.form
 let g6 := (C5 x.Name A1 x.jJ.length c2 A3 x.jW.length c4)
 refine VE (kd d rfl (fun W6 R d => Wa (lr (Wf xU (VB d Mh rfl rfl bM (V (nX bW rfl) (Wa (lS ?_))))))))
 refine Wf yR (VB d Mh rfl rfl jc (V (kU dP rfl y) (Wm (ln (kC (fun i E W => ∃ I b1, (E 14 = .int .i64 (i : Nat) ∧ E 13 = .int .i64 (x.jJ.length : Nat)) ∧ ST false kx w W (hp w) ((R, Ol g6 25) :: b1) ∧ E 1 = (.pointer (some ⟨R, 0, none⟩)) ∧ E 3 = (.int .i64 I) ∧ E 12 = (.slice A1 x.jJ.length c2) ∧ rB x (x.jJ.drop i) I = some r) x.jJ.length y.len ⟨(x.Name.size : Int), _, ⟨rfl, rfl⟩, (d.jy St), rfl, rfl, rfl, hm⟩ dc dc dc (fun _ _ _ h => by obtain ⟨_, _, L, _⟩ := h; exact L) ?_ ?_)))))
 ·rintro d5 E W e1 ⟨I, b1, ⟨v, O⟩, d, U, M, Y, H⟩
  obtain ⟨a, h9, e9, e8, f0⟩ := kp e1
  rw [e9] at H
  refine bg (VQ (lU (i := (d5 : Int)) (x0 := a) jU.out dP dD Y v y (aG _) e8) (fun j4 ⟨_, ⟨j8, j9, rfl, Q, T⟩, e2⟩ => V (jA rfl (kf d.has e2 fZ dD)) (VE (ku d eU (fun i0 f4 d => ?_)))))
  obtain ⟨t, u, rfl⟩ := Q.form
  let g5 : Value := (.slice t a.Signed.Tag.length u)
  let b8 := (O0 a.Signed.jv.Kind a.Signed.jv.Head.jw a.Signed.jv.Head.Word a.Signed.jv.kE a.Signed.jv.B.jw a.Signed.jv.B.Word a.Signed.jv.C.jw a.Signed.jv.C.Word a.Signed.jv.kL t a.Signed.Tag.length u)
  obtain ⟨g, j, rfl⟩ := T.form
  let d9 : Value := (.slice g a.jC.Kids.length j)
  let A := (C1 a.jC.Op a.jC.K a.jC.ju.jw a.jC.ju.Word g a.jC.Kids.length j)
  let a0 := (C3 a.Signed.jv.Kind a.Signed.jv.Head.jw a.Signed.jv.Head.Word a.Signed.jv.kE a.Signed.jv.B.jw a.Signed.jv.B.Word a.Signed.jv.C.jw a.Signed.jv.C.Word a.Signed.jv.kL t a.Signed.Tag.length u a.jC.Op a.jC.K a.jC.ju.jw a.jC.ju.Word g a.jC.Kids.length j)
  refine VO (jR (.agg a0.toArray) (a0.toArray) d rfl rfl dD oc nb rfl (fun i1 d => ln ?_))
  replace d := d.drew
  have m := d.has.jy (Kb Sn)
  refine kI m kl (X 0 rfl m (jH M) (X 1 rfl m (jG zj rfl) (XH 2 rfl m (fun _ p => jA rfl (jD p Mh b8 rfl isAgg55 iW)) (X 5 rfl m (jG KG rfl) (XH 6 rfl m (fun _ p => jA rfl (jD p Mh A rfl aI aB)) (PJ H (fun b4 E W => ∃ P b2 b9, ST false kx w W (hp w) ((f4, Ol a0 57) :: ((R, Ol g6 25) :: (b2 ++ b9))) ∧ E 1 = (.pointer (some ⟨R, 0, none⟩)) ∧ E 3 = (.int .i64 I) ∧ E 12 = (.slice A1 x.jJ.length c2) ∧ E 13 = (.int .i64 (x.jJ.length : Int)) ∧ E 14 = (.int .i64 (d5 : Int)) ∧ E 18 = (.int .i64 I) ∧ E 22 = (.int .i64 b4.1) ∧ E 25 = P ∧ kK 30 jx 5 (hp w) P b4.2 b2) (bm 13 255) 5 ?_ (fun b4 z Z => ?_)))))))
  ·rintro ⟨g7, g3⟩ E W ⟨P, b2, b9, d, f6, j3, f7, f8, f9, g0, g1, g2, e7⟩ a6
   refine bS a6 fun g4 e3 a6 => XE 8 rfl (Eg d call39 ((yo ki) P g3 _ _ (e7.sl jF d.jB (fun b o n => d.at_ (Mt (Mt (Ml n))))) e3) (fun i2 d => ?_) (ha := MO g2))
   have m := d.has.jy (Kb Sn)
   refine ⟨m, (X 9 rfl m (kG rfl rfl rfl) (X 10 rfl m (kG g1 rfl rfl) (X 11 rfl m (kG g0 rfl rfl) (X 12 rfl m (mP rfl) (kT kr (kA (jI ?_)))))))⟩
   replace d := d.jy (Db (Kb (Dr St)))
   exact ⟨f9, (wi0 .i64 (I + (wi0 .i64 (g7 + (wi0 .i64 (20 * g4)))))), _, ⟨rfl, f8⟩, (d.jy St), f6, rfl, f7, (by rw [f0]; exact a6)⟩
  refine HJ 3 7 rfl rfl kr (.inl rfl) (.inl rfl) rfl rfl dc dc ?_ ?_
  ·refine kq (cs := b8.toArray) d (lW rfl) (mr je iW jq) (fun i3 b3 d => ?_)
   let d8 : Value := (.slice (some ⟨b3, 0, none⟩) 1 1)
   have m := d.has.jy (Db (Kb Sn))
   refine ⟨m, (HJ 4 7 rfl rfl kr (.inl rfl) (.inl rfl) rfl rfl dc dc ?_ ?_)⟩
   ·refine bS z fun j5 e4 z => FQ (args := [(.slice none 0 0), d8]) d rfl call40 (by exact uI rfl rfl) (jV.lE (yg (.slice none 0 0) ([]) d8 ([a.Signed]) _ _ (Sl.nil _ _ _) ((kK.lit A8 (l := [a.Signed]) (.cons (ys := O0 a.Signed.jv.Kind a.Signed.jv.Head.jw a.Signed.jv.Head.Word a.Signed.jv.kE a.Signed.jv.B.jw a.Signed.jv.B.Word a.Signed.jv.C.jw a.Signed.jv.C.Word a.Signed.jv.kL t a.Signed.Tag.length u) (tj.mk ⟨g5, rfl, Q⟩) .nil) rfl nb rfl).sl A8 d.jB (fun b o n => (by rw [bP] at n; cases n; exact d.at_ Mh))) e4)) (fun i4 d => ?_)
    have m := d.has.jy (Db (Kb Sn))
    refine ⟨m, (XE 7 rfl (kq (cs := A.toArray) d (lW rfl) (mr aD aB aO) (fun i5 c0 d => ?_)))⟩
    have m := d.has.jy (Db (Db (Kb Sn)))
    refine ⟨m, ?_⟩
    obtain rfl := sj z
    replace d := d.Fk
    refine nu kr (Z _ _ ⟨(.slice (some ⟨c0, 0, none⟩) 1 1), [(c0, Ol A 30)], _, (d.jy (Sb (Pr (Pb Pz)) (Sb (Pr (Pb Pz)) (Kr (Db St))))), U, M, Y, O, v, rfl, rfl, rfl, (kK.lit jF (l := [a.jC]) (.cons (ys := C1 a.jC.Op a.jC.K a.jC.ju.jw a.jC.ju.Word g a.jC.Kids.length j) (jx.mk ⟨d9, rfl, T⟩) .nil) rfl nb rfl)⟩)
   ·refine kq (cs := A.toArray) d (lW rfl) (mr aD aB aO) (fun i6 c1 d => ?_)
    have m := d.has.jy (Db (Db (Kb Sn)))
    refine ⟨m, (bS z fun j6 e5 z => XE 4 rfl (Eg d call40 (jV.lE (yg (.slice none 0 0) ([]) d8 ([a.Signed]) _ _ (Sl.nil _ _ _) ((kK.lit A8 (l := [a.Signed]) (.cons (ys := O0 a.Signed.jv.Kind a.Signed.jv.Head.jw a.Signed.jv.Head.Word a.Signed.jv.kE a.Signed.jv.B.jw a.Signed.jv.B.Word a.Signed.jv.C.jw a.Signed.jv.C.Word a.Signed.jv.kL t a.Signed.Tag.length u) (tj.mk ⟨g5, rfl, Q⟩) .nil) rfl nb rfl).sl A8 d.jB (fun b o n => (by rw [bP] at n; cases n; exact d.at_ (Mt Mh)))) e5)) (fun i7 d => ?_)))⟩
    have m := d.has.jy (Db (Db (Kb Sn)))
    refine ⟨m, ?_⟩
    obtain rfl := sj z
    replace d := d.Fk
    refine nu kr (Z _ _ ⟨(.slice (some ⟨c1, 0, none⟩) 1 1), [(c1, Ol A 30)], _, (d.jy (Sb (Pr (Pb Pz)) (Sb (Pr (Pb Pz)) (Kr (Db St))))), U, M, Y, O, v, rfl, rfl, rfl, (kK.lit jF (l := [a.jC]) (.cons (ys := C1 a.jC.Op a.jC.K a.jC.ju.jw a.jC.ju.Word g a.jC.Kids.length j) (jx.mk ⟨d9, rfl, T⟩) .nil) rfl nb rfl)⟩)
  ·refine kq (cs := A.toArray) d (lW rfl) (mr aD aB aO) (fun i8 c3 d => ?_)
   have m := d.has.jy (Db (Kb Sn))
   refine ⟨m, (XE 3 rfl (kq (cs := b8.toArray) d (lW rfl) (mr je iW jq) (fun i9 f5 d => ?_)))⟩
   have m := d.has.jy (Db (Db (Kb Sn)))
   refine ⟨m, (bS z fun j7 e6 z => XE 4 rfl (Eg d call40 (jV.lE (yg (.slice none 0 0) ([]) (.slice (some ⟨f5, 0, none⟩) 1 1) ([a.Signed]) _ _ (Sl.nil _ _ _) ((kK.lit A8 (l := [a.Signed]) (.cons (ys := O0 a.Signed.jv.Kind a.Signed.jv.Head.jw a.Signed.jv.Head.Word a.Signed.jv.kE a.Signed.jv.B.jw a.Signed.jv.B.Word a.Signed.jv.C.jw a.Signed.jv.C.Word a.Signed.jv.kL t a.Signed.Tag.length u) (tj.mk ⟨g5, rfl, Q⟩) .nil) rfl nb rfl).sl A8 d.jB (fun b o n => (by rw [bP] at n; cases n; exact d.at_ Mh))) e6)) (fun j0 d => ?_)))⟩
   have m := d.has.jy (Db (Db (Kb Sn)))
   refine ⟨m, ?_⟩
   obtain rfl := sj z
   replace d := d.perm (Nb (Pb Pz) Nz)
   replace d := d.Fk
   refine nu kr (Z _ _ ⟨(.slice (some ⟨c3, 0, none⟩) 1 1), [(c3, Ol A 30)], _, (d.jy (Sb (Pr (Pb Pz)) (Sb (Pr (Pb Pz)) (Kr (Db St))))), U, M, Y, O, v, rfl, rfl, rfl, (kK.lit jF (l := [a.jC]) (.cons (ys := C1 a.jC.Op a.jC.K a.jC.ju.jw a.jC.ju.Word g a.jC.Kids.length j) (jx.mk ⟨d9, rfl, T⟩) .nil) rfl nb rfl)⟩)
 rintro E W ⟨I, b1, ⟨v, O⟩, d, U, M, Y, H⟩
 rw [aH] at H
 refine jI (jM (sg (V (jG E9 U) (VB d Mh rfl rfl isAgg23 (V (kU dr rfl G) (Wm (ln ?_)))))))
 replace d := d.jy (Db St)
 refine CJ H (fun a7 E W => ∃ b6, ST false kx w W (hp w) b6 ∧ E 3 = (.int .i64 a7)) (fun a7 c8 => ?_) ?_
 ·refine kC (fun i E W => ∃ K a2, (E 34 = .int .i64 (i : Nat) ∧ E 33 = .int .i64 (x.jW.length : Nat)) ∧ ST false kx w W (hp w) a2 ∧ E 3 = (.int .i64 K) ∧ E 32 = (.slice A3 x.jW.length c4) ∧ rH (x.jW.drop i) K = some a7) x.jW.length G.len ⟨I, _, ⟨rfl, rfl⟩, (d.jy St), M, rfl, c8⟩ dc dc dc (fun _ _ _ h => by obtain ⟨_, _, L, _⟩ := h; exact L) ?_ ?_
  ·rintro f1 E W c6 ⟨K, a2, ⟨v, O⟩, d, a4, a5, k⟩
   obtain ⟨c, g8, d3, d2, d4⟩ := kp c6
   rw [d3] at k
   refine bg (VQ (lU (i := (f1 : Int)) (x0 := c) kH.out dr dQ a5 v G (aG _) d2) (fun h5 ⟨_, ⟨h6, h7, rfl, a9, b0⟩, c9⟩ => V (jA rfl (kf d.has c9 iX dQ)) (VE (ku d gu (fun g9 h4 d => ?_)))))
   obtain ⟨B, D, rfl⟩ := a9.form
   let d6 := (C1 c.jC.Op c.jC.K c.jC.ju.jw c.jC.ju.Word B c.jC.Kids.length D)
   obtain ⟨a1, a3, rfl⟩ := b0.form
   let c5 := (C9 c.ju.jw c.ju.Word c.jC.Op c.jC.K c.jC.ju.jw c.jC.ju.Word B c.jC.Kids.length D a1 c.me.length a3)
   refine VO (jR (.agg c5.toArray) (c5.toArray) d rfl rfl dQ oc nb rfl (fun h0 d => ln ?_))
   replace d := d.drew
   have m := d.has.jy (Kb Sn)
   refine kI m kl (X 0 rfl m (jH a4) (X 1 rfl m (jG IC rfl) (X 2 rfl m (jG oM rfl) (XH 3 rfl m (fun _ p => jA rfl (jP p Mh rfl bM)) (X 4 rfl m (nX bW rfl) (X 5 rfl m (jG IC rfl) (X 6 rfl m (jG tG rfl) (XH 7 rfl m (fun _ p => jA rfl (jP p Mh rfl bM)) (X 8 rfl m (nX bW rfl) (X 9 rfl m (kG rfl rfl rfl) (X 10 rfl m (jG Ir rfl) (XH 11 rfl m (fun _ p => jA rfl (jD p Mh d6 rfl aI aB)) (X 16 rfl m (jG IJ rfl) (XH 17 rfl m (fun _ p => jA rfl (jP p Mh rfl isAgg45)) ?_))))))))))))))
   refine XE 12 rfl (kq (cs := d6.toArray) d (lW rfl) (mr aD aB aO) (fun h1 d7 d => ?_))
   have m := d.has.jy (Db (Kb Sn))
   refine ⟨m, (bS k fun f2 d0 k => XE 13 rfl (Eg d call39 ((yo ki) (.slice (some ⟨d7, 0, none⟩) 1 1) ([c.jC]) _ _ ((kK.lit jF (l := [c.jC]) (.cons (ys := C1 c.jC.Op c.jC.K c.jC.ju.jw c.jC.ju.Word B c.jC.Kids.length D) (jx.mk ⟨(.slice B c.jC.Kids.length D), rfl, a9⟩) .nil) rfl nb rfl).sl jF d.jB (fun b o n => (by rw [bP] at n; cases n; exact d.at_ Mh))) d0) (fun h2 d => ?_)))⟩
   have m := d.has.jy (Db (Kb Sn))
   refine ⟨m, (X 14 rfl m (kG rfl rfl rfl) (X 15 rfl m (kG rfl rfl rfl) (bS k fun f3 d1 k => XE 18 rfl (Eg d call108 (jV.lE (Ek (.slice a1 c.me.length a3) c.me _ _ (b0.mono (Pl.mono _) d.jB) d1)) (fun h3 d => ?_)))))⟩
   have m := d.has.jy (Db (Kb Sn))
   refine ⟨m, (X 19 rfl m (kG rfl rfl rfl) (X 20 rfl m (kG rfl rfl rfl) (X 21 rfl m (mP rfl) (kT kr (kA (jI ?_))))))⟩
   replace d := d.jy (Db (Db St))
   exact ⟨v, (wi0 .i64 (K + (wi0 .i64 ((wi0 .i64 ((wi0 .i64 ((c.ju.jw.size : Int) + (c.ju.Word.size : Int))) + (wi0 .i64 (20 * f2)))) + f3)))), _, ⟨rfl, O⟩, (d.jy St), rfl, a5, (by rw [d4]; exact k)⟩
  rintro E W ⟨K, a2, ⟨v, O⟩, d, a4, a5, k⟩
  rw [aH] at k
  refine jI ?_
  obtain rfl := sj k
  exact ⟨_, (d.jy St), a4⟩
 rintro h8 E W ⟨b6, d, e0⟩ c7
 exact sg (Wh e0 (Wa (lt (rQ c7 d))))
theorem Ep (a : mQ) (B D x z y J : Value) (r : Int) (w : World) (t : Sl jU 15 (hp w) B a.jw.jJ) (u : Sl kH 8 (hp w) D a.jw.jW) (c : Sl jU 15 (hp w) x a.Client.jJ) (i : Sl kH 8 (hp w) z a.Client.jW) (g : Sl jx 5 (hp w) y a.Formula.Kids) (I : Sl ol 2 (hp w) J a.Keys) (hm : wi a = some r) :
  jV false pg0 11 [(.agg #[(.string a.jw.Name), B, D, (.string a.Client.Name), x, z, (.int .i64 a.Formula.Op), (.int .i64 a.Formula.K), (.string a.Formula.ju.jw), (.string a.Formula.ju.Word), y, (.int .i64 a.rZ), (.int .i64 a.my.uy), (.int .i64 a.my.uF), (.int .i64 a.nB), (.int .i64 a.pG), (.int .i64 a.oh), J])] w (.int .i64 r) := by
 refine cG 20 func11 rfl (fun d => sg ?_)
 obtain ⟨A1, c2, rfl⟩ := t.form
 obtain ⟨A3, n, rfl⟩ := u.form
 let a3 := (C5 a.jw.Name A1 a.jw.jJ.length c2 A3 a.jw.jW.length n)
 obtain ⟨N, U, rfl⟩ := c.form
 let a5 : Value := (.slice N a.Client.jJ.length U)
 obtain ⟨Q, Y, rfl⟩ := i.form
 let b8 : Value := (.slice Q a.Client.jW.length Y)
 let a4 := (C5 a.Client.Name N a.Client.jJ.length U Q a.Client.jW.length Y)
 obtain ⟨G, k, rfl⟩ := g.form
 let v : Value := (.slice G a.Formula.Kids.length k)
 let a0 := (C1 a.Formula.Op a.Formula.K a.Formula.ju.jw a.Formula.ju.Word G a.Formula.Kids.length k)
 obtain ⟨p, a2, rfl⟩ := I.form
 refine VE (kd d rfl (fun e8 c7 d => Wa (ln (jM ?_))))
 replace d := d.drew
 have h := d.has.jy (Kb Sn)
 refine kI h kl (X 0 rfl h (jG ze rfl) (XH 1 rfl h (fun _ m => jA rfl (jD m Mh a3 rfl dt cL)) (X 3 rfl h (jG vO rfl) (XH 4 rfl h (fun _ m => jA rfl (jD m Mh a4 rfl dt cL)) (X 7 rfl h (jG Dm rfl) (XH 8 rfl h (fun _ m => jA rfl (jD m Mh a0 rfl aI aB)) (X 13 rfl h (jG KM rfl) (XH 14 rfl h (fun _ m => jA rfl (jP m Mh rfl isAgg32)) (PJ hm (fun Z E W => ∃ M T A, ST false kx w W (hp w) ((c7, Ol (C2 a.jw.Name A1 a.jw.jJ.length c2 A3 a.jw.jW.length n a.Client.Name N a.Client.jJ.length U Q a.Client.jW.length Y a.Formula.Op a.Formula.K a.Formula.ju.jw a.Formula.ju.Word G a.Formula.Kids.length k a.rZ a.my.uy a.my.uF a.nB a.pG a.oh p a.Keys.length a2) 34) :: (T ++ A)) ∧ E 2 = (.int .i64 0) ∧ E 9 = (.int .i64 Z.1) ∧ E 12 = M ∧ E 17 = (.slice p a.Keys.length a2) ∧ kK 30 jx 5 (hp w) M Z.2 T) (bm 18 25599) 6 ?_ (fun Z j K => ?_))))))))))
 ·rintro ⟨e7, c5⟩ E W ⟨M, T, A, d, d9, c0, c1, c3, b9⟩ H
  refine bS H fun e0 P H => XE 10 rfl (Eg d call39 ((yo ki) M c5 _ _ (b9.sl jF d.jB (fun b o hq => d.at_ (Mt (Ml hq)))) P) (fun c9 d => ?_) (ha := MO c1))
  have h := d.has.jy (Kb Sn)
  refine ⟨h, (X 11 rfl h (kG rfl rfl rfl) (X 12 rfl h (kG c0 rfl rfl) (bS H fun e1 R H => XE 15 rfl (Eg d call40 (jV.lE (yg (.slice p a.Keys.length a2) a.Keys (.slice none 0 0) ([]) _ _ (I.mono uN.mono d.jB) (Sl.nil _ _ _) R)) (fun d0 d => ?_) (ha := Ui c3 rfl)))))⟩
  have h := d.has.jy (Kb Sn)
  refine ⟨h, (X 16 rfl h (kG rfl rfl rfl) (X 17 rfl h (mP rfl) (kT kr (jI ?_))))⟩
  exact kh (rQ H d)
 refine HJ 2 9 rfl rfl kr (.inl rfl) (.inl rfl) rfl rfl dc dc ?_ ?_
 ·refine bS j fun e2 b3 j => FQ (args := [(.agg a3.toArray)]) d rfl call38 (by exact qW rfl) (vU a.jw (.slice A1 a.jw.jJ.length c2) (.slice A3 a.jw.jW.length n) _ _ (t.mono jX.mono d.jB) (u.mono lx.mono d.jB) b3) (fun d1 d => ?_)
  have h := d.has.jy (Kb Sn)
  refine ⟨h, (HJ 5 9 rfl rfl kr (.inl rfl) (.inl rfl) rfl rfl dc dc ?_ ?_)⟩
  ·refine bS j fun e3 b4 j => FQ (args := [(.agg a4.toArray)]) d rfl call38 (by exact qW rfl) (vU a.Client a5 b8 _ _ (c.mono jX.mono d.jB) (i.mono lx.mono d.jB) b4) (fun d2 d => ?_)
   have h := d.has.jy (Kb Sn)
   refine ⟨h, (X 6 rfl h (kG rfl rfl rfl) (XE 9 rfl (kq (cs := a0.toArray) d (lW rfl) (mr aD aB aO) (fun d3 L d => ?_))))⟩
   have h := d.has.jy (Db (Kb Sn))
   refine ⟨h, ?_⟩
   obtain rfl := sj j
   replace d := d.Fk
   refine nu kr (K _ _ ⟨(.slice (some ⟨L, 0, none⟩) 1 1), [(L, Ol a0 30)], _, (d.jy (Sb (Pr Pz) St)), rfl, rfl, rfl, rfl, (kK.lit jF (l := [a.Formula]) (.cons (ys := C1 a.Formula.Op a.Formula.K a.Formula.ju.jw a.Formula.ju.Word G a.Formula.Kids.length k) (jx.mk ⟨v, rfl, g⟩) .nil) rfl nb rfl)⟩)
  ·refine kq (cs := a0.toArray) d (lW rfl) (mr aD aB aO) (fun d4 a9 d => ?_)
   have h := d.has.jy (Db (Kb Sn))
   refine ⟨h, (bS j fun e4 b5 j => XE 5 rfl (Eg d call38 (vU a.Client a5 b8 _ _ (c.mono jX.mono d.jB) (i.mono lx.mono d.jB) b5) (fun d5 d => ?_)))⟩
   have h := d.has.jy (Db (Kb Sn))
   refine ⟨h, (X 6 rfl h (kG rfl rfl rfl) ?_)⟩
   obtain rfl := sj j
   replace d := d.Fk
   refine nu kr (K _ _ ⟨(.slice (some ⟨a9, 0, none⟩) 1 1), [(a9, Ol a0 30)], _, (d.jy (Sb (Pr Pz) St)), rfl, rfl, rfl, rfl, (kK.lit jF (l := [a.Formula]) (.cons (ys := C1 a.Formula.Op a.Formula.K a.Formula.ju.jw a.Formula.ju.Word G a.Formula.Kids.length k) (jx.mk ⟨v, rfl, g⟩) .nil) rfl nb rfl)⟩)
 ·refine kq (cs := a0.toArray) d (lW rfl) (mr aD aB aO) (fun d6 O d => ?_)
  have h := d.has.jy (Db (Kb Sn))
  refine ⟨h, (bS j fun e5 b6 j => XE 2 rfl (Eg d call38 (vU a.jw (.slice A1 a.jw.jJ.length c2) (.slice A3 a.jw.jW.length n) _ _ (t.mono jX.mono d.jB) (u.mono lx.mono d.jB) b6) (fun d7 d => ?_)))⟩
  have h := d.has.jy (Db (Kb Sn))
  refine ⟨h, (bS j fun e6 b7 j => XE 5 rfl (Eg d call38 (vU a.Client a5 b8 _ _ (c.mono jX.mono d.jB) (i.mono lx.mono d.jB) b7) (fun d8 d => ?_)))⟩
  have h := d.has.jy (Db (Kb Sn))
  refine ⟨h, (X 6 rfl h (kG rfl rfl rfl) ?_)⟩
  obtain rfl := sj j
  replace d := d.Fk
  refine nu kr (K _ _ ⟨(.slice (some ⟨O, 0, none⟩) 1 1), [(O, Ol a0 30)], _, (d.jy (Sb (Pr Pz) St)), rfl, rfl, rfl, rfl, (kK.lit jF (l := [a.Formula]) (.cons (ys := C1 a.Formula.Op a.Formula.K a.Formula.ju.jw a.Formula.ju.Word G a.Formula.Kids.length k) (jx.mk ⟨v, rfl, g⟩) .nil) rfl nb rfl)⟩)
theorem vV (M : ByteArray) (r : Bool) (w : World) (hm : rf M = some r) :
  jV true pg0 216 [(.string M)] w (.bool r) := by
 refine cG 49 func216 rfl (fun b => sg (Wa (lS (Wm (V (pM rfl rfl rfl) (Wm (LJ hm (fun c7 E W => ∃ L3, ST true kx w W (hp w) L3 ∧ E 0 = (.string M) ∧ E 11 = (.bool c7)) 4 ?_ (fun c7 K a5 => ?_))))))))
 ·rintro x2 E W ⟨L3, b, p, e6⟩ f7
  refine Wh e6 (LJ f7 (fun c6 E W => ∃ d3, ST true kx w W (hp w) d3 ∧ E 0 = (.string M) ∧ E 16 = (.bool c6)) 4 ?_ (fun c6 x a4 => ?_))
  ·rintro g4 E W ⟨d3, b, n, f4⟩ f0
   refine Wh f4 (LJ f0 (fun c5 E W => ∃ d4, ST true kx w W (hp w) d4 ∧ E 0 = (.string M) ∧ E 21 = (.bool c5)) 4 ?_ (fun c5 u a3 => ?_))
   ·rintro g7 E W ⟨d4, b, f5, f6⟩ Q
    refine ln (CI Q f6 (fun e9 Q => ?_) (fun e9 Q => ?_))
    ·refine sg (Wa (lt (kw ?_)))
     obtain rfl := sj Q
     exact rP b
    refine kS (Wa (ln (kZ (mG (fun m E W => ∃ y O, ST true kx w W (hp w) O ∧ E 0 = (.string M) ∧ E 3 = (.int .i64 y) ∧ qg M m y = some r) ki ⟨0, _, (b.jy St), f5, rfl, Q⟩ ?_))))
    rintro m E W ⟨y, O, b, T, U, c⟩
    cases m with
    | zero => rw [qg] at c; cases c
    | succ f1 =>
     refine jM (sg (Wh U (Wh T (V (nX bW rfl) (Wi rfl (ln (CI c rfl (fun c8 c => ?_) (fun c8 c => ?_))))))))
     ·refine kn (jM (bg (Wh T (Wh U (bS c fun d a9 c => V (A4 (i := y) bW rfl rfl (Ad a9) (DT a9)) (Wa (lr ?_)))))))
      refine Wm (Wi rfl (Wm (LJ c (fun c4 E W => ∃ P, ST true kx w W (hp w) P ∧ E 0 = (.string M) ∧ E 3 = (.int .i64 y) ∧ E 4 = (.int .u8 (d.toNat : Int)) ∧ E 36 = (.bool c4)) 3 ?_ (fun c4 J a2 => ?_))))
      ·rintro f2 E W ⟨P, b, h, l, N, d5⟩ d0
       refine Wh d5 (LJ d0 (fun c2 E W => ∃ R, ST true kx w W (hp w) R ∧ E 0 = (.string M) ∧ E 3 = (.int .i64 y) ∧ E 4 = (.int .u8 (d.toNat : Int)) ∧ E 44 = (.bool c2)) 7 ?_ (fun c2 H Z => ?_))
       ·rintro g1 E W ⟨R, b, b9, c0, d6, d7⟩ d1
        refine Wh d7 (LJ d1 (fun c1 E W => ∃ b5, ST true kx w W (hp w) b5 ∧ E 0 = (.string M) ∧ E 3 = (.int .i64 y) ∧ E 48 = (.bool c1)) 3 ?_ (fun c1 G Y => ?_))
        ·rintro g2 E W ⟨b5, b, d8, d9, e0⟩ D
         refine ln (CI D e0 (fun c9 D => ?_) (fun c9 D => ?_))
         ·refine sg (Wa (lt (mi (kw (kw (mi (kw ?_)))))))
          obtain rfl := sj D
          exact rP b
         exact kX (kA (jI (jL (Wh d9 (Wi rfl (Wa (ln ⟨f1, bG _, (wi0 .i64 (y + 1)), _, (b.jy St), d8, rfl, D⟩)))))))
        refine bC G (fun k G => ?_) (fun k G => ?_)
        ·refine ug k (jH d6) (ug k (kG rfl rfl rfl) (V (jS (cB k) rfl) ?_))
         obtain rfl := sj G
         exact Y _ _ ⟨_, (b.jy St), b9, c0, rfl⟩
        refine un k (un k (V (jT (cB k) rfl) ?_))
        obtain rfl := sj G
        exact Y _ _ ⟨_, (b.jy St), b9, c0, rfl⟩
       refine bC H (fun a H => ?_) (fun a H => ?_)
       ·refine ug a (jH N) (ug a (kG rfl rfl rfl) (ug a (jH rfl) (LJ H (fun c3 E W => ∃ b6, ST true kx w W (hp w) b6 ∧ E 0 = (.string M) ∧ E 3 = (.int .i64 y) ∧ E 4 = (.int .u8 (d.toNat : Int)) ∧ E 37 = (.bool f2) ∧ E 43 = (.bool c3)) 3 ?_ (fun c3 I v => ?_))))
        ·rintro g3 E W ⟨b6, b, e1, e2, e3, e4, e7⟩ d2
         refine V (jS (e4.trans (cB a)) e7) ?_
         obtain rfl := sj d2
         exact Z _ _ ⟨_, (b.jy St), e1, e2, e3, rfl⟩
        refine bC I (fun t I => ?_) (fun t I => ?_)
        ·refine un t (un t (ug a (jS (cB t) rfl) ?_))
         obtain rfl := sj I
         exact v _ _ ⟨_, (b.jy St), h, l, N, rfl, rfl⟩
        refine ug t (jH N) (ug t (kG rfl rfl rfl) (ug a (jT (cB t) rfl) ?_))
        obtain rfl := sj I
        exact v _ _ ⟨_, (b.jy St), h, l, N, rfl, rfl⟩
       refine un a (un a (un a (Vu rfl rfl (Vu rfl rfl (un a (V (jT (cB a) rfl) ?_))))))
       obtain rfl := sj H
       exact Z _ _ ⟨_, (b.jy St), h, l, N, rfl⟩
      refine bC J (fun j J => ?_) (fun j J => ?_)
      ·refine un j (un j (V (jS (cB j) rfl) ?_))
       obtain rfl := sj J
       exact a2 _ _ ⟨_, (b.jy St), T, U, rfl, rfl⟩
      refine ug j (jH rfl) (ug j (kG rfl rfl rfl) (V (jT (cB j) rfl) ?_))
      obtain rfl := sj J
      exact a2 _ _ ⟨_, (b.jy St), T, U, rfl, rfl⟩
     exact mF (ml (ml (oU (jI (sg (Wa (lt (rQ c b))))))))
   refine bC u (fun g u => ?_) (fun g u => ?_)
   ·refine un g (un g (un g (V (jS (cB g) rfl) ?_)))
    obtain rfl := sj u
    exact a3 _ _ ⟨_, (b.jy St), n, rfl⟩
   refine ug g (jH n) (bS u fun f8 A u => ug g (A4 (i := 0) bW rfl rfl (Ad A) (DT A)) (ug g (kG rfl rfl rfl) (V (jT (cB g) rfl) ?_)))
   obtain rfl := sj u
   exact a3 _ _ ⟨_, (b.jy St), n, rfl⟩
  refine bC x (fun B x => ?_) (fun B x => ?_)
  ·refine un B (un B (un B (V (jS (cB B) rfl) ?_)))
   obtain rfl := sj x
   exact a4 _ _ ⟨_, (b.jy St), p, rfl⟩
  refine ug B (jH p) (bS x fun f9 L x => ug B (A4 (i := 0) bW rfl rfl (Ad L) (DT L)) (ug B (kG rfl rfl rfl) (V (jT (cB B) rfl) ?_)))
  obtain rfl := sj x
  exact a4 _ _ ⟨_, (b.jy St), p, rfl⟩
 refine bC K (fun z K => ?_) (fun z K => ?_)
 ·refine un z (un z (un z (V (jS (cB z) rfl) ?_)))
  obtain rfl := sj K
  exact a5 _ _ ⟨_, (b.jy St), rfl, rfl⟩
 refine ug z (jH rfl) (ug z (nX bW rfl) (ug z (kG rfl rfl rfl) (V (jT (cB z) rfl) ?_)))
 obtain rfl := sj K
 exact a5 _ _ ⟨_, (b.jy St), rfl, rfl⟩
theorem yh (i : ju) (r : Bool) (w : World) (hm : sO i = some r) :
  jV true pg0 160 [(.agg (jE i).toArray)] w (.bool r) := by
 refine cG 11 func160 rfl (fun b => sg (VE (kd b rfl (fun H J b => Wa (lr (Wf oM (VB b Mh rfl rfl bM (bS hm fun K y hm => VE (Eg b call216 (vV i.jw _ _  y) (fun I b => Wm (LJ hm (fun k E W => ∃ j, ST true kx w W (hp w) j ∧ E 2 = (.bool false) ∧ E 10 = (.bool k)) 4 ?_ (fun k a g => ?_))))))))))))
 ·rintro G E W ⟨j, b, B, x⟩ t
  exact Wg x (lt (rQ t b))
 refine bC a (fun c a => ?_) (fun c a => ?_)
 ·refine ug c (jG tG rfl) (ug c (jA rfl (jP b.has Mh rfl bM)) (bS a fun D u a => pE c (Eg b call216 (vV i.Word _ _  u) (fun z b => V (jS (cB c) rfl) ?_))))
  obtain rfl := sj a
  exact g _ _ ⟨_, (b.jy (Db St)), rfl, rfl⟩
 refine un c (un c (un c (V (jT (cB c) rfl) ?_)))
 obtain rfl := sj a
 exact g _ _ ⟨_, (b.jy (Db St)), rfl, rfl⟩
theorem Fb (t u : ju) (r : Bool) (w : World) (hm : wR t u = some r) :
  jV true pg0 161 [(.agg (jE t).toArray), (.agg (jE u).toArray)] w (.bool r) := by
 refine cG 24 func161 rfl (fun b => sg (VE (kd b rfl (fun T Y b => VE (kd b rfl (fun U Z b => Wa (lr (Wf oM (VB b (Mt Mh) rfl rfl bM (Wf oM (VB b Mh rfl rfl bM (V (pM rfl rfl rfl) ?_))))))))))))
 refine Wm (LJ hm (fun z E W => ∃ x, ST true kx w W (hp w) x ∧ E 4 = (.bool false) ∧ E 23 = (.bool z)) 13 ?_ (fun z g j => ?_))
 ·rintro N E W ⟨x, b, M, H⟩ D
  exact Wg H (lt (rQ D b))
 refine bC g (fun a g => ?_) (fun a g => ?_)
 ·refine un a (un a (un a (un a (un a (un a (Vu rfl rfl (Vu rfl rfl (Vu rfl rfl (Vu rfl rfl (Vu rfl rfl (un a (V (jS (cB a) rfl) ?_))))))))))))
  obtain rfl := sj g
  exact j _ _ ⟨_, (b.jy (Db (Db St))), rfl, rfl⟩
 refine ug a (jG oM rfl) (ug a (jA rfl (jP b.has (Mt Mh) rfl bM)) (ug a (jG oM rfl) (ug a (jA rfl (jP b.has Mh rfl bM)) (ug a (pM rfl rfl rfl) (ug a (jH rfl) (LJ g (fun B E W => ∃ y, ST true kx w W (hp w) y ∧ E 4 = (.bool false) ∧ E 10 = (.bool (pY t.jw u.jw)) ∧ E 22 = (.bool B)) 6 ?_ (fun B i k => ?_)))))))
 ·rintro Q E W ⟨y, b, I, J, K⟩ G
  refine V (jT (J.trans (cB a)) K) ?_
  obtain rfl := sj G
  exact j _ _ ⟨_, (b.jy St), I, rfl⟩
 refine bC i (fun c i => ?_) (fun c i => ?_)
 ·refine ug c (jG tG rfl) (ug c (jA rfl (jP b.has (Mt Mh) rfl bM)) (ug c (jG tG rfl) (ug c (jA rfl (jP b.has Mh rfl bM)) (ug c (pM rfl rfl rfl) (ug a (jS (cB c) rfl) ?_)))))
  obtain rfl := sj i
  exact k _ _ ⟨_, (b.jy (Db (Db St))), rfl, rfl, rfl⟩
 refine un c (un c (un c (un c (un c (ug a (jT (cB c) rfl) ?_)))))
 obtain rfl := sj i
 exact k _ _ ⟨_, (b.jy (Db (Db St))), rfl, rfl, rfl⟩
theorem Eo (g : jv) (r : Bool) (w : World) (hm : vZ g = some r) :
  jV true pg0 157 [(.agg (jz g).toArray)] w (.bool r) := by
 refine cG 93 func157 rfl (fun b => sg (VE (kd b rfl (fun W2 M b => Wa (lr (VE (ku b ee (fun W4 h b => lS ?_))))))))
 refine Wf qp (VA b (Mt Mh) (jE g.Head) bn aN (bS hm fun r5 h4 hm => VE (Eg b call160 (yh g.Head _ _  h4) (fun W7 b => V (mT rfl) (ln (CI hm rfl (fun h2 hm => ?_) (fun h2 hm => ?_)))))))
 ·refine sg (Wa (ln ?_))
  replace b := b.jy (Db (Db St))
  refine kh (kw ?_)
  obtain rfl := sj hm
  exact rP b
 refine kS (Wf pR (VB b (Mt Mh) rfl rfl bY (Wi rfl (ln (CI hm rfl (fun h3 hm => ?_) (fun h3 hm => ?_))))))
 ·refine sg (Wf vT (VB b (Mt Mh) rfl rfl bM (bS hm fun i6 f7 hm => VE (Eg b call216 (vV g.kE _ _  f7) (fun i3 b => Wm (LJ hm (fun e1 E W => ∃ c8, ST true kx w W (hp w) ((h, Ol (jE K0) 27) :: ((M, Ol (jz g) 52) :: c8)) ∧ E 1 = (.pointer (some ⟨M, 0, none⟩)) ∧ E 2 = (.bool false) ∧ E 3 = (.pointer (some ⟨h, 0, none⟩)) ∧ E 19 = (.bool e1)) 5 ?_ (fun e1 T p => ?_)))))))
  ·rintro i8 E W ⟨c8, b, l, d6, f9, g0⟩ f0
   refine Wh g0 (LJ f0 (fun e0 E W => ∃ c9, ST true kx w W (hp w) ((M, Ol (jz g) 52) :: c9) ∧ E 1 = (.pointer (some ⟨M, 0, none⟩)) ∧ E 2 = (.bool false) ∧ E 25 = (.bool e0)) 5 ?_ (fun e0 Q a5 => ?_))
   ·rintro i9 E W ⟨c9, b, g1, d7, g2⟩ f1
    refine Wh g2 (LJ f1 (fun d9 E W => ∃ d0, ST true kx w W (hp w) d0 ∧ E 2 = (.bool false) ∧ E 30 = (.bool d9)) 4 ?_ (fun d9 N a4 => ?_))
    ·rintro j0 E W ⟨d0, b, i5, g3⟩ f2
     refine Wg g3 (lt (kw ?_))
     obtain rfl := sj f2
     exact rP b
    refine bC N (fun x N => ?_) (fun x N => ?_)
    ·refine ug x (jG uD g1) (ug x (jA rfl (jP b.has Mh rfl bM)) (ug x (pM rfl rfl rfl) (V (jS (cB x) rfl) ?_)))
     obtain rfl := sj N
     exact a4 _ _ ⟨_, (b.jy (Db St)), d7, rfl⟩
    refine un x (un x (un x (V (jT (cB x) rfl) ?_)))
    obtain rfl := sj N
    exact a4 _ _ ⟨_, (b.jy (Db St)), d7, rfl⟩
   refine bC Q (fun k Q => ?_) (fun k Q => ?_)
   ·refine ug k (jG rV l) (ug k (jA rfl (jD b.has (Mt Mh) (jE g.C) rfl bn aN)) (ug k (jA f9 (jD b.has Mh (jE K0) rfl bn aN)) (ug k (uY rfl rfl (nf dV) (rb (pz _ g.C K0))) (V (jS (cB k) rfl) ?_))))
    obtain rfl := sj Q
    exact a5 _ _ ⟨_, (b.jy (Db St)), l, d6, rfl⟩
   refine un k (un k (un k (un k (V (jT (cB k) rfl) ?_))))
   obtain rfl := sj Q
   exact a5 _ _ ⟨_, (b.jy (Db St)), l, d6, rfl⟩
  refine bC T (fun j T => ?_) (fun j T => ?_)
  ·refine ug j (jG nD rfl) (ug j (jA rfl (jD b.has (Mt Mh) (jE g.B) rfl bn aN)) (ug j (jA rfl (jD b.has Mh (jE K0) rfl bn aN)) (ug j (uY rfl rfl (nf dV) (rb (pz _ g.B K0))) (V (jS (cB j) rfl) ?_))))
   obtain rfl := sj T
   exact p _ _ ⟨_, (b.jy St), rfl, rfl, rfl, rfl⟩
  refine un j (un j (un j (un j (V (jT (cB j) rfl) ?_))))
  obtain rfl := sj T
  exact p _ _ ⟨_, (b.jy St), rfl, rfl, rfl, rfl⟩
 let a0 := ((jz g).toArray : Array Value)
 let d : Value := (.pointer (some ⟨M, 0, none⟩))
 refine kS (Wf vT (VB b (Mt Mh) rfl rfl bM (V (pM rfl rfl rfl) (Wm (LJ hm (fun c1 E W => ∃ d1, ST true kx w W (hp w) ((h, Ol (jE K0) 27) :: ((M, Obj.cells a0 52 (0, 0)) :: d1)) ∧ E 1 = d ∧ E 3 = (.pointer (some ⟨h, 0, none⟩)) ∧ E 39 = (.bool c1)) 5 ?_ (fun c1 I a3 => ?_))))))
 ·rintro j3 E W ⟨d1, b, u, d8, g4⟩ i
  refine ln (CI i g4 (fun e7 i => ?_) (fun e7 i => ?_))
  ·refine sg (Wa (ln ?_))
   replace b := b.jy (Db (Db St))
   refine kh (kw ?_)
   obtain rfl := sj i
   exact rP b
  refine kS (V (jG pR u) (VB b (Mt Mh) rfl rfl bY (Wi rfl (ln (CI i rfl (fun e8 i => ?_) (fun e8 i => ?_))))))
  ·refine sg (V (jG rV u) (VA b (Mt Mh) (jE g.C) bn aN (V (jA d8 (jD b.has Mh (jE K0) rfl bn aN)) (V (uY rfl rfl (nf dV) (rb (pz _ g.C K0))) (Wm (LJ i (fun e2 E W => ∃ d2, ST true kx w W (hp w) d2 ∧ E 51 = (.bool e2)) 4 ?_ (fun e2 U v => ?_)))))))
   ·rintro j4 E W ⟨d2, b, g7⟩ f3
    refine Wg g7 (lt (kw ?_))
    obtain rfl := sj f3
    exact rP b
   refine bC U (fun y U => ?_) (fun y U => ?_)
   ·refine ug y (jG uD u) (ug y (jA rfl (jP b.has (Mt Mh) rfl bM)) (ug y (pM rfl rfl rfl) (V (jS (cB y) rfl) ?_)))
    obtain rfl := sj U
    exact v _ _ ⟨_, (b.jy (Db (Db St))), rfl⟩
   refine un y (un y (un y (V (jT (cB y) rfl) ?_)))
   obtain rfl := sj U
   exact v _ _ ⟨_, (b.jy (Db (Db St))), rfl⟩
  refine kS (V (jG pR u) (VB b (Mt Mh) rfl rfl bY (Wi rfl (ln (CI i rfl (fun e9 i => ?_) (fun e9 i => ?_))))))
  ·refine sg (V (jG rV u) (VA b (Mt Mh) (jE g.C) bn aN (V (jA d8 (jD b.has Mh (jE K0) rfl bn aN)) (V (uY rfl rfl (nf dV) (rb (pz _ g.C K0))) (Wm (LJ i (fun e4 E W => ∃ d3, ST true kx w W (hp w) ((M, Obj.cells a0 52 (0, 0)) :: d3) ∧ E 1 = d ∧ E 67 = (.bool e4)) 8 ?_ (fun e4 Y a9 => ?_)))))))
   ·rintro j5 E W ⟨d3, b, g8, g9⟩ f4
    refine Wh g9 (LJ f4 (fun e3 E W => ∃ d4, ST true kx w W (hp w) d4 ∧ E 72 = (.bool e3)) 4 ?_ (fun e3 J A => ?_))
    ·rintro j6 E W ⟨d4, b, h0⟩ f5
     refine Wg h0 (lt (kw ?_))
     obtain rfl := sj f5
     exact rP b
    refine bC J (fun z J => ?_) (fun z J => ?_)
    ·refine ug z (jG uD g8) (ug z (jA rfl (jP b.has Mh rfl bM)) (bS J fun i7 f8 J => pE z (Eg b call216 (vV g.kL _ _  f8) (fun i4 b => V (jS (cB z) rfl) ?_))))
     obtain rfl := sj J
     exact A _ _ ⟨_, (b.jy (Db St)), rfl⟩
    refine un z (un z (un z (V (jT (cB z) rfl) ?_)))
    obtain rfl := sj J
    exact A _ _ ⟨_, (b.jy (Db St)), rfl⟩
   refine bC Y (fun a Y => ?_) (fun a Y => ?_)
   ·refine ug a (jG nD u) (ug a (jG oM rfl) (ug a (jA rfl (jP b.has (Mt Mh) rfl bM)) (ug a (jG qp u) (ug a (jG oM rfl) (ug a (jA rfl (jP b.has (Mt Mh) rfl bM)) (ug a (pM rfl rfl rfl) (V (jS (cB a) rfl) ?_)))))))
    obtain rfl := sj Y
    exact a9 _ _ ⟨_, (b.jy (Db St)), u, rfl⟩
   refine un a (un a (un a (un a (un a (un a (un a (V (jT (cB a) rfl) ?_)))))))
   obtain rfl := sj Y
   exact a9 _ _ ⟨_, (b.jy (Db St)), u, rfl⟩
  refine kn ?_
  replace b := b.jy (Db St)
  refine sg (V (jG pR u) (VB b Mh rfl rfl bY (Wi rfl (Wm (LJ i (fun c0 E W => ∃ d5, ST true kx w W (hp w) ((M, Obj.cells a0 52 (0, 0)) :: d5) ∧ E 1 = d ∧ E 80 = (.bool c0)) 4 ?_ (fun c0 K a2 => ?_))))))
  ·rintro j7 E W ⟨d5, b, m, h1⟩ f6
   refine Wh h1 (LJ f6 (fun b9 E W => ∃ L, ST true kx w W (hp w) ((M, Obj.cells a0 52 (0, 0)) :: L) ∧ E 1 = d ∧ E 85 = (.bool b9)) 4 ?_ (fun b9 H n => ?_))
   ·rintro i1 E W ⟨L, b, P, e5⟩ c3
    refine Wh e5 (LJ c3 (fun R E W => ∃ O, ST true kx w W (hp w) O ∧ E 92 = (.bool R)) 6 ?_ (fun R G Z => ?_))
    ·rintro i2 E W ⟨O, b, e6⟩ c4
     exact Wg e6 (lt (rQ c4 b))
    refine bC G (fun c G => ?_) (fun c G => ?_)
    ·refine ug c (jG nD P) (ug c (jA rfl (jD b.has Mh (jE g.B) rfl bn aN)) (ug c (jG rV P) (ug c (jA rfl (jD b.has Mh (jE g.C) rfl bn aN)) (bS G fun h8 c5 G => pE c (Eg b call161 (Fb g.B g.C _ _  c5) (fun h5 b => V (jS (cB c) rfl) ?_))))))
     obtain rfl := sj G
     exact Z _ _ ⟨_, (b.jy (Db St)), rfl⟩
    refine un c (un c (un c (un c (un c (V (jT (cB c) rfl) ?_)))))
    obtain rfl := sj G
    exact Z _ _ ⟨_, (b.jy (Db St)), rfl⟩
   refine bC H (fun D H => ?_) (fun D H => ?_)
   ·refine ug D (jG rV m) (ug D (jA rfl (jD b.has Mh (jE g.C) rfl bn aN)) (bS H fun h9 c6 H => pE D (Eg b call160 (yh g.C _ _  c6) (fun h6 b => V (jS (cB D) rfl) ?_))))
    obtain rfl := sj H
    exact n _ _ ⟨_, (b.jy St), m, rfl⟩
   refine un D (un D (un D (V (jT (cB D) rfl) ?_)))
   obtain rfl := sj H
   exact n _ _ ⟨_, (b.jy St), m, rfl⟩
  refine bC K (fun B K => ?_) (fun B K => ?_)
  ·refine ug B (jG uD u) (ug B (jA rfl (jP b.has Mh rfl bM)) (ug B (pM rfl rfl rfl) (V (jS (cB B) rfl) ?_)))
   obtain rfl := sj K
   exact a2 _ _ ⟨_, (b.jy St), u, rfl⟩
  refine un B (un B (un B (V (jT (cB B) rfl) ?_)))
  obtain rfl := sj K
  exact a2 _ _ ⟨_, (b.jy St), u, rfl⟩
 refine bC I (fun t I => ?_) (fun t I => ?_)
 ·refine un t (un t (un t (un t (V (jS (cB t) rfl) ?_))))
  obtain rfl := sj I
  exact a3 _ _ ⟨_, (b.jy St), rfl, rfl, rfl⟩
 refine ug t (jG nD rfl) (ug t (jA rfl (jD b.has (Mt Mh) (jE g.B) rfl bn aN)) (bS I fun i0 c7 I => pE t (Eg b call160 (yh g.B _ _  c7) (fun h7 b => ug t (mT rfl) (V (jT (cB t) rfl) ?_)))))
 obtain rfl := sj I
 exact a3 _ _ ⟨_, (b.jy St), rfl, rfl, rfl⟩
theorem vj (x : Int) (r : ByteArray) (w : World) (hm : qw x = some r) :
  jV true pg0 328 [(.int .i64 x)] w (.string r) := by
 refine cG 22 func328 rfl (fun d => sg (Wa (lr (Wa (ln (jM (kZ (mG (fun m E W => ∃ c j t, ST true kx w W (hp w) t ∧ E 0 = (.int .i64 c) ∧ E 3 = (.string j) ∧ sY m c j = some r) ki ⟨x, zS, _, (d.jy St), rfl, rfl, hm⟩ ?_))))))))
 rintro m E W ⟨c, j, t, d, i, u, g⟩
 let N := (Int.tmod c 128)
 cases m with
 | zero => rw [sY] at g; cases g
 | succ D =>
  refine jM (sg (Wh i (Wi rfl (ln (CI g rfl (fun y g => ?_) (fun y g => ?_))))))
  ·refine kn (bg (Wh u (Wh i (V (JN (k := .i64) (a := c) (b := 128) (v := (.int .i64 N)) rfl rfl dc rfl) (Wi rfl (V (ri (k' := .i64) (a := (wi0 .i64 (128 + N))) er fF rfl) (VE (kq (cs := [(.int .u8 (IntKind.u8.wrap (wi0 .i64 (128 + N))))].toArray) d (lW rfl) (mr cQ sizeOf5 jb) (fun H J d => V (Mm cQ fF bW rfl (Sl.lit (enc := (kN .u8)) (l := [(IntKind.u8.wrap (wi0 .i64 (128 + N)))]) (fun _ => rfl) rfl nb rfl (d.at_ Mh))) (bS g fun G z g => V (oR rfl rfl z) (Wa ?_)))))))))))
   refine ln ?_
   replace d := d.jy (Db St)
   exact jL (Wh i (V (JN (k := .i64) (a := c) (b := 128) (v := (.int .i64 (wi0 .i64 (Int.tdiv c 128)))) rfl rfl dc rfl) (Wa (kk (kA (jI ⟨D, bG _, (wi0 .i64 (Int.tdiv c 128)), G, _, (d.jy St), rfl, rfl, g⟩))))))
  refine mF (ml (ml (oU (jI (sg (Wh u (Wh i (V (ri (k' := .i64) (a := c) er fF rfl) (VE (kq (cs := [(.int .u8 (IntKind.u8.wrap c))].toArray) d (lW rfl) (mr cQ sizeOf5 jb) (fun I K d => V (Mm cQ fF bW rfl (Sl.lit (enc := (kN .u8)) (l := [(IntKind.u8.wrap c)]) (fun _ => rfl) rfl nb rfl (d.at_ Mh))) (bS g fun M B g => V (oR rfl rfl B) (Wa (ln ?_))))))))))))))
  exact kh (rQ g d)
theorem zn (a r : ByteArray) (w : World) (hm : tT a = some r) :
  jV true pg0 330 [(.string a)] w (.string r) := by
 refine cG 8 func330 rfl (fun b => sg (Wa (lr (Wm (V (nX bW rfl) (bS hm fun j c hm => VE (Eg b call328 (vj (a.size : Int) _ _  c) (fun i b => Wm (bS hm fun k g hm => V (oR rfl rfl g) ?_)))))))))
 exact Wa (lt (rQ hm b))
theorem yf (a : ju) (r : ByteArray) (w : World) (hm : sQ a = some r) :
  jV true pg0 329 [(.agg (jE a).toArray)] w (.string r) := by
 refine cG 10 func329 rfl (fun b => sg (VE (kd b rfl (fun y z b => Wa (ln (jM ?_))))))
 replace b := b.drew
 have d := b.has.jy (Kb Sn)
 refine kI d kl (X 0 rfl d (jG oM rfl) (XH 1 rfl d (fun _ h => jA rfl (jP h Mh rfl bM)) (X 3 rfl d (jG tG rfl) (XH 4 rfl d (fun _ h => jA rfl (jP h Mh rfl bM)) (bS hm fun t c hm => XE 2 rfl (Eg b call330 (zn a.jw _ _  c) (fun j b => ?_)))))))
 have d := b.has.jy (Kb Sn)
 refine ⟨d, (bS hm fun u g hm => XE 5 rfl (Eg b call330 (zn a.Word _ _  g) (fun k b => ?_)))⟩
 have d := b.has.jy (Kb Sn)
 refine ⟨d, (bS hm fun x i hm => X 6 rfl d (oR rfl rfl i) (X 7 rfl d (mP rfl) (kT kr (jI ?_))))⟩
 exact kh (rQ hm b)
theorem Jy (g : jv) (r : ByteArray) (w : World) (hm : AD g = some r) :
  jV true pg0 274 [(.agg (jz g).toArray)] w (.string r) := by
 refine cG 41 func274 rfl (fun b => sg (VE (kd b rfl (fun W2 l b => Wa (ln (jM ?_))))))
 replace b := b.drew
 have d := b.has.jy (Kb Sn)
 refine kI d kl (X 0 rfl d (jG pR rfl) (XH 1 rfl d (fun _ h => jA rfl (jP h Mh rfl bY)) (X 3 rfl d (jG qp rfl) (XH 4 rfl d (fun _ h => jA rfl (jD h Mh (jE g.Head) rfl bn aN)) (bS hm fun a9 H hm => XE 2 rfl (Eg b call328 (vj g.Kind _ _  H) (fun a3 b => ?_)))))))
 have d := b.has.jy (Kb Sn)
 refine ⟨d, (bS hm fun v I hm => XE 5 rfl (Eg b call329 (yf g.Head _ _  I) (fun a4 b => ?_)))⟩
 have d := b.has.jy (Kb Sn)
 refine ⟨d, (bS hm fun R Q hm => X 6 rfl d (oR rfl rfl Q) (X 7 rfl d (mP rfl) (kT kr (jI (jM (sg (Wf pR (VB b Mh rfl rfl bY (Wi rfl (ln (CI hm rfl (fun y hm => ?_) (fun y hm => ?_))))))))))))⟩
 ·refine sg (Wm (Wf vT (VB b Mh rfl rfl bM (bS hm fun A J hm => VE (Eg b call330 (zn g.kE _ _  J) (fun a5 b => bS hm fun b7 T hm => V (oR rfl rfl T) (Wa (ln ?_))))))))
  replace b := b.jy (Db St)
  refine kh (kw ?_)
  obtain rfl := sj hm
  exact rP b
 refine kg (Wm (Wf nD (VA b Mh (jE g.B) bn aN (bS hm fun L K hm => VE (Eg b call329 (yf g.B _ _  K) (fun m b => bS hm fun b9 U hm => V (oR rfl rfl U) (Wa (ln (jM ?_)))))))))
 refine CJ hm (fun x E W => ∃ i, ST true kx w W (hp w) ((l, Ol (jz g) 52) :: i) ∧ E 1 = (.pointer (some ⟨l, 0, none⟩)) ∧ E 3 = (.string x)) (fun x c => ?_) ?_
 ·refine sg (Wf pR (VB b Mh rfl rfl bY (Wi rfl (ln (CI c rfl (fun B c => ?_) (fun B c => ?_))))))
  ·refine jL (Wm (Wf uD (VB b Mh rfl rfl bM (bS c fun P N c => VE (Eg b call330 (zn g.kL _ _  N) (fun p b => bS c fun c1 Z c => V (oR rfl rfl Z) (Wa (ln ?_))))))))
   obtain rfl := sj c
   exact ⟨_, (b.jy St), rfl, rfl⟩
  refine kn ?_
  obtain rfl := sj c
  exact ⟨_, (b.jy St), rfl, rfl⟩
 rintro c2 E W ⟨i, b, k, t⟩ D
 refine jM (CJ D (fun u E W => ∃ j, ST true kx w W (hp w) j ∧ E 3 = (.string u)) (fun u a => ?_) ?_)
 ·refine sg (V (jG pR k) (VB b Mh rfl rfl bY (Wi rfl (ln (CI a rfl (fun z a => ?_) (fun z a => ?_))))))
  ·refine jL (Wh t (V (jG rV k) (VA b Mh (jE g.C) bn aN (bS a fun O M a => VE (Eg b call329 (yf g.C _ _  M) (fun n b => bS a fun c0 Y a => V (oR rfl rfl Y) (Wa (ln ?_))))))))
   obtain rfl := sj a
   exact ⟨_, (b.jy (Db St)), rfl⟩
  refine kn ?_
  obtain rfl := sj a
  exact ⟨_, (b.jy (Db St)), t⟩
 rintro c3 E W ⟨j, b, a2⟩ G
 exact sg (Wh a2 (Wa (lt (rQ G b))))
theorem Eh (a : jv) (r : ByteArray) (w : World) (hm : vQ a = some r) :
  jV true pg0 217 [(.agg (jz a).toArray)] w (.string r) := by
 refine cG 8 func217 rfl (fun b => sg (VE (kd b rfl (fun j u b => Wa (lS (VA b Mh (jz a) bR aJ (bS hm fun x g hm => VE (Eg b call157 (Eo a _ _  g) (fun k b => V (mT rfl) (kk ?_))))))))))
 refine jI (CI hm rfl (fun c hm => ?_) (fun c hm => ?_))
 ·refine sg (Wa (ln ?_))
  replace b := b.jy (Db St)
  refine kh (kw ?_)
  obtain rfl := sj hm
  exact rP b
 refine kg (VA b Mh (jz a) bR aJ (bS hm fun y i hm => VE (Eg b call274 (Jy a _ _  i) (fun t b => Wa (ln ?_)))))
 exact kh (rQ hm b)
theorem B5 (a c : jv) (r : Int) (w : World) (hm : sI a c = some r) :
  jV true pg0 158 [(.agg (jz a).toArray), (.agg (jz c).toArray)] w (.int .i64 r) := by
 refine cG 17 func158 rfl (fun b => sg (VE (kd b rfl (fun u z b => VE (kd b rfl (fun x B b => Wa (lr (VA b (Mt Mh) (jz a) bR aJ (bS hm fun D j hm => VE (Eg b call217 (Eh a _ _  j) (fun y b => Wa (kk ?_))))))))))))
 refine jI ?_
 replace b := b.jy (Kb (Db St))
 refine sg (VA b Mh (jz c) bR aJ (bS hm fun G k hm => VE (Eg b call217 (Eh c _ _  k) (fun t b => Wa (ln ?_)))))
 replace b := b.jy (Db St)
 refine jM (sg (Wm (Wm (V (pM rfl rfl rfl) (ln (CI hm rfl (fun g hm => ?_) (fun g hm => ?_)))))))
 ·refine sg (Wa (lt (kw ?_)))
  obtain rfl := sj hm
  exact rP b
 refine kS (Wm (Wm (V (pM rfl rfl rfl) (ln (CI hm rfl (fun i hm => ?_) (fun i hm => ?_))))))
 ·refine sg (Wa (lt (kw ?_)))
  obtain rfl := sj hm
  exact rP b
 exact kg (Wa (lt (rQ hm b)))
theorem Gk (D : Value) (a0 r : List jv) (w : World) (e3 : Sl (Pl jz) 9 (hp w) D a0) (hm : yc a0 = some r) :
  lV true pg0 84 [D] w 52 jz 9 r := by
 refine vi 51 func84 rfl (fun d => sg (Wa (lr (Wa (ln (pk (kZ (mG (fun m E W => ∃ x a3 u c5, ST true kx w W (hp w) (u ++ c5) ∧ E 0 = D ∧ E 3 = x ∧ jZ 52 jz 9 x a3 u ∧ tz a0 m a3 = some r) ki ⟨(.slice none 0 0), ([]), [], _, (d.jy St), rfl, rfl, (jZ.nil _ _ _), hm⟩ ?_))))))))
 rintro m E W ⟨x, a3, u, c5, d, d1, g2, J, a5⟩
 cases m with
 | zero => rw [tz] at a5; cases a5
 | succ j5 =>
  refine bg (VE (ku d cO (fun k0 t d => lr (Wa (lS (Wh d1 ?_))))))
  let b8 : Value := (.pointer (some ⟨t, 0, none⟩))
  refine V (kU aP rfl e3) (Wm (ln (CJ a5 (fun a9 E W => ∃ c6, ST true kx w W (hp w) ((t, Ol (jz a9.2) 52) :: (u ++ c6)) ∧ E 0 = D ∧ E 3 = x ∧ E 4 = b8 ∧ E 5 = (.bool a9.1)) (fun a9 e9 => ?_) ?_)))
  ·refine kC (fun i E W => ∃ G y b1, (E 10 = .int .i64 (i : Nat) ∧ E 9 = .int .i64 (a0.length : Nat)) ∧ ST true kx w W (hp w) ((t, Ol (jz y) 52) :: (u ++ b1)) ∧ E 0 = D ∧ E 3 = x ∧ E 4 = b8 ∧ E 5 = (.bool G) ∧ E 8 = D ∧ rD a3 (a0.drop i) G y = some a9) a0.length e3.len ⟨false, SF, _, ⟨rfl, rfl⟩, (d.jy St), d1, g2, rfl, rfl, rfl, e9⟩ dc dc dc (fun _ _ _ h => by obtain ⟨_, _, _, aa, _⟩ := h; exact aa) ?_ ?_
   ·rintro a2 E W e8 ⟨G, y, b1, ⟨L, eN⟩, d, U, M, Y, Z, A, z⟩
    let g5 := ((jz y).toArray : Array Value)
    obtain ⟨c, j9, f9, f8, c4⟩ := kp e8
    let c3 := ((jz c).toArray : Array Value)
    rw [f9] at z
    refine bg (VQ (na (enc := jz) (i := (a2 : Int)) (x0 := c) aP aJ A L e3 (aG _) f8) (fun k9 f3 => V (jA rfl (kf d.has f3 bR aJ)) (VE (ku d cO (fun k3 K d => VO (jR (.agg (jz c).toArray) ((jz c).toArray) d rfl rfl aJ (nz c) nb rfl (fun k4 d => ln (jM ?_))))))))
    let j2 : Value := (.int .i64 (a2 : Int))
    let j1 : Value := (.int .i64 (a0.length : Int))
    let g6 : Value := (.pointer (some ⟨K, 0, none⟩))
    replace d := d.drew
    have b := d.has.jy (Kb (Kb (Kr Sn)))
    refine kI b kl (XH 0 rfl b (fun _ n => jA rfl (jD n Mh (jz c) rfl bR aJ)) (bS z fun j6 f5 z => XE 1 rfl (Eg d call157 (Eo c _ _  f5) (fun k5 d => ?_))))
    have b := d.has.jy (Kb (Kb (Kr Sn)))
    refine ⟨b, (X 2 rfl b (jH rfl) (PJ z (fun e0 E W => ∃ c7, ST true kx w W (hp w) ((K, Obj.cells c3 52 (0, 0)) :: ((t, Obj.cells g5 52 (0, 0)) :: (u ++ c7))) ∧ E 0 = D ∧ E 3 = x ∧ E 4 = b8 ∧ E 5 = (.bool G) ∧ E 7 = g6 ∧ E 8 = D ∧ E 9 = j1 ∧ E 10 = j2 ∧ E 31 = (.bool e0)) (bm 28 262143) 10 ?_ (fun e0 T c1 => ?_)))⟩
    ·rintro j8 E W ⟨c7, d, b2, b3, O, P, a8, b4, b5, b6, g8⟩ f0
     have b := d.has.jy (Kb (Kb (Kr Sn)))
     refine X 18 rfl b (jH g8) (PJ f0 (fun d8 E W => ∃ c8, ST true kx w W (hp w) ((K, Obj.cells c3 52 (0, 0)) :: ((t, Obj.cells g5 52 (0, 0)) :: (u ++ c8))) ∧ E 0 = D ∧ E 3 = x ∧ E 4 = b8 ∧ E 5 = (.bool G) ∧ E 7 = g6 ∧ E 8 = D ∧ E 9 = j1 ∧ E 10 = j2 ∧ E 41 = (.bool d8)) (bm 28 268435455) 0 ?_ (fun d8 Q b9 => ?_))
     ·rintro l4 E W ⟨c8, d, d3, d4, b7, g9, h0, d5, d6, d7, h1⟩ N
      refine kT kr (jI (CI N h1 (fun e7 N => ?_) (fun e7 N => ?_)))
      ·refine sg (V (jA h0 (jD d.has Mh (jz c) rfl bR aJ)) ?_)
       replace d := d.perm (Nb (Pb Pz) Nz)
       refine VO (jR (.agg (jz c).toArray) ((jz c).toArray) d b7 rfl aJ (nz c) nb rfl (fun k6 d => ln ?_))
       replace d := d.jy (Kb (Db St))
       exact jL (Wa (kk (kA (jI ⟨d7, true, c, _, ⟨rfl, d6⟩, (d.jy St), d3, d4, b7, rfl, d5, (by rw [c4]; exact N)⟩))))
      refine kX (kA (jI ?_))
      replace d := d.jy (Db St)
      exact ⟨d7, G, y, _, ⟨rfl, d6⟩, (d.jy St), d3, d4, b7, g9, d5, (by rw [c4]; exact N)⟩
     refine bC Q (fun j Q => ?_) (fun j Q => ?_)
     ·refine Xg 19 rfl rfl (cB j) b (jH P) (Xg 20 rfl rfl (cB j) b (mT rfl) (Xg 21 rfl rfl (cB j) b (jH rfl) (PJ Q (fun d9 E W => ∃ c9, ST true kx w W (hp w) ((K, Obj.cells c3 52 (0, 0)) :: ((t, Obj.cells g5 52 (0, 0)) :: (u ++ c9))) ∧ E 0 = D ∧ E 3 = x ∧ E 4 = b8 ∧ E 5 = (.bool G) ∧ E 7 = g6 ∧ E 8 = D ∧ E 9 = j1 ∧ E 10 = j2 ∧ E 32 = (.bool j8) ∧ E 40 = (.bool d9)) (bm 28 134217727) 1 ?_ (fun d9 I c0 => ?_))))
      ·rintro l5 E W ⟨c9, d, h2, h3, h4, h5, h6, h7, h8, h9, i0, i1⟩ f1
       have b := d.has.jy (Kb (Kb (Kr Sn)))
       refine X 27 rfl b (jS (i0.trans (cB j)) i1) ?_
       obtain rfl := sj f1
       refine nu kr (b9 _ _ ⟨_, (d.jy St), h2, h3, h4, h5, h6, h7, h8, h9, rfl⟩)
      refine bC I (fun k I => ?_) (fun k I => ?_)
      ·refine Xn 22 rfl rfl (cB k) b (Xn 23 rfl rfl (cB k) b (Xn 24 rfl rfl (cB k) b (Xn 25 rfl rfl (cB k) b (Xg 26 rfl rfl (cB j) b (jS (cB k) rfl) ?_))))
       obtain rfl := sj I
       refine nu kr (c0 _ _ ⟨_, (d.jy St), b2, b3, O, P, a8, b4, b5, b6, rfl, rfl⟩)
      refine ub 22 rfl rfl (cB k) b (fun _ n => jA a8 (jD n Mh (jz c) rfl bR aJ)) (ub 23 rfl rfl (cB k) b (fun _ n => jA O (jD n (Mt Mh) (jz y) rfl bR aJ)) (bS I fun l1 f6 I => El 24 rfl rfl (cB k) (Eg d call158 (B5 c y _ _  f6) (fun k7 d => ?_))))
      have b := d.has.jy (Kb (Kb (Kr Sn)))
      refine ⟨b, (Xg 25 rfl rfl (cB k) b (kG rfl rfl rfl) (Xg 26 rfl rfl (cB j) b (jT (cB k) rfl) ?_))⟩
      obtain rfl := sj I
      refine nu kr (c0 _ _ ⟨_, (d.jy St), b2, b3, O, P, a8, b4, b5, b6, rfl, rfl⟩)
     refine Xn 19 rfl rfl (cB j) b (Xn 20 rfl rfl (cB j) b (Xn 21 rfl rfl (cB j) b (Xu 22 rfl rfl rfl b (Xu 23 rfl rfl rfl b (Xu 24 rfl rfl rfl b (Xu 25 rfl rfl rfl b (Xn 26 rfl rfl (cB j) b (X 27 rfl b (jT (cB j) rfl) ?_))))))))
     obtain rfl := sj Q
     refine nu kr (b9 _ _ ⟨_, (d.jy St), b2, b3, O, P, a8, b4, b5, b6, rfl⟩)
    refine bC T (fun g T => ?_) (fun g T => ?_)
    ·refine Xg 3 rfl rfl (cB g) b (jH M) (Xg 4 rfl rfl (cB g) b (nw aP rfl J) (Xg 5 rfl rfl (cB g) b (kG rfl rfl rfl) (Xg 6 rfl rfl (cB g) b (jH rfl) (PJ T (fun e1 E W => ∃ d0, ST true kx w W (hp w) ((K, Obj.cells c3 52 (0, 0)) :: ((t, Obj.cells g5 52 (0, 0)) :: (u ++ d0))) ∧ E 0 = D ∧ E 3 = x ∧ E 4 = b8 ∧ E 5 = (.bool G) ∧ E 7 = g6 ∧ E 8 = D ∧ E 9 = j1 ∧ E 10 = j2 ∧ E 16 = (.bool j6) ∧ E 30 = (.bool e1)) (bm 28 131071) 11 ?_ (fun e1 B c2 => ?_)))))
     ·rintro l6 E W ⟨d0, d, i2, i3, i4, i5, i6, i7, i8, i9, j0, j3⟩ f2
      have b := d.has.jy (Kb (Kb (Kr Sn)))
      refine X 17 rfl b (jS (j0.trans (cB g)) j3) ?_
      obtain rfl := sj f2
      refine nu kr (c1 _ _ ⟨_, (d.jy St), i2, i3, i4, i5, i6, i7, i8, i9, rfl⟩)
     refine bC B (fun a B => ?_) (fun a B => ?_)
     ·refine Xn 7 rfl rfl (cB a) b (Xn 8 rfl rfl (cB a) b (Xn 9 rfl rfl (cB a) b (Xn 10 rfl rfl (cB a) b (Xn 11 rfl rfl (cB a) b (Xn 12 rfl rfl (cB a) b (Xn 13 rfl rfl (cB a) b (Xn 14 rfl rfl (cB a) b (Xn 15 rfl rfl (cB a) b (Xg 16 rfl rfl (cB g) b (jS (cB a) rfl) ?_)))))))))
      obtain rfl := sj B
      refine nu kr (c2 _ _ ⟨_, (d.jy St), U, M, Y, Z, rfl, A, eN, L, rfl, rfl⟩)
     refine Xg 7 rfl rfl (cB a) b (jH M) (Xg 8 rfl rfl (cB a) b (jH M) (Xg 9 rfl rfl (cB a) b (nw aP rfl J) (Xg 10 rfl rfl (cB a) b (kG rfl rfl rfl) (bS B fun e2 b0 B => sL 11 rfl kr (.inr ⟨6, false, 20, rfl, rfl, by decide, (cB a)⟩) rfl dc (fun _ _ h => h) b (nU (i := (wi0 .i64 ((a3.length : Int) - 1))) (x0 := e2) aP aJ rfl rfl J (ky b0) (kv b0)) (fun l0 f4 => ub 12 rfl rfl (cB a) b (fun _ n => jA rfl (sP n (fun p hq => (Mt (Mt (Ml hq)))) J kM f4 (kv b0) bR aJ)) (ub 13 rfl rfl (cB a) b (fun _ n => jA rfl (jD n Mh (jz c) rfl bR aJ)) (bS B fun l2 f7 B => El 14 rfl rfl (cB a) (Eg d call158 (B5 e2 c _ _  f7) (fun k8 d => ?_)))))))))
     have b := d.has.jy (Kb (Kb (Kr Sn)))
     refine ⟨b, (Xg 15 rfl rfl (cB a) b (kG rfl rfl rfl) (Xg 16 rfl rfl (cB g) b (jT (cB a) rfl) ?_))⟩
     obtain rfl := sj B
     refine nu kr (c2 _ _ ⟨_, (d.jy St), U, M, Y, Z, rfl, A, eN, L, rfl, rfl⟩)
    refine Xn 3 rfl rfl (cB g) b (Xn 4 rfl rfl (cB g) b (Xn 5 rfl rfl (cB g) b (Xn 6 rfl rfl (cB g) b (Xu 7 rfl rfl rfl b (Xu 8 rfl rfl rfl b (Xu 9 rfl rfl rfl b (Xu 10 rfl rfl rfl b (Xu 11 rfl rfl rfl b (Xu 12 rfl rfl rfl b (Xu 13 rfl rfl rfl b (Xu 14 rfl rfl rfl b (Xu 15 rfl rfl rfl b (Xn 16 rfl rfl (cB g) b (X 17 rfl b (jT (cB g) rfl) ?_))))))))))))))
    obtain rfl := sj T
    refine nu kr (c1 _ _ ⟨_, (d.jy St), U, M, Y, Z, rfl, A, eN, L, rfl⟩)
   rintro E W ⟨G, y, b1, ⟨L, eN⟩, d, U, M, Y, Z, A, z⟩
   rw [aH] at z
   refine jI ?_
   obtain rfl := sj z
   exact ⟨_, (d.jy St), U, M, Y, Z⟩
  rintro ⟨l3, a4⟩ E W ⟨c6, d, g3, d2, g4, g7⟩ H
  refine jM (sg (Wh g7 (V (mT rfl) (ln (CI H rfl (fun e5 H => ?_) (fun e5 H => ?_))))))
  ·refine sg (Wh d2 (Wa (ln ?_)))
   replace d := d.jy (Db St)
   refine kh (kw (mi (kw (mi (kw ?_)))))
   obtain rfl := sj H
   exact lB (v := x) rfl rfl ⟨_, u, rfl, d.nM (fun p hq => (Ml hq)) J.nd, J⟩
  refine kn (jL (Wh d2 (V (jA g4 (jD d.has Mh (jz a4) rfl bR aJ)) (VE (kq (cs := (jz a4).toArray) d (lW rfl) (mr aP aJ cO) (fun k1 g1 d => ?_))))))
  replace d := d.perm (Nr (Qb (Qb Qz)) Nz)
  refine bS H fun j4 e6 H => VE (nW (enc := jz) (v := x) (vs := (.slice (some ⟨g1, 0, none⟩) 1 1)) (R := u) d kM dc nz aP nO.1 nO.2.1 rfl nO.2.2.1 nO.2.2.2 rfl rfl J (Sl.lit (enc := jz) (l := [a4]) kM rfl nb rfl (d.at_ (Ma Mh))) e6 (fun k2 j7 g0 d e4 => Wa (kk (kA (jI ?_)))))
  replace d := d.jy (Kr (Db (Db St)))
  exact ⟨j5, bG _, j7, j4, g0, _, (d.jy St), g3, rfl, e4, H⟩
end Go.Proofs.YtjjjihkifgdhgaaGreatDoor
