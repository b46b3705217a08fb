/- a part of a proof of StrandSums -/
import Derived.Test.YtjjjihkifgdhgaaGreatS4W1i
set_option linter.all false
namespace Go.Proofs.YtjjjihkifgdhgaaGreat
open Go.IntKind renaming wrap → wi0
open Go.Proofs.Tryz renaming prog → pg0
open Go.RowKit
set_option maxRecDepth 10000
open Tryz
theorem yI (g : Value) (a0 : List Formula) (x : LO) (Z : Value) (f1 : (Formula × Formula) → Option Bool) (r : List Formula) (w : World) {μ0 : jN} (h0 : nT μ0 (x ++ []) w) (B : kw 30 jo 5 μ0 g a0 x) (d2 : wK pg0 Z μ0 (uR jo jo) (fun (r : Bool) => (.bool r)) f1) (hm : pb a0 f1 = some r) :
  lZ false pg0 166 [g, Z] w μ0 (x ++ []) (fun v L1 μ1 => ∃ y1, v = y1 ∧ L1 = [] ∧ Sl jo 5 μ1 y1 (r)) := by
 refine vO h0 66 func166 rfl (fun d => sg (Wa (lS (Wm (V (xF aF rfl B) (Wi rfl (ln (CI hm rfl (fun i3 hm => ?_) (fun i3 hm => ?_)))))))))
 ·refine sg (Wm (Wa (lt (kI ?_))))
  obtain rfl := sj hm
  refine li (v := g) rfl rfl ?_
  obtain ⟨a1, d, i2, L, j0⟩ := ST.xZ jD d B
  exact ⟨_, _, _, rfl, (d.mi Sn), i2, L, (ST.lf d (mS.mem Sn)), g, rfl, rfl, j0⟩
 refine kS (Wa (ln (kX (mT (fun m E W => ∃ t b7, ST false (keys (x ++ [])) w W μ0 (x ++ b7) ∧ E 0 = g ∧ E 1 = Z ∧ E 5 = (.int .i64 t) ∧ me a0 f1 m t = some r) jP ⟨1, _, (d.js St), rfl, rfl, rfl, hm⟩ ?_))))
 rintro m E W ⟨t, b7, d, y, a3, G, a⟩
 cases m with
 | zero => rw [me] at a; cases a
 | succ h1 =>
  refine jI (sg (Wh G (Wh y (V (xF aF rfl B) (Wi rfl (ln (CI a rfl (fun d3 a => ?_) (fun d3 a => ?_))))))))
  ·refine kn (jI (kX (jI ?_)))
   replace d := d.drew
   have h := d.has.js (Kr Sn)
   refine kN h ki (X 0 rfl h (jx a3) (X 1 rfl h (jx y) (X 2 rfl h (jx G) (bS a fun h7 b2 a => XQ 3 rfl h (kW (i := t) jo.out aF aC rfl rfl B (kh b2) (jY b2)) (fun k1 ⟨_, ⟨h3, rfl, e7⟩, e0, i4⟩ => XH 4 rfl h (fun _ q => jt rfl (kl (nA.hp _) (e0.mono (lN (fun b o p => q.2 b o (Ml p)))) bB aC)) (X 5 rfl h (jx y) (X 6 rfl h (jx G) (X 7 rfl h (ko rfl rfl rfl) (bS a fun h8 b3 a => XQ 8 rfl h (kW (i := (wi0 .i64 (t - 1))) jo.out aF aC rfl rfl B (kh b3) (jY b3)) (fun k2 ⟨_, ⟨h4, rfl, e8⟩, e1, i5⟩ => XH 9 rfl h (fun _ q => jt rfl (kl (nA.hp _) (e1.mono (lN (fun b o p => q.2 b o (Ml p)))) bB aC)) (bS a fun k7 e5 a => XE 10 rfl (xW (h7, h8) d d2 (jR.refl _) (uR.mk jD jD (jo.mk ⟨h3, rfl, e7⟩) (jo.mk ⟨h4, rfl, e8⟩) d.jy) rfl (uk rfl rfl) e5 (fun j6 d => ?_)))))))))))))
   have h := d.has.js (Kr Sn)
   refine ⟨h, (kM kr (jH (CI a rfl (fun d4 a => ?_) (fun d4 a => ?_))))⟩
   ·refine sg (Wh y (Wh G (bS a fun _ O a => VQ (As (i := t) aF aC rfl rfl B (vI O) (vw O)) (fun c4 K => Wa (lS (Wa (ln ?_)))))))
    refine CJ a (fun T E W => ∃ a2 b9, ST false (keys (x ++ [])) w W μ0 (a2 ++ b9) ∧ E 0 = g ∧ E 5 = (.int .i64 T.2) ∧ kw 30 jo 5 μ0 g T.1 a2) (fun T d8 => ?_) ?_
    ·refine kX (mT (fun m E W => ∃ a5 J U u c0, ST false (keys (x ++ [])) w W μ0 (J ++ c0) ∧ E 0 = g ∧ E 1 = Z ∧ E 5 = (.int .i64 U) ∧ E 6 = c4 ∧ E 7 = (.int .i64 u) ∧ kw 30 jo 5 μ0 g a5 J ∧ mg t f1 m a5 U u = some T) jP ⟨a0, x, t, 1, _, (d.js St), y, a3, G, rfl, rfl, B, d8⟩ ?_)
     rintro m E W ⟨a5, J, U, u, c0, d, N, a4, Q, H, I, k, j⟩
     cases m with
     | zero => rw [mg] at j; cases j
     | succ h2 =>
      refine jI (sg (Wh I (Wh H (V (Lq aF rfl K k) (Wi rfl (ln (CI j rfl (fun d5 j => ?_) (fun d5 j => ?_))))))))
      ·refine kn (jI (CJ j (fun s E W => ∃ M c1, ST false (keys (x ++ [])) w W μ0 (M ++ c1) ∧ E 0 = g ∧ E 1 = Z ∧ E 5 = (.int .i64 s.2) ∧ E 6 = c4 ∧ E 7 = (.int .i64 u) ∧ kw 30 jo 5 μ0 g s.1 M) (fun s c => ?_) ?_))
       ·refine kX (jI ?_)
        replace d := d.drew
        have h := d.has.js (Kr Sn)
        refine kN h ki (X 0 rfl h (jx a4) (X 1 rfl h (jx H) (X 2 rfl h (jx I) (bS c fun i0 b4 c => XQ 3 rfl h (AF (i := u) jo.out aF aC rfl rfl k K (kh b4) (jY b4)) (fun k3 ⟨_, ⟨h5, rfl, f4⟩, e2, i6⟩ => XH 4 rfl h (fun _ q => jt rfl (kl (nA.hp _) (e2.mono (lN (fun b o p => q.2 b o (Ml p)))) bB aC)) (X 5 rfl h (jx H) (X 6 rfl h (jx I) (X 7 rfl h (ko rfl rfl rfl) (bS c fun i1 b5 c => XQ 8 rfl h (AF (i := (wi0 .i64 (u - 1))) jo.out aF aC rfl rfl k K (kh b5) (jY b5)) (fun k4 ⟨_, ⟨h6, rfl, f5⟩, e3, i7⟩ => XH 9 rfl h (fun _ q => jt rfl (kl (nA.hp _) (e3.mono (lN (fun b o p => q.2 b o (Ml p)))) bB aC)) (bS c fun k8 e6 c => XE 10 rfl (xW (i0, i1) d d2 (jR.refl _) (uR.mk jD jD (jo.mk ⟨h5, rfl, f4⟩) (jo.mk ⟨h6, rfl, f5⟩) d.jy) rfl (uk rfl rfl) e6 (fun j8 d => ?_)))))))))))))
        have h := d.has.js (Kr Sn)
        refine ⟨h, (X 11 rfl h (pa rfl) (kM kr (jH (CI c rfl (fun d6 c => ?_) (fun d6 c => ?_)))))⟩
        ·refine sg (Wh N (Wh Q (Wh H (Wh I (bS c fun c7 b6 c => VQ (AF (i := u) jo.out aF aC rfl rfl k K (kh b6) (jY b6)) (fun k5 ⟨_, ⟨l0, rfl, b1⟩, e4, i8⟩ => V (jt rfl (kl (nA.hp _) (e4.mono (lN (fun b o p => d.has.2 b o (Ml p)))) bB aC)) (bS c fun l2 Y c => VQ (kW (i := U) jo.out aF aC rfl rfl k (kh Y) (jY Y)) (fun k6 ⟨_, ⟨l1, rfl, j3⟩, i9, d7⟩ => ?_))))))))
         obtain ⟨f7, g0, rfl⟩ := b1.form
         refine VO (qi (x1 := c7) jD d k rfl rfl (jo.mk ⟨(.slice f7 c7.Kids.length g0), rfl, b1⟩) d7 (jY Y) aC (fun j9 f8 d d1 => ln (jC (Wh Q (Wi rfl (Wa (jU (kz (jH ?_)))))))))
         obtain rfl := sj c
         exact ⟨f8, _, (d.js St), N, a4, rfl, H, I, d1⟩
        refine lJ (kz (jH ?_))
        obtain rfl := sj c
        exact ⟨J, _, (d.js St), N, a4, Q, H, I, k⟩
       rintro ⟨g9, h9⟩ E W ⟨M, c1, d, g1, g2, g3, g4, g7, f3⟩ d9
       exact jC (Wh g7 (Wi rfl (Wa (ln ⟨h2, bn _, g9, M, h9, (wi0 .i64 (u + 1)), _, (d.js St), g1, g2, g3, g4, rfl, f3, d9⟩))))
      refine ng (mI (mI (rC (jH ?_))))
      obtain rfl := sj j
      exact ⟨J, _, (d.js St), N, Q, k⟩
    rintro ⟨k0, c6⟩ E W ⟨a2, b9, d, c2, c3, R⟩ D
    refine sg (Wh c2 (Wh c3 (bS D fun _ P D => VQ (As (i := c6) aF aC rfl rfl R (vI P) (vw P)) (fun k9 e9 => VO (DC (z := (⟨0, 0, K0, []⟩ : Formula)) (zs := C5) jD d R (jo.mk ⟨(.slice none 0 0), rfl, (Sl.nil _ _ _)⟩) aF bG e9 rfl rfl (fun j7 j5 d d0 => lr (Wh c2 (Wh c3 (bS D fun _ a9 D => VQ (F2 (i := c6) aF aC rfl rfl d0 (vI a9) (vw a9)) (fun c5 f0 => ?_))))))))))
    refine Wa (lt (nt (kI (kI (nt (kI ?_))))))
    obtain rfl := sj D
    refine li (v := c5) rfl rfl ?_
    obtain ⟨l3, d, c8, l, f2⟩ := ST.xZ jD d f0
    exact ⟨_, _, _, rfl, (d.mi Sn), c8, l, (ST.lf d (mS.mem Sn)), c5, rfl, rfl, f2⟩
   exact lJ (kz (jH (jC (Wh G (Wi rfl (Wa (ln ⟨h1, bn _, (wi0 .i64 (t + 1)), _, (d.js St), y, a3, rfl, a⟩)))))))
  refine ng (mI (mI (rC (jH (sg (Wh y (Wa (lt ?_))))))))
  obtain rfl := sj a
  refine li (v := g) rfl rfl ?_
  obtain ⟨l4, d, c9, n, f6⟩ := ST.xZ jD d B
  exact ⟨_, _, _, rfl, (d.mi Sn), c9, n, (ST.lf d (mS.mem Sn)), g, rfl, rfl, f6⟩
theorem qh (G : Value) (N : List Formula) (H : Value) (l : List Formula) (I : Value) (f2 : (Formula × Formula) → Option Bool) (r : Bool) (w : World) (x : Sl jo 5 (hp w) G N) (Q : Sl jo 5 (hp w) H l) (p : wK pg0 I (hp w) (uR jo jo) (fun (r : Bool) => (.bool r)) f2) (hm : mf N l f2 = some r) :
  ke false pg0 174 [G, H, I] w (.bool r) := by
 refine cG 32 func174 rfl (fun b => sg (Wa (lS (Wm (V (lU aF rfl x) (Wm (V (lU aF rfl Q) (Wi rfl (jU ?_)))))))))
 refine jH (CI hm rfl (fun s hm => ?_) (fun s hm => ?_))
 ·refine sg (Wa (lt (kI ?_)))
  obtain rfl := sj hm
  exact rP b
 refine kS (Wm (V (lU aF rfl x) (Wm (ln (lQ (fun i E W => ∃ y, (E 17 = .int .i64 (i : Nat) ∧ E 16 = .int .i64 (N.length : Nat)) ∧ ST false kK w W (hp w) y ∧ E 1 = H ∧ E 2 = I ∧ E 15 = G ∧ kF l f2 (N.drop i) i = some r) N.length x.len ⟨_, ⟨rfl, rfl⟩, (b.js St), rfl, rfl, rfl, hm⟩ dc dc dc (fun _ _ _ h => by obtain ⟨_, m, _⟩ := h; exact m) ?_ ?_)))))
 ·rintro a4 E W U ⟨y, ⟨d, n⟩, b, z, B, D, a⟩
  obtain ⟨g, c5, a9, q, a3⟩ := lz U
  rw [a9] at a
  refine bg (Wh d (VQ (nh (i := (a4 : Int)) (x0 := g) jo.out aF aC D d x (aX _) q) (fun b9 ⟨_, ⟨c2, rfl, J⟩, Y⟩ => V (jt rfl (kl b.has Y bB aC)) (VE (kx b bG (fun v b6 b => Wa ?_))))))
  obtain ⟨j, t, rfl⟩ := J.form
  let a0 := (C1 g.Op g.K g.jl.jq g.jl.jv j g.Kids.length t)
  refine VO (jL (.agg a0.toArray) (a0.toArray) b rfl rfl aC oc nb rfl (fun L b => lr (Wh z (Wm (bS a fun c M a => VQ (nh (i := (a4 : Int)) (x0 := c) jo.out aF aC rfl rfl Q (kh M) (jY M)) (fun c0 ⟨_, ⟨c3, rfl, K⟩, Z⟩ => V (jt rfl (kl b.has Z bB aC)) (VE (kx b bG (fun O b7 b => ?_)))))))))
  obtain ⟨k, u, rfl⟩ := K.form
  let a5 := (C1 c.Op c.K c.jl.jq c.jl.jv k c.Kids.length u)
  refine VO (jL (.agg a5.toArray) (a5.toArray) b rfl rfl aC oc nb rfl (fun P b => lr (Wh B (VA b (Mt Mh) a0 bB aC (VA b Mh a5 bB aC (bS a fun c1 a2 a => VE (xW (g, c) b p (jR.refl _) (uR.mk jD jD (jo.mk ⟨(.slice j g.Kids.length t), rfl, J⟩) (jo.mk ⟨(.slice k c.Kids.length u), rfl, K⟩) b.jy) rfl (uk rfl rfl) a2 (fun R b => V (pa rfl) (ln ?_)))))))))
  replace b := b.js (Db (Db St))
  refine CI a rfl (fun T a => ?_) (fun T a => ?_)
  ·refine sg (Wa (lt (nt (kI (nt (kI ?_))))))
   obtain rfl := sj a
   exact rP b
  exact lJ (kz (jH ⟨d, _, ⟨rfl, n⟩, (b.js St), z, B, D, (by rw [a3]; exact a)⟩))
 rintro E W ⟨y, ⟨d, n⟩, b, z, B, D, a⟩
 rw [bE] at a
 exact jH (sg (Wa (lt (rQ a b))))
theorem Dv (M : Formula → Formula → Option Bool) (v : ∀ (a : Formula) (j : Value) (c : Formula) (k : Value) (r : Bool) (w : World) (u : Sl jo 5 (hp w) j a.Kids) (y : Sl jo 5 (hp w) k c.Kids), M a c = some r → ke false pg0 167 [(.agg #[(.int .i64 a.Op), (.int .i64 a.K), (.string a.jl.jq), (.string a.jl.jv), j]), (.agg #[(.int .i64 c.Op), (.int .i64 c.K), (.string c.jl.jq), (.string c.jl.jv), k])] w (.bool r)) (a : Formula) (j : Value) (c : Formula) (k : Value) (r : Bool) (w : World) (u : Sl jo 5 (hp w) j a.Kids) (y : Sl jo 5 (hp w) k c.Kids) (hm : vp M a c = some r) :
  ke false pg0 167 [(.agg #[(.int .i64 a.Op), (.int .i64 a.K), (.string a.jl.jq), (.string a.jl.jv), j]), (.agg #[(.int .i64 c.Op), (.int .i64 c.K), (.string c.jl.jq), (.string c.jl.jv), k])] w (.bool r) := by
 refine cG 31 func167 rfl (fun b => sg ?_)
 obtain ⟨N, Y, rfl⟩ := u.form
 let d := (C1 a.Op a.K a.jl.jq a.jl.jv N a.Kids.length Y)
 refine VE (kq b rfl (fun W4 T b => ?_))
 obtain ⟨Q, Z, rfl⟩ := y.form
 let a0 := (C1 c.Op c.K c.jl.jq c.jl.jv Q c.Kids.length Z)
 refine VE (kq b rfl (fun W8 U b => Wa (lr (Wf tV (VB b (Mt Mh) rfl rfl cJ (Wf tV (VB b Mh rfl rfl cJ (Wi rfl (Wm (LJ hm (fun a9 E W => ∃ a2, ST false kK w W (hp w) ((U, Ol a0 30) :: ((T, Ol d 30) :: a2)) ∧ E 2 = (.pointer (some ⟨T, 0, none⟩)) ∧ E 3 = (.pointer (some ⟨U, 0, none⟩)) ∧ E 4 = (.bool false) ∧ E 16 = (.bool a9)) 6 ?_ (fun a9 D I => ?_)))))))))))
 ·rintro d1 E W ⟨a2, b, J, K, a5, L⟩ n
  refine Wh L (LJ n (fun m E W => ∃ a3, ST false kK w W (hp w) ((U, Ol a0 30) :: ((T, Ol d 30) :: a3)) ∧ E 2 = (.pointer (some ⟨T, 0, none⟩)) ∧ E 3 = (.pointer (some ⟨U, 0, none⟩)) ∧ E 4 = (.bool false) ∧ E 23 = (.bool m)) 6 ?_ (fun m B H => ?_))
  ·rintro d2 E W ⟨a3, b, O, P, h, c1⟩ p
   refine Wh c1 (LJ p (fun l E W => ∃ a4, ST false kK w W (hp w) a4 ∧ E 4 = (.bool false) ∧ E 30 = (.bool l)) 6 ?_ (fun l z G => ?_))
   ·rintro d3 E W ⟨a4, b, c9, R⟩ q
    exact Wg R (lt (rQ q b))
   refine bC z (fun i z => ?_) (fun i z => ?_)
   ·refine ug i (jB rY O) (ug i (jt rfl (jG b.has (Mt Mh) rfl ft)) (ug i (jB rY P) (ug i (jt rfl (jG b.has Mh rfl ft)) (bS z fun d0 s z => ue i (Eg b call174 (qh (.slice N a.Kids.length Y) a.Kids (.slice Q c.Kids.length Z) c.Kids (.func (.func 167) #[] #[]) (fun (x : (Formula × Formula)) => M x.1 x.2) _ _ (u.mono jD.mono b.jy) (y.mono jD.mono b.jy) ⟨167, #[], #[], rfl, call167, fun W x vs r hs hR hm => by obtain ⟨_, _, rfl, c4, c5⟩ := hR; obtain ⟨u0, rfl, k0⟩ := c4.out; obtain ⟨t0, rfl, j0⟩ := c5.out; exact v x.1 u0 x.2 t0 r W k0 j0 hm⟩ s) (fun c8 b => V (jO (cB i) rfl) ?_))))))
    obtain rfl := sj z
    exact G _ _ ⟨_, (b.js (Db (Db St))), h, rfl⟩
   refine un i (un i (un i (un i (un i (V (jQ (cB i) rfl) ?_)))))
   obtain rfl := sj z
   exact G _ _ ⟨_, (b.js (Db (Db St))), h, rfl⟩
  refine bC B (fun g B => ?_) (fun g B => ?_)
  ·refine ug g (jB xV J) (ug g (jt rfl (jA b.has (Mt Mh) (ju a.jl) rfl bQ aT)) (ug g (jB xV K) (ug g (jt rfl (jA b.has Mh (ju c.jl) rfl bQ aT)) (ug g (wU rfl rfl (pu fC) (tH (sN _ a.jl c.jl))) (V (jO (cB g) rfl) ?_)))))
   obtain rfl := sj B
   exact H _ _ ⟨_, (b.js St), J, K, a5, rfl⟩
  refine un g (un g (un g (un g (un g (V (jQ (cB g) rfl) ?_)))))
  obtain rfl := sj B
  exact H _ _ ⟨_, (b.js St), J, K, a5, rfl⟩
 refine bC D (fun t D => ?_) (fun t D => ?_)
 ·refine ug t (jB yg rfl) (ug t (jt rfl (jG b.has (Mt Mh) rfl cJ)) (ug t (jB yg rfl) (ug t (jt rfl (jG b.has Mh rfl cJ)) (ug t (ko rfl rfl rfl) (V (jO (cB t) rfl) ?_)))))
  obtain rfl := sj D
  exact I _ _ ⟨_, (b.js St), rfl, rfl, rfl, rfl⟩
 refine un t (un t (un t (un t (un t (V (jQ (cB t) rfl) ?_)))))
 obtain rfl := sj D
 exact I _ _ ⟨_, (b.js St), rfl, rfl, rfl, rfl⟩
theorem BZ : ∀ (n : Nat) (g : Formula) (a : Value) (i : Formula) (c : Value) (r : Bool) (w : World) (j : Sl jo 5 (hp w) a g.Kids) (k : Sl jo 5 (hp w) c i.Kids) (_ : nJ n g i = some r),
  ke false pg0 167 [(.agg #[(.int .i64 g.Op), (.int .i64 g.K), (.string g.jl.jq), (.string g.jl.jv), a]), (.agg #[(.int .i64 i.Op), (.int .i64 i.K), (.string i.jl.jq), (.string i.jl.jv), c])] w (.bool r)
 | 0 => by intros; rename_i h; simp only [nJ] at h; cases h
 | n + 1 => Dv (nJ n) (BZ n)
theorem sQ (j : Nat) (a0 : kk) (c : Int) (K : Value) (a2 : List Formula) (r : (Formula × kk)) (w : World) {μ0 : jN} (h0 : nT μ0 ((j, Ol (kT a0) 186) :: []) w) (b5 : Sl jo 5 μ0 K a2) (hm : nM a0 c a2 = some r) :
  lZ false pg0 152 [(.pointer (some ⟨j, 0, none⟩)), (.int .i64 c), K] w μ0 ((j, Ol (kT a0) 186) :: []) (fun v L1 μ1 => ∃ y1, v = (.agg #[(.int .i64 ((r.1).Op)), (.int .i64 ((r.1).K)), (.string (((r.1).jl).jq)), (.string (((r.1).jl).jv)), y1]) ∧ L1 = ((j, Ol (kT (r.2)) 186) :: []) ∧ Sl jo 5 μ1 y1 ((r.1).Kids)) := by
 refine vO h0 37 func152 rfl (fun b => sg (VE (kx b bG (fun W2 b1 b => lr (Wm (Wi rfl (VE (kx b iV (fun W4 s b => VO (jL (.int .i64 (wi0 .i64 (5 - c))) (#[(.int .i64 (wi0 .i64 (5 - c)))]) b rfl rfl dR (wc _ (wi0 .i64 (5 - c))) nb rfl (fun W5 b => ln (jI ?_))))))))))))
 let m := (wi0 .i64 (5 - c))
 let q : Value := (.agg (Qu m).toArray)
 refine jC (Wm (Wm (bS hm fun r6 d1 hm => ?_)))
 refine VE (eD b (bR _) call164 (fun n => lZ.lR (Ih c K a2 _ _ n (b5.mono jD.mono (jR.refl _)) d1)) ?_ (L0 := []))
 rintro _ f4 aa e2 b B d ⟨a7, H, rfl, a3⟩
 obtain rfl := H.symm
 refine Wa (lS (Wm (V (pG (by exact tm rfl) rfl) (bS hm fun f3 c1 hm => VE (Eg b call125 (uf a7 r6 (.func (.func 165) #[] #[(.pointer (some ⟨s, 0, none⟩))]) (fun (x : Formula) => qf x m) _ _ (a3.mono jD.mono b.jy) ⟨165, #[], #[(.pointer (some ⟨s, 0, none⟩))], rfl, call165, fun W x vs r hs L hm => by obtain ⟨_, rfl, U⟩ := L; obtain ⟨P, rfl, O⟩ := U.out; exact (zV x P s m r W O (At.of (hs _ _ (b.at_ Mh)) _ rfl) hm).lR⟩ c1) (fun e5 b => ln (CI hm rfl (fun b6 hm => ?_) (fun b6 hm => ?_))))))))
 ·refine sg (VB b Mh rfl rfl cJ (V (mr (v := q) (mD rfl) (lM bG bZ (yK _ bZ) kr)) ?_))
  replace b := b.perm (Nb (Pb Pz) Nz)
  refine VO (jL q ((Qu m).toArray) b rfl rfl aC oc nb rfl (fun e6 b => ln ?_))
  replace b := b.js (Kb (Db St))
  refine kv (kI ?_)
  obtain rfl := sj hm
  exact pX (v := q) rfl rfl (jA b.has Mh (Qu m) rfl bB aC) ⟨_, _, _, rfl, (b.mi (Db (Kb Sn))), B, d, (ST.lf b (mS.mem (Db (Kb Sn)))), (.slice none 0 0), rfl, rfl, (Sl.nil _ _ _)⟩
 refine kn ?_
 replace b := b.js (Db St)
 refine sg (Wm (bS hm fun d2 c2 hm => ?_))
 refine VE (eD b (bR _) call163 (fun n => (BS a7 r6 _ _ n (a3.mono jD.mono (jR.refl _)) c2)) ?_ (L0 := []))
 rintro _ f5 f9 e3 b N h ⟨d5, c7, I, rfl, c4⟩
 obtain rfl := I.symm
 replace b := b.perm (Tr Tn)
 refine bS hm fun z c3 hm => ?_
 refine VE (eD b (Cr Qz Cn) call166 (fun n => (yI d5 d2 c7 (.func (.func 167) #[] #[]) (fun (x : (Formula × Formula)) => nJ jP x.1 x.2) _ _ n c4 ⟨167, #[], #[], rfl, call167, fun W x vs r hs L hm => by obtain ⟨_, _, rfl, U, d0⟩ := L; obtain ⟨P, rfl, O⟩ := U.out; obtain ⟨t0, rfl, j0⟩ := d0.out; exact (BZ jP) x.1 P x.2 t0 r W O j0 hm⟩ c3)) ?_)
 rintro _ f6 d7 e4 b Q l ⟨d6, J, rfl, y⟩
 obtain rfl := J.symm
 refine Wa (ln (jI (CJ hm (fun R E W => ∃ a5, ST false (keys ((j, Ol (kT a0) 186) :: [])) w W d7 ((b1, Ol C5 30) :: ((j, Ol (kT R) 186) :: a5)) ∧ E 1 = (.int .i64 c) ∧ E 6 = (.pointer (some ⟨b1, 0, none⟩)) ∧ E 8 = d6) (fun R u => ?_) ?_)))
 ·refine sg (Wm (V (lU aF rfl y) (Wi rfl (ln (CI u rfl (fun b9 u => ?_) (fun b9 u => ?_))))))
  ·refine jC (Wm (Wn (Wf Kd ?_)))
   replace b := b.perm (Nb (Pb Pz) Nz)
   refine VO (jL (.int .i64 12) ((kT (⟨12⟩ : kk)).toArray) b rfl rfl sizeOf96 (wc _ 12) nb rfl (fun f1 b => ln ?_))
   obtain rfl := sj u
   exact ⟨_, (b.js (Sb (Pb Pz) St)), rfl, rfl, rfl⟩
  refine kn ?_
  obtain rfl := sj u
  exact ⟨_, (b.js St), rfl, rfl, rfl⟩
 rintro f8 E W ⟨a5, b, c9, M, T⟩ g
 refine jI (sg (Wh T (V (lU aF rfl y) (Wi rfl (ln (CI g rfl (fun b7 g => ?_) (fun b7 g => ?_)))))))
 ·refine sg (Wh T (bS g fun a Z g => VQ (nh (i := 0) (x0 := a) jo.out aF aC rfl rfl y (kh Z) (jY Z)) (fun f2 ⟨_, ⟨f7, rfl, Y⟩, c0⟩ => V (jt rfl (kl b.has c0 bB aC)) ?_)))
  obtain ⟨D, G, rfl⟩ := Y.form
  let a4 := (C1 a.Op a.K a.jl.jq a.jl.jv D a.Kids.length G)
  refine VO (jL (.agg a4.toArray) (a4.toArray) b M rfl aC oc nb rfl (fun e9 b => lt (kI ?_)))
  obtain rfl := sj g
  exact pX (v := (.agg a4.toArray)) rfl M (jA b.has Mh a4 rfl bB aC) ⟨_, _, _, rfl, (b.mi (Db (Kb Sn))), ((B.trans N).trans Q), ((d.trans h).trans l), (ST.lf b (mS.mem (Db (Kb Sn)))), (.slice D a.Kids.length G), rfl, rfl, Y⟩
 refine kg (Wh c9 (Wh T ?_))
 obtain ⟨k, t, rfl⟩ := y.form
 let a9 : Value := (.slice k z.length t)
 let p : Value := (.agg #[(.int .i64 c), (.int .i64 0), (.string zS), (.string zS), a9])
 refine V (mr (v := p) (sa rfl rfl) (lM bG bZ (yK _ bZ) kr)) (VO (jL p (#[(.int .i64 c), (.int .i64 0), (.string zS), (.string zS), a9]) b M rfl aC oc nb rfl (fun f0 b => lt ?_)))
 obtain rfl := sj g
 exact pX (v := p) rfl M (jA b.has Mh [(.int .i64 c), (.int .i64 0), (.string zS), (.string zS), a9] rfl bB aC) ⟨_, _, _, rfl, (b.mi (Db (Kb Sn))), ((B.trans N).trans Q), ((d.trans h).trans l), (ST.lf b (mS.mem (Db (Kb Sn)))), a9, rfl, rfl, y⟩
theorem zT (G : Nat) (a0 : kk) (a1 : Int) (c2 : Value) (a2 : List Formula) (r : (Formula × kk)) (w : World) {μ0 : jN} (h0 : nT μ0 ((G, Ol (kT a0) 186) :: []) w) (c1 : Sl jo 5 μ0 c2 a2) (hm : qg a0 a1 a2 = some r) :
  lZ false pg0 151 [(.pointer (some ⟨G, 0, none⟩)), (.int .i64 a1), c2] w μ0 ((G, Ol (kT a0) 186) :: []) (fun v L1 μ1 => ∃ y1, v = (.agg #[(.int .i64 ((r.1).Op)), (.int .i64 ((r.1).K)), (.string (((r.1).jl).jq)), (.string (((r.1).jl).jv)), y1]) ∧ L1 = ((G, Ol (kT (r.2)) 186) :: []) ∧ Sl jo 5 μ1 y1 ((r.1).Kids)) := by
 let j8 := ((kT a0).toArray : Array Value)
 refine vO h0 58 func151 rfl (fun b => sg (VE (kx b bG (fun W2 b1 b => lr (Wa (lS (Wm ?_)))))))
 refine V (lU aF rfl c1) (Wm (ln (lQ (fun i E W => ∃ x K J N c0, (E 12 = .int .i64 (i : Nat) ∧ E 11 = .int .i64 (a2.length : Nat)) ∧ ST false (keys ((G, Obj.cells j8 186 (0, 0)) :: [])) w W μ0 ((b1, Ol C5 30) :: ((G, Obj.cells j8 186 (0, 0)) :: (N ++ c0))) ∧ E 0 = (.pointer (some ⟨G, 0, none⟩)) ∧ E 1 = (.int .i64 x) ∧ E 6 = (.pointer (some ⟨b1, 0, none⟩)) ∧ E 7 = K ∧ E 10 = c2 ∧ kw 30 jo 5 μ0 K J N ∧ mc a0 (a2.drop i) x J = some r) a2.length c1.len ⟨a1, (.slice none 0 0), ([]), [], _, ⟨rfl, rfl⟩, (b.js St), rfl, rfl, rfl, rfl, rfl, (kw.nil _ _ _ _), hm⟩ dc dc dc (fun _ _ _ h => by obtain ⟨_, _, _, _, _, aa, _⟩ := h; exact aa) ?_ ?_)))
 ·rintro h2 E W f2 ⟨x, K, J, N, c0, ⟨eI, eN⟩, b, U, H, u, I, b0, D, a⟩
  obtain ⟨c, h8, g8, g7, b7⟩ := lz f2
  rw [g8] at a
  refine bg (VQ (nh (i := (h2 : Int)) (x0 := c) jo.out aF aC b0 eI c1 (aX _) g7) (fun k7 ⟨_, ⟨l0, rfl, Y⟩, f3⟩ => V (jt rfl (kl b.has f3 bB aC)) (VE (kx b bG (fun i6 k4 b => ?_)))))
  obtain ⟨y, z, rfl⟩ := Y.form
  let j6 : Value := (.slice y c.Kids.length z)
  let b8 := (C1 c.Op c.K c.jl.jq c.jl.jv y c.Kids.length z)
  refine VO (jL (.agg b8.toArray) (b8.toArray) b rfl rfl aC oc nb rfl (fun i7 b => ln (bg (VA b Mh b8 bB aC (bS a fun k8 f4 a => VE (Eg b call160 (ke.lR (yJ c j6 2 _ _ (Y.mono jD.mono b.jy) f4)) (fun i8 b => Wa (ln (CI a rfl (fun e5 a => ?_) (fun e5 a => ?_))))))))))
  ·refine jC (Wh H (Wi rfl (Wa (jU (kz (kz (jH ?_)))))))
   replace b := b.js (Db St)
   exact ⟨eI, (wi0 .i64 (x - 1)), K, J, N, _, ⟨rfl, eN⟩, (b.js St), U, rfl, u, I, b0, D, (by rw [b7]; exact a)⟩
  refine sg (VA b Mh b8 bB aC (bS a fun k9 f5 a => VE (Eg b call160 (ke.lR (yJ c j6 3 _ _ (Y.mono jD.mono b.jy) f5)) (fun i9 b => V (pa rfl) (Wa (ln (CI a rfl (fun e6 a => ?_) (fun e6 a => ?_))))))))
  ·refine jC (Wh I (VA b Mh b8 bB aC (VE (kp (cs := b8.toArray) b (mD rfl) (mN aF aC bG) (fun j0 k5 b => ?_)))))
   replace b := b.perm (Nr (Qb (Qb (Qb (Qb Qz)))) Nz)
   refine bS a fun h3 e7 a => VE (vT (B := N) jD b dc aF oD.1 oD.2.1 rfl oD.2.2.1 oD.2.2.2 rfl rfl D (Bj.lit jD (l := [c]) (.cons (ys := C1 c.Op c.K c.jl.jq c.jl.jv y c.Kids.length z) (jo.mk ⟨j6, rfl, Y⟩) .nil) rfl nb (b.at_ (Ma Mh))) e7 (fun j3 h4 g9 b e4 => Wa (jU (kz (kz (jH ?_))))))
   replace b := b.js (Kr (Db (Db St)))
   exact ⟨eI, x, h4, h3, g9, _, ⟨rfl, eN⟩, (b.js (Sb (Pr Pz) (Sb (Pr Pz) St))), U, H, u, rfl, b0, e4, (by rw [b7]; exact a)⟩
  refine lJ (kz (kz (jH ?_)))
  replace b := b.js (Db St)
  exact ⟨eI, x, K, J, N, _, ⟨rfl, eN⟩, (b.js St), U, H, u, I, b0, D, (by rw [b7]; exact a)⟩
 rintro E W ⟨x, K, J, N, c0, ⟨eI, eN⟩, b, U, H, u, I, b0, D, a⟩
 rw [bE] at a
 refine jH (jI (bg (Wh H (Wi rfl (Wa (ln (CI a rfl (fun e8 a => ?_) (fun e8 a => ?_))))))))
 ·refine sg (bS a fun g f6 a => ?_)
  let j2 : Value := (.string (((g).jl).jv))
  let h9 : Value := (.string (((g).jl).jq))
  refine VE (eD b (bR _) call161 (fun d => lZ.lR (FL  _ _ d  f6)) ?_ (L0 := []))
  rintro _ l1 m2 i0 b c9 m ⟨l6, b2, rfl, c3⟩
  obtain rfl := b2.symm
  obtain ⟨Z, a6, rfl⟩ := c3.form
  let g5 : Value := (.slice Z ((g).Kids).length a6)
  let e0 : Value := (.agg #[(.int .i64 ((g).Op)), (.int .i64 ((g).K)), h9, j2, g5])
  refine VO (jL e0 (#[(.int .i64 ((g).Op)), (.int .i64 ((g).K)), h9, j2, g5]) b u rfl aC oc nb rfl (fun j5 b => ln ?_))
  replace b := b.js (Kb (Kb (Dr St)))
  refine kv (nt (kI ?_))
  obtain rfl := sj a
  exact pX (v := e0) rfl u (jA b.has Mh [(.int .i64 ((g).Op)), (.int .i64 ((g).K)), h9, j2, g5] rfl bB aC) ⟨_, _, _, rfl, (b.mi (Db (Kb Sn))), c9, m, (ST.lf b (mS.mem (Db (Kb Sn)))), g5, rfl, rfl, c3⟩
 refine sg (Wh H (Wh I (V (xF aF rfl D) (Wi rfl (Wa (ln (CI a rfl (fun e9 a => ?_) (fun e9 a => ?_))))))))
 ·refine sg (bS a fun j f7 a => ?_)
  let j4 : Value := (.string (((j).jl).jv))
  let j1 : Value := (.string (((j).jl).jq))
  refine VE (eD b (bR _) call162 (fun d => lZ.lR (GZ  _ _ d  f7)) ?_ (L0 := []))
  rintro _ l2 m3 i1 b d0 n ⟨l7, b3, rfl, c4⟩
  obtain rfl := b3.symm
  obtain ⟨a3, a7, rfl⟩ := c4.form
  let e3 : Value := (.slice a3 ((j).Kids).length a7)
  let d9 : Value := (.agg #[(.int .i64 ((j).Op)), (.int .i64 ((j).K)), j1, j4, e3])
  refine VO (jL d9 (#[(.int .i64 ((j).Op)), (.int .i64 ((j).K)), j1, j4, e3]) b u rfl aC oc nb rfl (fun j7 b => ln ?_))
  replace b := b.js (Kb (Kb (Dr St)))
  refine kv (nt (kI ?_))
  obtain rfl := sj a
  exact pX (v := d9) rfl u (jA b.has Mh [(.int .i64 ((j).Op)), (.int .i64 ((j).K)), j1, j4, e3] rfl bB aC) ⟨_, _, _, rfl, (b.mi (Db (Kb Sn))), d0, n, (ST.lf b (mS.mem (Db (Kb Sn)))), e3, rfl, rfl, c4⟩
 refine sg (Wh H (Wh I (V (xF aF rfl D) (Wi rfl (Wa (ln (CI a rfl (fun f0 a => ?_) (fun f0 a => ?_))))))))
 ·refine sg (Wh U (Wh I ?_))
  replace b := b.perm (Nr (Qb (Qb Qz)) Nz)
  obtain ⟨m4, b, d1, p, g1⟩ := ST.xZ jD b D
  refine bS a fun k f8 a => ?_
  let h6 : Value := (.string (((k.1).jl).jv))
  let h1 : Value := (.string (((k.1).jl).jq))
  refine VE (eD b (Cb (Pb Pz) Cn) call152 (fun d => (sQ G a0 2 K J _ _ d (g1.mono jD.mono (jR.refl _)) f8)) ?_)
  rintro _ l3 m5 i2 b d2 q ⟨l8, b4, rfl, c5⟩
  obtain rfl := b4.symm
  replace b := b.perm (Tb Tn)
  obtain ⟨a4, a8, rfl⟩ := c5.form
  let e1 : Value := (.slice a4 ((k.1).Kids).length a8)
  let c8 : Value := (.agg #[(.int .i64 ((k.1).Op)), (.int .i64 ((k.1).K)), h1, h6, e1])
  replace b := b.perm (Nb (Pb Pz) Nz)
  refine VO (jL c8 (#[(.int .i64 ((k.1).Op)), (.int .i64 ((k.1).K)), h1, h6, e1]) b u rfl aC oc nb rfl (fun j9 b => lt (nt (kI ?_))))
  obtain rfl := sj a
  exact pX (v := c8) rfl u (jA b.has Mh [(.int .i64 ((k.1).Op)), (.int .i64 ((k.1).K)), h1, h6, e1] rfl bB aC) ⟨_, _, _, rfl, (b.mi (Db (Kb Sn))), (d1.trans d2), (p.trans q), (ST.lf b (mS.mem (Db (Kb Sn)))), e1, rfl, rfl, c5⟩
 refine sg (Wh H (Wi rfl (Wa (ln (CI a rfl (fun f1 a => ?_) (fun f1 a => ?_))))))
 ·refine sg (Wh U (Wh I ?_))
  replace b := b.perm (Nr (Qb (Qb Qz)) Nz)
  obtain ⟨m6, b, d3, s, g2⟩ := ST.xZ jD b D
  refine bS a fun t f9 a => ?_
  let h7 : Value := (.string (((t.1).jl).jv))
  let h5 : Value := (.string (((t.1).jl).jq))
  refine VE (eD b (Cb (Pb Pz) Cn) call152 (fun d => (sQ G a0 3 K J _ _ d (g2.mono jD.mono (jR.refl _)) f9)) ?_)
  rintro _ l4 m7 i3 b d4 L ⟨l9, b5, rfl, c6⟩
  obtain rfl := b5.symm
  replace b := b.perm (Tb Tn)
  obtain ⟨a5, a9, rfl⟩ := c6.form
  let e2 : Value := (.slice a5 ((t.1).Kids).length a9)
  let d8 : Value := (.agg #[(.int .i64 ((t.1).Op)), (.int .i64 ((t.1).K)), h5, h7, e2])
  replace b := b.perm (Nb (Pb Pz) Nz)
  refine VO (jL d8 (#[(.int .i64 ((t.1).Op)), (.int .i64 ((t.1).K)), h5, h7, e2]) b u rfl aC oc nb rfl (fun k1 b => lt (nt (kI ?_))))
  obtain rfl := sj a
  exact pX (v := d8) rfl u (jA b.has Mh [(.int .i64 ((t.1).Op)), (.int .i64 ((t.1).K)), h5, h7, e2] rfl bB aC) ⟨_, _, _, rfl, (b.mi (Db (Kb Sn))), (d3.trans d4), (s.trans L), (ST.lf b (mS.mem (Db (Kb Sn)))), e2, rfl, rfl, c6⟩
 refine lJ (kz (jH (sg (Wh H (Wh I ?_)))))
 replace b := b.perm (Nr (Qb (Qb Qz)) Nz)
 obtain ⟨m8, b, d5, O, g3⟩ := ST.xZ jD b D
 refine bS a fun T g0 a => ?_
 refine VE (eD b (bR _) call163 (fun d => (BS K J _ _ d (g3.mono jD.mono (jR.refl _)) g0)) ?_ (L0 := []))
 rintro _ l5 m9 i4 b d6 P ⟨m0, i5, b6, rfl, c7⟩
 obtain rfl := b6.symm
 replace b := b.perm (Tr Tn)
 obtain ⟨M, Q, rfl⟩ := c7.form
 let g6 : Value := (.slice M T.length Q)
 let b9 : Value := (.agg #[(.int .i64 4), (.int .i64 x), (.string zS), (.string zS), g6])
 refine V (mr (v := b9) (GO rfl rfl rfl) (lM bG bZ (yK _ bZ) kr)) ?_
 replace b := b.perm (Nb (Pr Pz) Nz)
 refine VO (jL b9 (#[(.int .i64 4), (.int .i64 x), (.string zS), (.string zS), g6]) b u rfl aC oc nb rfl (fun k3 b => lt ?_))
 obtain rfl := sj a
 refine pX (v := b9) rfl u (jA b.has Mh [(.int .i64 4), (.int .i64 x), (.string zS), (.string zS), g6] rfl bB aC) ?_
 replace b := b.perm (Nr (Qb Qz) Nz)
 obtain ⟨n0, b, d7, R, g4⟩ := ST.xZ jD b c7
 exact ⟨_, _, _, rfl, (b.mi (Db (Kb Sn))), ((d5.trans d6).trans d7), ((O.trans P).trans R), (ST.lf b (mS.mem (Db (Kb Sn)))), g6, rfl, rfl, g4⟩
theorem yO (c9 : kk → Formula → Option (Formula × kk)) (e9 : ∀ (u : Nat) (a0 : kk) (a : Formula) (y : Value) (r : (Formula × kk)) (w : World) {μ0 : jN} (h0 : nT μ0 ((u, Ol (kT a0) 186) :: []) w) (x : Sl jo 5 μ0 y a.Kids), c9 a0 a = some r → lZ false pg0 134 [(.pointer (some ⟨u, 0, none⟩)), (.agg #[(.int .i64 a.Op), (.int .i64 a.K), (.string a.jl.jq), (.string a.jl.jv), y])] w μ0 ((u, Ol (kT a0) 186) :: []) (fun v L1 μ1 => ∃ P, v = (.agg #[(.int .i64 ((r.1).Op)), (.int .i64 ((r.1).K)), (.string (((r.1).jl).jq)), (.string (((r.1).jl).jv)), P]) ∧ L1 = ((u, Ol (kT (r.2)) 186) :: []) ∧ Sl jo 5 μ1 P ((r.1).Kids))) (u : Nat) (a0 : kk) (a : Formula) (y : Value) (r : (Formula × kk)) (w : World) {μ0 : jN} (h0 : nT μ0 ((u, Ol (kT a0) 186) :: []) w) (x : Sl jo 5 μ0 y a.Kids) (hm : rk c9 a0 a = some r) :
  lZ false pg0 134 [(.pointer (some ⟨u, 0, none⟩)), (.agg #[(.int .i64 a.Op), (.int .i64 a.K), (.string a.jl.jq), (.string a.jl.jv), y])] w μ0 ((u, Ol (kT a0) 186) :: []) (fun v L1 μ1 => ∃ P, v = (.agg #[(.int .i64 ((r.1).Op)), (.int .i64 ((r.1).K)), (.string (((r.1).jl).jq)), (.string (((r.1).jl).jv)), P]) ∧ L1 = ((u, Ol (kT (r.2)) 186) :: []) ∧ Sl jo 5 μ1 P ((r.1).Kids)) := by
 let d0 := ((u, Ol (kT a0) 186) :: [])
 refine vO h0 39 func134 rfl (fun b => sg ?_)
 obtain ⟨A1, c2, rfl⟩ := x.form
 let L := (C1 a.Op a.K a.jl.jq a.jl.jv A1 a.Kids.length c2)
 refine VE (kq b rfl (fun W4 b3 b => VE (kx b bG (fun W6 b5 b => lS (Wf tV (VB b (Mt Mh) rfl rfl cJ (Wi rfl (ln (CI hm rfl (fun f8 hm => ?_) (fun f8 hm => ?_))))))))))
 ·refine sg (VA b (Mt Mh) L bB aC (VO (jL (.agg L.toArray) (L.toArray) b rfl rfl aC oc nb rfl (fun W8 b => ln ?_))))
  replace b := b.js (Kb (Db St))
  refine kv (kI ?_)
  obtain rfl := sj hm
  exact pX (v := (.agg L.toArray)) rfl rfl (jA b.has Mh L rfl bB aC) ⟨_, _, _, rfl, (b.mi (Db (Kb Sn))), (jR.refl _), Lo.refl, (ST.lf b (mS.mem (Db (Kb Sn)))), (.slice A1 a.Kids.length c2), rfl, rfl, x⟩
 refine kg (Wa (lS (Wf rY (VB b (Mt Mh) rfl rfl ft (V (lU aF rfl x) (Wm (jU ?_)))))))
 refine jH (lQ (fun i E W => ∃ I H T D J b7, (E 15 = .int .i64 (i : Nat) ∧ E 14 = .int .i64 (a.Kids.length : Nat)) ∧ jR μ0 J ∧ Lo (keys d0) w μ0 J ∧ ST false (keys d0) w W J ((u, Ol (kT D) 186) :: ((b5, Ol C5 30) :: ((b3, Ol L 30) :: (T ++ b7)))) ∧ E 0 = (.pointer (some ⟨u, 0, none⟩)) ∧ E 3 = (.pointer (some ⟨b3, 0, none⟩)) ∧ E 4 = (.pointer (some ⟨b5, 0, none⟩)) ∧ E 5 = I ∧ E 13 = (.slice A1 a.Kids.length c2) ∧ kw 30 jo 5 J I H T ∧ nj c9 a (a.Kids.drop i) H D = some r) a.Kids.length x.len ⟨(.slice none 0 0), ([]), [], a0, μ0, _, ⟨rfl, rfl⟩, (jR.refl _), Lo.refl, (b.js (Sb (Pb (Pb Pz)) St)), rfl, rfl, rfl, rfl, rfl, (kw.nil _ _ _ _), hm⟩ dc dc dc (fun _ _ _ h => by obtain ⟨_, _, _, _, _, _, aa, _⟩ := h; exact aa) ?_ ?_)
 ·rintro f0 E W d7 ⟨I, H, T, D, J, b7, ⟨eI, eN⟩, z, d, b, a2, a3, G, b0, b9, K, c⟩
  obtain ⟨t, f9, e5, e4, e6⟩ := lz d7
  rw [e5] at c
  refine bg (VQ (nh (i := (f0 : Int)) (x0 := t) jo.out aF aC b9 eI (x.mono jD.mono z) (aX _) e4) (fun h7 ⟨_, ⟨h8, rfl, c0⟩, d8⟩ => V (jt rfl (kl b.has d8 bB aC)) (VE (kx b bG (fun g3 h5 b => ?_)))))
  obtain ⟨a7, a9, rfl⟩ := c0.form
  let a6 := (C1 t.Op t.K t.jl.jq t.jl.jv a7 t.Kids.length a9)
  refine VO (jL (.agg a6.toArray) (a6.toArray) b rfl rfl aC oc nb rfl (fun g4 b => ln (jC (Wh b0 (Wh a2 (VA b Mh a6 bB aC (bS c fun g d9 c => ?_)))))))
  refine VE (eD b (Cb (Pb Pz) Cn) call134 (fun O => (e9 u D t (.slice a7 t.Kids.length a9) _ _ O (c0.mono jD.mono (jR.refl _)) d9)) ?_)
  rintro _ h9 f4 g0 b b6 m ⟨i2, b1, rfl, c1⟩
  obtain rfl := b1.symm
  replace b := b.perm (Tb Tn)
  obtain ⟨M, U, rfl⟩ := c1.form
  let d1 : Value := (.slice M ((g.1).Kids).length U)
  refine VE (kp (cs := #[(.int .i64 ((g.1).Op)), (.int .i64 ((g.1).K)), (.string (((g.1).jl).jq)), (.string (((g.1).jl).jv)), d1]) b (mD rfl) (mN aF aC bG) (fun g8 h6 b => ?_))
  replace b := b.perm (Nr (Qb (Qb (Qb (Qb (Qb Qz))))) Nz)
  refine bS c fun f1 d5 c => VE (vT (B := T) jD b dc aF oD.1 oD.2.1 rfl oD.2.2.1 oD.2.2.2 rfl rfl (K.mono jD b6) (Bj.lit jD (l := [g.1]) (.cons (ys := [(.int .i64 ((g.1).Op)), (.int .i64 ((g.1).K)), (.string (((g.1).jl).jq)), (.string (((g.1).jl).jv)), d1]) (jo.mk ⟨d1, rfl, c1⟩) .nil) rfl nb (b.at_ (Ma Mh))) d5 (fun g9 f2 e8 b d4 => Wa (jU (kz (jH ?_)))))
  replace b := b.js (Kr (Db (Kb (Db St))))
  exact ⟨eI, f2, f1, e8, g.2, f4, _, ⟨rfl, eN⟩, (z.trans b6), (d.trans m), (b.js (Sb (Pr Pz) (Sb (Pr Pz) (Sb (Pr Pz) St)))), a2, a3, G, rfl, b9, d4, (by rw [e6]; exact c)⟩
 rintro E W ⟨I, H, T, D, J, b7, ⟨eI, eN⟩, z, d, b, a2, a3, G, b0, b9, K, c⟩
 rw [bE] at c
 refine jH (jI (sg (V (jB tV a3) (VB b (Mt (Mt Mh)) rfl rfl cJ (Wi rfl (ln (CI c rfl (fun d6 c => ?_) (fun d6 c => ?_))))))))
 ·refine sg (Wh a2 (V (jB yg a3) (VB b (Mt (Mt Mh)) rfl rfl cJ (Wh b0 ?_))))
  replace b := b.perm (Nr (Qb (Qb (Qb Qz))) Nz)
  obtain ⟨i5, b, c5, n, e2⟩ := ST.xZ jD b K
  refine bS c fun j e0 c => ?_
  let f3 : Value := (.string (((j.1).jl).jv))
  let d3 : Value := (.string (((j.1).jl).jq))
  refine VE (eD b (Cb Pz Cn) call151 (fun O => (zT u D a.K I H _ _ O (e2.mono jD.mono (jR.refl _)) e0)) ?_)
  rintro _ i0 i6 g1 b c6 p ⟨i3, b2, rfl, c3⟩
  obtain rfl := b2.symm
  replace b := b.perm (Tb Tn)
  obtain ⟨N, Y, rfl⟩ := c3.form
  let b8 : Value := (.slice N ((j.1).Kids).length Y)
  let a5 : Value := (.agg #[(.int .i64 ((j.1).Op)), (.int .i64 ((j.1).K)), d3, f3, b8])
  replace b := b.perm (Nb (Pb Pz) Nz)
  refine VO (jL a5 (#[(.int .i64 ((j.1).Op)), (.int .i64 ((j.1).K)), d3, f3, b8]) b G rfl aC oc nb rfl (fun h2 b => ln ?_))
  replace b := b.js (Kb (Kb (Db St)))
  refine kv (kI ?_)
  obtain rfl := sj c
  exact pX (v := a5) rfl G (jA b.has Mh [(.int .i64 ((j.1).Op)), (.int .i64 ((j.1).K)), d3, f3, b8] rfl bB aC) ⟨_, _, _, rfl, (b.mi (Db (Kb Sn))), ((z.trans c5).trans c6), ((d.trans n).trans p), (ST.lf b (mS.mem (Db (Kb Sn)))), b8, rfl, rfl, c3⟩
 refine kg (Wh a2 (V (jB tV a3) (VB b (Mt (Mt Mh)) rfl rfl cJ (Wh b0 ?_))))
 replace b := b.perm (Nr (Qb (Qb (Qb Qz))) Nz)
 obtain ⟨i7, b, c7, q, e3⟩ := ST.xZ jD b K
 refine bS c fun k e1 c => ?_
 let f5 : Value := (.int .i64 ((k.1).Op))
 let e7 : Value := (.string (((k.1).jl).jv))
 let d2 : Value := (.string (((k.1).jl).jq))
 refine VE (eD b (Cb Pz Cn) call152 (fun O => (sQ u D a.Op I H _ _ O (e3.mono jD.mono (jR.refl _)) e1)) ?_)
 rintro _ i1 i8 g2 b c8 s ⟨i4, b4, rfl, c4⟩
 obtain rfl := b4.symm
 replace b := b.perm (Tb Tn)
 obtain ⟨Q, Z, rfl⟩ := c4.form
 let R : Value := (.slice Q ((k.1).Kids).length Z)
 let a4 : Value := (.agg #[f5, (.int .i64 ((k.1).K)), d2, e7, R])
 replace b := b.perm (Nb (Pb Pz) Nz)
 refine VO (jL a4 (#[f5, (.int .i64 ((k.1).K)), d2, e7, R]) b G rfl aC oc nb rfl (fun h4 b => ln ?_))
 replace b := b.js (Kb (Kb (Db St)))
 refine kv ?_
 obtain rfl := sj c
 exact pX (v := a4) rfl G (jA b.has Mh [f5, (.int .i64 ((k.1).K)), d2, e7, R] rfl bB aC) ⟨_, _, _, rfl, (b.mi (Db (Kb Sn))), ((z.trans c7).trans c8), ((d.trans q).trans s), (ST.lf b (mS.mem (Db (Kb Sn)))), R, rfl, rfl, c4⟩
theorem wB : ∀ (n : Nat) (c : Nat) (j : kk) (g : Formula) (a : Value) (r : (Formula × kk)) (w : World) {k : jN} (y : nT k ((c, Ol (kT j) 186) :: []) w) (i : Sl jo 5 k a g.Kids) (_ : mK n j g = some r),
  lZ false pg0 134 [(.pointer (some ⟨c, 0, none⟩)), (.agg #[(.int .i64 g.Op), (.int .i64 g.K), (.string g.jl.jq), (.string g.jl.jv), a])] w k ((c, Ol (kT j) 186) :: []) (fun v u x => ∃ t, v = (.agg #[(.int .i64 ((r.1).Op)), (.int .i64 ((r.1).K)), (.string (((r.1).jl).jq)), (.string (((r.1).jl).jv)), t]) ∧ u = ((c, Ol (kT (r.2)) 186) :: []) ∧ Sl jo 5 x t ((r.1).Kids))
 | 0 => by intros; rename_i h; simp only [mK] at h; cases h
 | n + 1 => yO (mK n) (wB n)
theorem EW (c : Formula) (u : Value) (r : (Formula × Int)) (w : World) {Z : jN} (L : nT Z [] w) (k : Sl jo 5 Z u c.Kids) (hm : wO c = some r) :
  lZ false pg0 96 [(.agg #[(.int .i64 c.Op), (.int .i64 c.K), (.string c.jl.jq), (.string c.jl.jv), u])] w Z [] (fun v L1 μ1 => ∃ q, v = (.tuple #[(.agg #[(.int .i64 ((r.1).Op)), (.int .i64 ((r.1).K)), (.string (((r.1).jl).jq)), (.string (((r.1).jl).jv)), q]), (.int .i64 (r.2))]) ∧ L1 = [] ∧ Sl jo 5 μ1 q ((r.1).Kids)) := by
 refine vO L 27 func96 rfl (fun b => sg ?_)
 obtain ⟨H, I, rfl⟩ := k.form
 let n := (C1 c.Op c.K c.jl.jq c.jl.jv H c.Kids.length I)
 refine VE (kq b rfl (fun W4 P b => VE (kx b bG (fun W6 p b => Wa (lS (VA b (Mt Mh) n bB aC (bS hm fun r7 a5 hm => VE (Eg b call61 (vt c (.slice H c.Kids.length I) _ _ (k.mono jD.mono b.jy) a5) (fun W9 b => V (pa rfl) (ln (CI hm rfl (fun Q hm => ?_) (fun Q hm => ?_))))))))))))
 ·refine sg (V (mr (v := (.agg C5.toArray)) tW (lM bG bZ (yK _ bZ) kr)) (VO (jL (.agg C5.toArray) (C5.toArray) b rfl rfl aC oc nb rfl (fun b6 b => Wa (ln ?_)))))
  replace b := b.js (Kb (Db St))
  refine kv (kI ?_)
  obtain rfl := sj hm
  exact vm (v0 := (.agg C5.toArray)) (v1 := (.int .i64 11)) rfl rfl (jA b.has Mh C5 rfl bB aC) rfl ⟨_, _, _, rfl, (b.mi Sn), (jR.refl _), Lo.refl, (ST.lf b (mS.mem Sn)), (.slice none 0 0), rfl, rfl, (Sl.nil _ _ _)⟩
 refine kg (V (mr (v := (.agg (kT K6).toArray)) tW (lM zeroValue186 iK (Sw _ iK) kr)) (VE (kq b rfl (fun b7 s b => Wa (lr (Wm (VA b (Mt (Mt Mh)) n bB aC (bS hm fun a U hm => ?_))))))))
 let m : Value := (.int .i64 ((a.1).K))
 let l : Value := (.int .i64 ((a.1).Op))
 let h : Value := (.string (((a.1).jl).jv))
 let a2 : Value := (.string (((a.1).jl).jq))
 refine VE (eD b (Cb Pz Cn) call134 (fun O => ((wB jP) s K6 c (.slice H c.Kids.length I) _ _ O (k.mono jD.mono (jR.refl _)) U)) ?_)
 rintro _ c7 a9 R b D d ⟨c9, y, rfl, z⟩
 obtain rfl := y.symm
 replace b := b.perm (Tb Tn)
 refine VE (kx b bG (fun c0 K b => ?_))
 obtain ⟨i, j, rfl⟩ := z.form
 let a0 : Value := (.slice i ((a.1).Kids).length j)
 let N : Value := (.agg #[l, m, a2, h, a0])
 refine VO (jL N (#[l, m, a2, h, a0]) b rfl rfl aC oc nb rfl (fun c1 b => ln ?_))
 replace b := b.js (Kb (Kb (Kb (Db St))))
 refine jI (sg (Wm (Wn (Wf Kd (VB b (Mt Mh) rfl rfl isAgg96 (Wi rfl (Wm (LJ hm (fun M E W => ∃ J, ST false (keys []) w W a9 ((K, Ob #[l, m, a2, h, a0] 30) :: ((p, Ol C5 30) :: J)) ∧ E 2 = (.pointer (some ⟨p, 0, none⟩)) ∧ E 5 = (.pointer (some ⟨K, 0, none⟩)) ∧ E 24 = (.bool M)) 4 ?_ (fun M t G => ?_)))))))))
 ·rintro c8 E W ⟨J, b, B, a3, a4⟩ x
  refine ln (CI x a4 (fun T x => ?_) (fun T x => ?_))
  ·refine sg (V (mr (v := (.agg C5.toArray)) tW (lM bG bZ (yK _ bZ) kr)) ?_)
   replace b := b.perm (Nb (Pb Pz) Nz)
   refine VO (jL (.agg C5.toArray) (C5.toArray) b B rfl aC oc nb rfl (fun c3 b => Wa (ln ?_)))
   replace b := b.js (Kb (Db St))
   refine kv (kI ?_)
   obtain rfl := sj x
   exact vm (v0 := (.agg C5.toArray)) (v1 := (.int .i64 12)) rfl B (jA b.has Mh C5 rfl bB aC) rfl ⟨_, _, _, rfl, (b.mi Sn), D, d, (ST.lf b (mS.mem Sn)), (.slice none 0 0), rfl, rfl, (Sl.nil _ _ _)⟩
  refine kg (V (jt a3 (jA b.has Mh [l, m, a2, h, a0] rfl bB aC)) ?_)
  replace b := b.perm (Nb (Pb Pz) Nz)
  refine VO (jL N (#[l, m, a2, h, a0]) b B rfl aC oc nb rfl (fun c4 b => Wa (ln ?_)))
  replace b := b.js (Kb (Db St))
  refine kv ?_
  obtain rfl := sj x
  exact vm (v0 := N) (v1 := (.int .i64 0)) rfl B (jA b.has Mh [l, m, a2, h, a0] rfl bB aC) rfl ⟨_, _, _, rfl, (b.mi Sn), D, d, (ST.lf b (mS.mem Sn)), a0, rfl, rfl, z⟩
 refine bC t (fun g t => ?_) (fun g t => ?_)
 ·refine un g (un g (un g (V (jO (cB g) rfl) ?_)))
  obtain rfl := sj t
  exact G _ _ ⟨_, (b.js (Kb (Db St))), rfl, rfl, rfl⟩
 refine ug g (jt rfl (jA b.has Mh [l, m, a2, h, a0] rfl bB aC)) (bS t fun c6 Y t => ue g (Eg b call61 (vt a.1 a0 _ _ (z.mono jD.mono b.jy) Y) (fun c5 b => ug g (pa rfl) (V (jQ (cB g) rfl) ?_))))
 obtain rfl := sj t
 exact G _ _ ⟨_, (b.js (Kb (Db St))), rfl, rfl, rfl⟩
theorem H6 (a : Formula) (k : Value) (c : Formula) (t : Value) (r : (Formula × Int)) (w : World) {N : jN} (q : nT N [] w) (i : Sl jo 5 N k a.Kids) (j : Sl jo 5 N t c.Kids) (hm : wW a c = some r) :
  lZ false pg0 97 [(.agg #[(.int .i64 a.Op), (.int .i64 a.K), (.string a.jl.jq), (.string a.jl.jv), k]), (.agg #[(.int .i64 c.Op), (.int .i64 c.K), (.string c.jl.jq), (.string c.jl.jv), t])] w N [] (fun v Z μ1 => ∃ Y, v = (.tuple #[(.agg #[(.int .i64 ((r.1).Op)), (.int .i64 ((r.1).K)), (.string (((r.1).jl).jq)), (.string (((r.1).jl).jv)), Y]), (.int .i64 (r.2))]) ∧ Z = [] ∧ Sl jo 5 μ1 Y ((r.1).Kids)) := by
 refine vO q 13 func97 rfl (fun b => sg ?_)
 obtain ⟨u, z, rfl⟩ := i.form
 let a3 : Value := (.slice u a.Kids.length z)
 refine VE (kq b rfl (fun W4 W b => ?_))
 obtain ⟨y, G, rfl⟩ := j.form
 let n : Value := (.slice y c.Kids.length G)
 refine VE (kq b rfl (fun W8 b7 b => VE (kx b bG (fun a5 b9 b => Wa (lr (VA b (Mt (Mt Mh)) (C1 a.Op a.K a.jl.jq a.jl.jv u a.Kids.length z) bB aC (VA b (Mt Mh) (C1 c.Op c.K c.jl.jq c.jl.jv y c.Kids.length G) bB aC (VE (kp (cs := #[(.int .i64 a.Op), (.int .i64 a.K), (.string a.jl.jq), (.string a.jl.jv), a3, (.int .i64 c.Op), (.int .i64 c.K), (.string c.jl.jq), (.string c.jl.jv), n]) b (sa rfl rfl) (mN aF aC bG) (fun E I b => V (mr (v := (.agg #[(.int .i64 2), (.int .i64 0), (.string zS), (.string zS), (.slice (some ⟨I, 0, none⟩) 2 2)])) (sa rfl rfl) (lM bG bZ (yK _ bZ) kr)) ?_))))))))))
 obtain ⟨P, b, K, d, U⟩ := ST.xZ (B := [(I, Ob #[(.int .i64 a.Op), (.int .i64 a.K), (.string a.jl.jq), (.string a.jl.jv), a3, (.int .i64 c.Op), (.int .i64 c.K), (.string c.jl.jq), (.string c.jl.jv), n] 30)]) jD b (kw.lit jD (l := [a, c]) (.cons (ys := C1 a.Op a.K a.jl.jq a.jl.jv u a.Kids.length z) (jo.mk ⟨a3, rfl, i⟩) (.cons (ys := C1 c.Op c.K c.jl.jq c.jl.jv y c.Kids.length G) (jo.mk ⟨n, rfl, j⟩) .nil)) rfl nb rfl)
 refine bS hm fun g T hm => ?_
 let p : Value := (.int .i64 ((g.1).Op))
 let a2 : Value := (.string (((g.1).jl).jv))
 let m : Value := (.string (((g.1).jl).jq))
 refine VE (eD b (bR _) call96 (fun s => (EW (⟨2, 0, K0, [a, c]⟩ : Formula) (.slice (some ⟨I, 0, none⟩) 2 2) _ _ s (U.mono jD.mono (jR.refl _)) T)) ?_ (L0 := []))
 rintro _ a9 R a4 b M h ⟨O, H, rfl, J⟩
 obtain rfl := H.symm
 refine Wx rfl (Wx rfl ?_)
 obtain ⟨x, D, rfl⟩ := J.form
 let a0 : Value := (.slice x ((g.1).Kids).length D)
 let Q : Value := (.agg #[p, (.int .i64 ((g.1).K)), m, a2, a0])
 refine VO (jL Q (#[p, (.int .i64 ((g.1).K)), m, a2, a0]) b rfl rfl aC oc nb rfl (fun L b => Wa (ln ?_)))
 replace b := b.js (Kb (Db (Db St)))
 refine kv ?_
 obtain rfl := sj hm
 exact vm (v0 := Q) (v1 := (.int .i64 g.2)) rfl rfl (jA b.has Mh [p, (.int .i64 ((g.1).K)), m, a2, a0] rfl bB aC) rfl ⟨_, _, _, rfl, (b.mi Sn), (K.trans M), (d.trans h), (ST.lf b (mS.mem Sn)), a0, rfl, rfl, J⟩
theorem JU (d1 : Value) (a0 : List Formula) (r : (Formula × Int)) (w : World) {μ0 : jN} (h0 : nT μ0 [] w) (c7 : Sl jo 5 μ0 d1 a0) (hm : vk a0 = some r) :
  lZ false pg0 73 [d1] w μ0 [] (fun v L1 μ1 => ∃ y1, v = (.tuple #[(.agg #[(.int .i64 ((r.1).Op)), (.int .i64 ((r.1).K)), (.string (((r.1).jl).jq)), (.string (((r.1).jl).jv)), y1]), (.int .i64 (r.2))]) ∧ L1 = [] ∧ Sl jo 5 μ1 y1 ((r.1).Kids)) := by
 let e5 := (a0.drop (Int.toNat 1))
 refine vO h0 36 func73 rfl (fun b => sg (VE (kx b bG (fun W2 L b => Wa (lr (Wm (bS hm fun x6 e3 hm => VQ (nh (i := 0) (x0 := x6) jo.out aF aC rfl rfl c7 (kh e3) (jY e3)) (fun p3 ⟨_, ⟨v8, rfl, f2⟩, f1⟩ => V (jt rfl (kl b.has f1 bB aC)) (bS hm fun j e6 hm => ?_)))))))))
 refine VE (eD b (bR _) call96 (fun hh => (EW x6 v8 _ _ hh (f2.mono jD.mono (jR.refl _)) e6)) ?_ (L0 := []))
 rintro _ i4 a9 i0 b a4 m ⟨i5, b6, rfl, d0⟩
 obtain rfl := b6.symm
 refine Wm (Wx rfl (Wx rfl (VE (kx b bG (fun i2 O b => ?_)))))
 obtain ⟨c2, c5, rfl⟩ := d0.form
 let d2 : Value := (.slice c2 ((j.1).Kids).length c5)
 refine VO (jL (.agg #[(.int .i64 ((j.1).Op)), (.int .i64 ((j.1).K)), (.string (((j.1).jl).jq)), (.string (((j.1).jl).jv)), d2]) (#[(.int .i64 ((j.1).Op)), (.int .i64 ((j.1).K)), (.string (((j.1).jl).jq)), (.string (((j.1).jl).jv)), d2]) b rfl rfl aC oc nb rfl (fun i3 b => Wa (lS (Wm (bS hm fun _ c8 hm => VQ (ET (i := 1) aF aC rfl rfl (c7.mono jD.mono a4) (vI c8) (vw c8)) (fun f3 b5 => V (lU aF rfl b5.1) (Wm (ln (CJ hm (fun u E W => ∃ q U c3, jR a9 U ∧ Lo (keys []) w a9 U ∧ ST false (keys []) w W U ((O, Ob #[(.int .i64 u.2.1), (.int .i64 u.2.2.1), (.string u.2.2.2.1.jq), (.string u.2.2.2.1.jv), q] 30) :: ((L, Ol C5 30) :: c3)) ∧ E 2 = (.pointer (some ⟨L, 0, none⟩)) ∧ E 4 = (.pointer (some ⟨O, 0, none⟩)) ∧ E 5 = (.int .i64 u.1) ∧ Sl jo 5 U q u.2.2.2.2) (fun u d7 => ?_) ?_)))))))))
 ·refine lQ (fun i E W => ∃ s G H y x N z R, (E 18 = .int .i64 (i : Nat) ∧ E 17 = .int .i64 (e5.length : Nat)) ∧ jR a9 z ∧ Lo (keys []) w a9 z ∧ ST false (keys []) w W z ((O, Ob #[(.int .i64 G), (.int .i64 H), (.string y.jq), (.string y.jv), x] 30) :: ((L, Ol C5 30) :: R)) ∧ E 2 = (.pointer (some ⟨L, 0, none⟩)) ∧ E 4 = (.pointer (some ⟨O, 0, none⟩)) ∧ E 5 = (.int .i64 s) ∧ E 16 = f3 ∧ Sl jo 5 z x N ∧ sG (e5.drop i) s G H y N = some u) e5.length b5.1.len ⟨j.2, ((j.1).Op), ((j.1).K), ((j.1).jl), d2, ((j.1).Kids), a9, _, ⟨rfl, rfl⟩, (jR.refl _), Lo.refl, (b.js St), rfl, rfl, rfl, rfl, d0, d7⟩ dc dc dc (fun _ _ _ h => by obtain ⟨_, _, _, _, _, _, _, _, aa, _⟩ := h; exact aa) ?_ ?_
  ·rintro e7 E W d6 ⟨s, G, H, y, x, N, z, R, ⟨eI, eN⟩, t, d, b, a2, D, a3, b4, I, c⟩
   obtain ⟨a, f6, e1, e0, e2⟩ := lz d6
   rw [e1] at c
   refine bg (VQ (nh (i := (e7 : Int)) (x0 := a) jo.out aF aC b4 eI (b5.1.mono jD.mono t) (aX _) e0) (fun h1 ⟨_, ⟨h4, rfl, c0⟩, d8⟩ => V (jt rfl (kl b.has d8 bB aC)) (VE (kx b bG (fun g2 g8 b => ?_)))))
   obtain ⟨Y, Z, rfl⟩ := c0.form
   let b8 := (C1 a.Op a.K a.jl.jq a.jl.jv Y a.Kids.length Z)
   refine VO (jL (.agg b8.toArray) (b8.toArray) b rfl rfl aC oc nb rfl (fun g3 b => lS (Wh a3 (Wi rfl (ln (CI c rfl (fun d5 c => ?_) (fun d5 c => ?_)))))))
   ·refine ng (mI (Rx (by simp) (mI (rC (jH ?_)))))
    obtain rfl := sj c
    exact ⟨x, z, _, t, d, (b.js (Db St)), a2, D, a3, I⟩
   refine kn (jC (V (jt D (jA b.has (Mt Mh) [(.int .i64 G), (.int .i64 H), (.string y.jq), (.string y.jv), x] rfl bB aC)) (VA b Mh b8 bB aC (bS c fun g d9 c => ?_))))
   refine VE (eD b (bR _) call97 (fun hh => (H6 (⟨G, H, y, N⟩ : Formula) x a (.slice Y a.Kids.length Z) _ _ hh (I.mono jD.mono (jR.refl _)) (c0.mono jD.mono (jR.refl _)) d9)) ?_ (L0 := []))
   rintro _ h5 f0 f9 b c9 n ⟨h8, a5, rfl, c1⟩
   obtain rfl := a5.symm
   refine Wm (Wx rfl (Wx rfl ?_))
   obtain ⟨b0, b3, rfl⟩ := c1.form
   let d3 : Value := (.slice b0 ((g.1).Kids).length b3)
   replace b := b.perm (Nb (Pb Pz) Nz)
   refine VO (jL (.agg #[(.int .i64 ((g.1).Op)), (.int .i64 ((g.1).K)), (.string (((g.1).jl).jq)), (.string (((g.1).jl).jv)), d3]) (#[(.int .i64 ((g.1).Op)), (.int .i64 ((g.1).K)), (.string (((g.1).jl).jq)), (.string (((g.1).jl).jv)), d3]) b D rfl aC oc nb rfl (fun g7 b => Wa (jU (kz (jH ?_)))))
   replace b := b.js (Kb (Db St))
   exact ⟨eI, g.2, ((g.1).Op), ((g.1).K), ((g.1).jl), d3, ((g.1).Kids), f0, _, ⟨rfl, eN⟩, (t.trans c9), (d.trans n), (b.js St), a2, D, rfl, b4, c1, (by rw [e2]; exact c)⟩
  rintro E W ⟨s, G, H, y, x, N, z, R, ⟨eI, eN⟩, t, d, b, a2, D, a3, b4, I, c⟩
  rw [bE] at c
  refine jH ?_
  obtain rfl := sj c
  exact ⟨x, z, _, t, d, (b.js St), a2, D, a3, I⟩
 rintro ⟨e8, Q, T, k, M⟩ E W ⟨q, U, c3, a8, l, b, p, e4, c6, b9⟩ B
 refine jI (sg (Wh c6 (Wi rfl (ln (CI B rfl (fun d4 B => ?_) (fun d4 B => ?_))))))
 ·refine sg (V (mr (v := (.agg C5.toArray)) tW (lM bG bZ (yK _ bZ) kr)) (Wh c6 ?_))
  replace b := b.perm (Nb (Pb Pz) Nz)
  refine VO (jL (.agg C5.toArray) (C5.toArray) b p rfl aC oc nb rfl (fun g0 b => Wa (ln ?_)))
  replace b := b.js (Kb (Db St))
  refine kv (kI ?_)
  obtain rfl := sj B
  exact vm (v0 := (.agg C5.toArray)) (v1 := (.int .i64 e8)) rfl p (jA b.has Mh C5 rfl bB aC) rfl ⟨_, _, _, rfl, (b.mi Sn), (a4.trans a8), (m.trans l), (ST.lf b (mS.mem Sn)), (.slice none 0 0), rfl, rfl, (Sl.nil _ _ _)⟩
 refine kg (V (jt e4 (jA b.has Mh [(.int .i64 Q), (.int .i64 T), (.string k.jq), (.string k.jv), q] rfl bB aC)) ?_)
 obtain ⟨J, K, rfl⟩ := b9.form
 let P := (C1 Q T k.jq k.jv J M.length K)
 replace b := b.perm (Nb (Pb Pz) Nz)
 refine VO (jL (.agg P.toArray) (P.toArray) b p rfl aC oc nb rfl (fun g1 b => Wa (ln ?_)))
 replace b := b.js (Kb (Db St))
 refine kv ?_
 obtain rfl := sj B
 exact vm (v0 := (.agg P.toArray)) (v1 := (.int .i64 0)) rfl p (jA b.has Mh P rfl bB aC) rfl ⟨_, _, _, rfl, (b.mi Sn), (a4.trans a8), (m.trans l), (ST.lf b (mS.mem Sn)), (.slice J M.length K), rfl, rfl, b9⟩
theorem LN (k : jX) (G H : Value) (p : jm) (r : (Formula × Int)) (w : World) {μ0 : jN} (h0 : nT μ0 [] w) (t : Sl jW 15 μ0 G k.jF) (y : Sl kQ 8 μ0 H k.jS) (hm : zX k p = some r) :
  lZ false pg0 44 [(.agg #[(.string k.Name), G, H]), (.agg (jr p).toArray)] w μ0 [] (fun v L1 μ1 => ∃ y1, v = (.tuple #[(.agg #[(.int .i64 ((r.1).Op)), (.int .i64 ((r.1).K)), (.string (((r.1).jl).jq)), (.string (((r.1).jl).jv)), y1]), (.int .i64 (r.2))]) ∧ L1 = [] ∧ Sl jo 5 μ1 y1 ((r.1).Kids)) := by
 refine vO h0 41 func44 rfl (fun b => sg ?_)
 obtain ⟨A1, c2, rfl⟩ := t.form
 obtain ⟨A3, c4, rfl⟩ := y.form
 let f5 := (C6 k.Name A1 k.jF.length c2 A3 k.jS.length c4)
 refine VE (kq b rfl (fun W6 b5 b => VE (kq b rfl (fun W8 b7 b => VE (kx b bG (fun i4 b9 b => Wa (lr (VA b (Mt (Mt Mh)) f5 fa dZ (VA b (Mt Mh) (jr p) bX aQ (bS hm fun a e7 hm => ?_))))))))))
 let b8 : Value := (.int .i64 (((a.1).jw).K))
 let q : Value := (.int .i64 (((a.1).jw).Op))
 let b1 := (((a.1).jw).jl)
 let s : Value := (.string (b1.jv))
 let d8 : Value := (.string (b1.jq))
 let a0 := (((a.1).Signed).jm)
 refine VE (eD b (bR _) call71 (fun L => (JG k (.slice A1 k.jF.length c2) (.slice A3 k.jS.length c4) p _ _ L (t.mono kc.mono (jR.refl _)) (y.mono mn.mono (jR.refl _)) e7)) ?_ (L0 := []))
 rintro _ j4 j8 i2 b I d ⟨j6, j7, a5, rfl, e9, c5⟩
 obtain rfl := a5.symm
 refine Wm (Wx rfl (Wx rfl (VE (kx b gp (fun i6 j3 b => ?_)))))
 obtain ⟨d9, e1, rfl⟩ := e9.form
 let f8 : Value := (.slice d9 (((a.1).Signed).Tag).length e1)
 obtain ⟨z, D, rfl⟩ := c5.form
 let a2 : Value := (.slice z (((a.1).jw).Kids).length D)
 refine VO (jL (.agg #[(.int .i64 (a0.Kind)), (.string ((a0.Head).jq)), (.string ((a0.Head).jv)), (.string (a0.km)), (.string ((a0.B).jq)), (.string ((a0.B).jv)), (.string ((a0.C).jq)), (.string ((a0.C).jv)), (.string (a0.kC)), f8, q, b8, d8, s, a2]) (#[(.int .i64 (a0.Kind)), (.string ((a0.Head).jq)), (.string ((a0.Head).jv)), (.string (a0.km)), (.string ((a0.B).jq)), (.string ((a0.B).jv)), (.string ((a0.C).jq)), (.string ((a0.C).jv)), (.string (a0.kC)), f8, q, b8, d8, s, a2]) b rfl rfl eL oc nb rfl (fun i7 b => Wa (lS (Wm (V (pa rfl) (ln (CI hm rfl (fun e6 hm => ?_) (fun e6 hm => ?_))))))))
 ·refine sg (V (mr (v := (.agg C5.toArray)) tW (lM bG bZ (yK _ bZ) kr)) ?_)
  replace b := b.perm (Nb (Pb Pz) Nz)
  refine VO (jL (.agg C5.toArray) (C5.toArray) b rfl rfl aC oc nb rfl (fun i8 b => Wa (ln ?_)))
  replace b := b.js (Kb (Db (Db (Db St))))
  refine kv (kI ?_)
  obtain rfl := sj hm
  exact vm (v0 := (.agg C5.toArray)) (v1 := (.int .i64 42)) rfl rfl (jA b.has Mh C5 rfl bB aC) rfl ⟨_, _, _, rfl, (b.mi Sn), I, d, (ST.lf b (mS.mem Sn)), (.slice none 0 0), rfl, rfl, (Sl.nil _ _ _)⟩
 refine kg (Wf Na (VA b Mh [q, b8, d8, s, a2] bB aC (VE (kp (cs := #[q, b8, d8, s, a2]) b (mD rfl) (mN aF aC bG) (fun i9 e0 b => Wa (ln ?_))))))
 replace b := b.js (Kb (Db St))
 refine jI (sg (VA b (Mt (Mt (Mt Mh))) f5 fa dZ (VA b (Mt (Mt Mh)) (jr p) bX aQ (bS hm fun c6 e8 hm => ?_))))
 refine VE (eD b (bR _) call72 (fun L => (Ii k (.slice A1 k.jF.length c2) (.slice A3 k.jS.length c4) p _ _ L (t.mono kc.mono I) (y.mono mn.mono I) e8)) ?_ (L0 := []))
 rintro _ j5 e2 i3 b a8 O ⟨f6, a6, rfl, R⟩
 obtain rfl := a6.symm
 refine V (lU dH rfl R) (Wm (ln ?_))
 replace b := b.js (Kb (Kb (Db (Db St))))
 replace b := b.D6
 refine lQ (fun i E W => ∃ Q N K Z, (E 27 = .int .i64 (i : Nat) ∧ E 26 = .int .i64 (c6.length : Nat)) ∧ ST false (keys []) w W e2 ((b9, Ol C5 30) :: (K ++ Z)) ∧ E 4 = (.pointer (some ⟨b9, 0, none⟩)) ∧ E 8 = Q ∧ E 25 = f6 ∧ kw 30 jo 5 e2 Q N K ∧ tF (c6.drop i) N = some r) c6.length R.len ⟨(.slice (some ⟨e0, 0, none⟩) 1 1), ([(a.1).jw]), [(e0, Ob #[q, b8, d8, s, a2] 30)], _, ⟨rfl, rfl⟩, (b.js (Sb (Pr Pz) St)), rfl, rfl, rfl, (kw.lit jD (l := [(a.1).jw]) (.cons (ys := [q, b8, d8, s, a2]) (jo.mk ⟨a2, rfl, (c5.mono jD.mono a8)⟩) .nil) rfl nb rfl), hm⟩ dc dc dc (fun _ _ _ h => by obtain ⟨_, _, _, _, aa, _⟩ := h; exact aa) ?_ ?_
 ·rintro f0 E W d0 ⟨Q, N, K, Z, ⟨eI, eN⟩, b, T, a3, a4, U, j⟩
  obtain ⟨c, f7, d6, d5, d7⟩ := lz d0
  rw [d6] at j
  refine bg (VQ (nh (i := (f0 : Int)) (x0 := c) kQ.out dH er a4 eI R (aX _) d5) (fun h2 ⟨_, ⟨h5, h6, rfl, a9, d3⟩, d1⟩ => V (jt rfl (kl b.has d1 isAgg82 er)) (VE (kx b iE (fun g0 g8 b => ?_)))))
  obtain ⟨u, x, rfl⟩ := a9.form
  let c7 := (C1 c.jw.Op c.jw.K c.jw.jl.jq c.jw.jl.jv u c.jw.Kids.length x)
  obtain ⟨b2, b6, rfl⟩ := d3.form
  let c0 := (RH c.jl.jq c.jl.jv c.jw.Op c.jw.K c.jw.jl.jq c.jw.jl.jv u c.jw.Kids.length x b2 c.mo.length b6)
  refine VO (jL (.agg c0.toArray) (c0.toArray) b rfl rfl er oc nb rfl (fun g1 b => ln (jC (Wh a3 (Wf M6 (VA b Mh c7 bB aC (VE (kp (cs := c7.toArray) b (mD rfl) (mN aF aC bG) (fun g2 g9 b => ?_)))))))))
  replace b := b.perm (Nr (Qb (Qb (Qb Qz))) Nz)
  refine bS j fun f1 c9 j => VE (vT (B := K) jD b dc aF oD.1 oD.2.1 rfl oD.2.2.1 oD.2.2.2 rfl rfl U (Bj.lit jD (l := [c.jw]) (.cons (ys := C1 c.jw.Op c.jw.K c.jw.jl.jq c.jw.jl.jv u c.jw.Kids.length x) (jo.mk ⟨(.slice u c.jw.Kids.length x), rfl, a9⟩) .nil) rfl nb (b.at_ (Ma Mh))) c9 (fun g3 f2 e3 b c8 => Wa (jU (kz (jH ?_)))))
  replace b := b.js (Kr (Db (Db St)))
  exact ⟨eI, f2, f1, e3, _, ⟨rfl, eN⟩, (b.js (Sb (Pr Pz) St)), T, rfl, a4, c8, (by rw [d7]; exact j)⟩
 rintro E W ⟨Q, N, K, Z, ⟨eI, eN⟩, b, T, a3, a4, U, j⟩
 rw [bE] at j
 refine jH (sg (Wh a3 ?_))
 replace b := b.perm (Nr (Qb Qz) Nz)
 obtain ⟨i0, b, c1, m, d4⟩ := ST.xZ jD b U
 refine bS j fun g d2 j => ?_
 let g4 : Value := (.int .i64 ((g.1).Op))
 let f4 : Value := (.string (((g.1).jl).jv))
 let f3 : Value := (.string (((g.1).jl).jq))
 refine VE (eD b (bR _) call73 (fun L => (JU Q N _ _ L (d4.mono jD.mono (jR.refl _)) d2)) ?_ (L0 := []))
 rintro _ h7 i1 f9 b c3 n ⟨h8, Y, rfl, b0⟩
 obtain rfl := Y.symm
 refine Wx rfl (Wx rfl ?_)
 obtain ⟨J, M, rfl⟩ := b0.form
 let P : Value := (.slice J ((g.1).Kids).length M)
 let b4 : Value := (.agg #[g4, (.int .i64 ((g.1).K)), f3, f4, P])
 refine VO (jL b4 (#[g4, (.int .i64 ((g.1).K)), f3, f4, P]) b T rfl aC oc nb rfl (fun g7 b => Wa (lt ?_)))
 obtain rfl := sj j
 exact vm (v0 := b4) (v1 := (.int .i64 g.2)) rfl T (jA b.has Mh [g4, (.int .i64 ((g.1).K)), f3, f4, P] rfl bB aC) rfl ⟨_, _, _, rfl, (b.mi Sn), (((I.trans a8).trans c1).trans c3), (((d.trans O).trans m).trans n), (ST.lf b (mS.mem Sn)), P, rfl, rfl, b0⟩
theorem Gq (N : jl) (Q D : Nat) (t : Value) (B : List (jl × (List (ByteArray × Bool)))) (a : Value) (j : List jm) (i : Value) (z : List (jl × (List jm))) (c : Value) (k : List (ByteArray × (List jm))) (g : Value) (u : List jE) (I : Int) (T : Nat) (Y : ByteArray) (r : Bool) (w : World) (M : ou (fun (x : jl) => (.agg (ju x).toArray)) (kZ Value.string (fun (x : Bool) => (Value.bool x))) (hp w) t B) (G : Sl (Pl jr) 9 (hp w) a j) (K : ou (fun (x : jl) => (.agg (ju x).toArray)) (jM 49 jr 9) (hp w) i z) (H : ou Value.string (jM 49 jr 9) (hp w) c k) (J : Sl (Pl lh) 3 (hp w) g u) (U : At (hp w) (.pointer (some ⟨D, 0, none⟩)) [t, a, i, c, g, (.int .i64 I)]) (Z : At (hp w) (.pointer (some ⟨Q, 0, none⟩)) [(.pointer (some ⟨D, 0, none⟩))]) (d : At (hp w) (.pointer (some ⟨T, 0, none⟩)) [(.string Y)]) (hm : py N B j z k u I Y = some r) :
  ke true pg0 70 [(.agg (ju N).toArray), (.pointer (some ⟨Q, 0, none⟩)), (.pointer (some ⟨T, 0, none⟩))] w (.bool r) := by
 refine cG 9 func70 rfl (fun b => sg (VE (kq b rfl (fun W2 h b => Wa (lr (V (jt rfl (oO b.has (y := (.pointer (some ⟨D, 0, none⟩))) Z isAgg106)) (VA b Mh (ju N) bQ aT (V (jt rfl (oO b.has (y := (.string Y)) d bU)) (bS hm fun l a2 hm => VE (Eg b call60 (xq D t B a j i z c k g u I N Y _ _ (M.mono b.jy) (G.mono (Pl.mono _) b.jy) (K.mono b.jy) (H.mono b.jy) (J.mono (Pl.mono _) b.jy) (U.mono b.jy) a2) (fun W5 b => Wa ?_)))))))))))
 refine ln ?_
 exact kv (rQ hm b)
theorem Dw (g : Value) (i r : List jm) (w : World) (a : Sl (Pl jr) 9 (hp w) g i) (hm : qQ i = some r) :
  mH true pg0 45 [g] w 49 jr 9 r := by
 unfold qQ at hm
 refine yc 8 func45 rfl (fun b => sg (Wa (lS (Wm ?_))))
 obtain ⟨y, B, rfl⟩ := a.form
 refine V (AS aJ rfl rfl) (ln ?_)
 rcases y with _ | z
 ·have u := a.isNil
  replace hm : some [] = some r := by rw [u] at hm; simpa [lP, maxLen] using hm
  refine we (rfl) (sg (Wa (lt (kI ?_))))
  obtain rfl := sj hm
  exact li (v := (.slice none 0 0)) rfl rfl ⟨_, [], rfl, b.qz (fun p d => by cases d) (by simp), jM.nil _ _ _⟩
 ·refine su (rfl) (kg (VE (kp (cs := #[]) b tW (Ak [] aJ aQ dn dc rfl (by simp) rfl rfl) (fun G k b => Wm (bS hm fun H t hm => VE (oC (enc := jr) (v := (.slice (some ⟨k, 0, none⟩) 0 0)) (vs := (.slice (some z) i.length B)) (R := [(k, Ob #[] 49)]) b kj dc nw aJ lT.1 lT.2.1 rfl lT.2.2.1 lT.2.2.2 rfl rfl (jM.lit (l := []) (enc := jr) rfl dc rfl rfl) (a.mono (Pl.mono _) b.jy) t (fun D x j b c => Wa (lt ?_))))))))
  obtain rfl := sj hm
  exact li (v := x) rfl rfl ⟨_, j, rfl, b.qz (fun p d => (Ml d)) c.nd, c⟩
theorem AO (g : Value) (t : List jm) (j : Value) (B : jm → Option Bool) (r : Int) (w : World) (c : Sl (Pl jr) 9 (hp w) g t) (D : zq pg0 j (hp w) (fun (x : jm) => [(.agg (jr x).toArray)]) (fun (r : Bool) => (.bool r)) B) (hm : tw t B = some r) :
  ke false pg0 69 [g, j] w (.int .i64 r) := by
 refine cG 19 func69 rfl (fun b => sg (Wa (lS (Wm (V (lU aJ rfl c) (Wm (ln (lQ (fun i E W => ∃ k, (E 8 = .int .i64 (i : Nat) ∧ E 7 = .int .i64 (t.length : Nat)) ∧ ST false kK w W (hp w) k ∧ E 0 = g ∧ E 1 = j ∧ om B (t.drop i) i = some r) t.length c.len ⟨_, ⟨rfl, rfl⟩, (b.js St), rfl, rfl, hm⟩ dc dc dc (fun _ _ _ h => by obtain ⟨_, l, _⟩ := h; exact l) ?_ ?_))))))))
 ·rintro Q E W H ⟨k, ⟨d, m⟩, b, u, y, a⟩
  obtain ⟨z, T, M, K, N⟩ := lz H
  rw [M] at a
  refine bg (Wh d (Wa (lr (Wh y (Wh u (Wm (VQ (qU (enc := jr) (i := (Q : Int)) (x0 := z) aJ aQ rfl rfl c (aX _) K) (fun Y I => V (jt rfl (kl b.has I bX aQ)) (bS a fun Z J a => ?_)))))))))
  refine VE (OD z b D (jR.refl _) rfl (tm rfl) J (fun U b => ln (CI a rfl (fun G a => ?_) (fun G a => ?_))))
  ·refine sg (Wm (Wa (lt (nt (kI (nt (kI ?_)))))))
   obtain rfl := sj a
   exact rP b
  exact lJ (kz (jH ⟨d, _, ⟨rfl, m⟩, (b.js St), u, y, (by rw [N]; exact a)⟩))
 rintro E W ⟨k, ⟨d, m⟩, b, u, y, a⟩
 rw [bE] at a
 exact jH (sg (Wa (lt (rQ a b))))
theorem vX (j : Value) (a0 : List jm) (t : LO) (H : Value) (f1 : jm → Option Bool) (r : List jm) (w : World) {μ0 : jN} (h0 : nT μ0 (t ++ []) w) (T : jM 49 jr 9 j a0 t) (a4 : zq pg0 H μ0 (fun (x : jm) => [(.agg (jr x).toArray)]) (fun (r : Bool) => (.bool r)) f1) (hm : oR a0 f1 = some r) :
  kA false pg0 41 [j, H] w (t ++ []) (fun v L1 W' => ∃ q S2, v = q ∧ L1 = (S2 ++ []) ∧ jM 49 jr 9 q r S2) := by
 refine xL h0 42 func41 rfl (fun d => sg (Wa (lr (Wm (Wm (bS hm fun n d3 hm => VE (Eg d call69 (AO j a0 H f1 _ _ (T.sl kj (fun b o h => d.at_ (Ml h))) (a4.mono d.jy) d3) (fun W3 d => Wa (ln ?_)))))))))
 refine jI (sg (Wm (Wi rfl (ln (CI hm rfl (fun d2 hm => ?_) (fun d2 hm => ?_))))))
 ·refine sg (Wm (Wa (lt (kI ?_))))
  obtain rfl := sj hm
  exact li (v := j) rfl rfl ⟨_, _, rfl, (d.mi (Kr Sn)), j, t, rfl, rfl, T⟩
 refine kS (Wm (Wi rfl (Wa (ln (kX (mT (fun m E W => ∃ U I B D a2, ST false (keys (t ++ [])) w W μ0 (I ++ a2) ∧ E 0 = j ∧ E 1 = H ∧ E 5 = (.int .i64 B) ∧ E 6 = (.int .i64 D) ∧ jM 49 jr 9 j U I ∧ nc f1 m U B D = some r) jP ⟨a0, t, n, (wi0 .i64 (n + 1)), _, (d.js St), rfl, rfl, rfl, rfl, T, hm⟩ ?_))))))
 rintro m E W ⟨U, I, B, D, a2, d, y, Q, G, K, g, a⟩
 cases m with
 | zero => rw [nc] at a; cases a
 | succ c8 =>
  refine jI (sg (Wh K (Wh y (V (oe aJ rfl g) (Wi rfl (ln (CI a rfl (fun L a => ?_) (fun L a => ?_))))))))
  ·refine kn (jI (CJ a (fun Y E W => ∃ J a3, ST false (keys (t ++ [])) w W μ0 (J ++ a3) ∧ E 0 = j ∧ E 1 = H ∧ E 5 = (.int .i64 Y.2) ∧ E 6 = (.int .i64 D) ∧ jM 49 jr 9 j Y.1 J) (fun Y c => ?_) ?_))
   ·refine bg (Wh y (Wh K (bS c fun k M c => VQ (rr (i := D) (x0 := k) aJ aQ rfl rfl g (kh M) (jY M)) (fun e4 R => V (jt rfl (vS d.has (fun p h => (Ml h)) g kj R (jY M) bX aQ)) (VE (kx d dn (fun d7 e2 d => VO (jL (.agg (jr k).toArray) ((jr k).toArray) d rfl rfl aQ (nw k) nb rfl (fun d8 d => lr (Wh Q ?_))))))))))
    refine VA d Mh (jr k) bX aQ (bS c fun e6 b5 c => VE (OD k d a4 (jR.refl _) rfl (tm rfl) b5 (fun d9 d => V (pa rfl) (ln (CI c rfl (fun O c => ?_) (fun O c => ?_))))))
    ·refine sg (Wh y (Wh G (VA d Mh (jr k) bX aQ (bS c fun d0 N c => VQ (rr (i := B) (x0 := d0) aJ aQ rfl rfl g (kh N) (jY N)) (fun e5 b4 => ?_)))))
     replace d := d.perm (Nr (Qb Qz) Nz)
     refine VO (Cg (u := (.agg (jr k).toArray)) (x1 := k)  d g kj nw rfl rfl rfl b4 (jY N) aQ (fun e0 c1 d s => ln ?_))
     replace d := d.js (Kr (Db St))
     refine jC (Wh G (Wi rfl (Wa (jU (kz (jH ?_))))))
     obtain rfl := sj c
     exact ⟨c1, _, (d.js St), y, Q, rfl, K, s⟩
    refine lJ (kz (jH ?_))
    obtain rfl := sj c
    exact ⟨I, _, (d.js (Db St)), y, Q, G, K, g⟩
   rintro ⟨c7, c9⟩ E W ⟨J, a3, d, c3, c4, c5, c6, b6⟩ P
   exact jC (Wh c6 (Wi rfl (Wa (ln ⟨c8, bn _, c7, J, c9, (wi0 .i64 (D + 1)), _, (d.js St), c3, c4, c5, rfl, b6, P⟩))))
  refine ng (mI (mI (rC (jH (sg (Wh y (Wh G (bS a fun _ Z a => VQ (yS (i := B) aJ aQ rfl rfl g (vI Z) (vw Z)) (fun e7 b7 => VO (BI (z := OV)  d g kj nw aJ dn b7 rfl rfl (fun e1 c2 d a9 => lr (Wh y ?_))))))))))))
  refine Wh G (bS a fun _ l a => VQ (AZ (i := B) aJ aQ rfl rfl a9 kj (vI l) (vw l)) (fun a5 b9 => Wa (lt ?_)))
  obtain rfl := sj a
  exact li (v := a5) rfl rfl ⟨_, _, rfl, (d.mi (Kr Sn)), a5, c2, rfl, rfl, b9⟩
theorem H3 (a : jm) (r : Bool) (w : World) (hm : wV a = some r) :
  ke true pg0 46 [(.agg (jr a).toArray)] w (.bool r) := by
 refine cG 6 func46 rfl (fun b => sg (VE (kq b rfl (fun g j b => Wa (lr (VA b Mh (jr a) bX aQ (bS hm fun k c hm => VE (Eg b call47 (yj a _ _  c) (fun i b => V (pa rfl) (Wa (jU ?_)))))))))))
 refine jH ?_
 exact kv (rQ hm b)
theorem Mz (c : Value) (k : List jm) (a : LO) (g : Value) (t : (jm × jm) → Option Int) (r : List jm) (w : World) {y : jN} (u : nT y (a ++ []) w) (i : jM 49 jr 9 c k a) (j : Jk pg0 g y (fun (x : (jm × jm)) => [(.agg (jr x.1).toArray), (.agg (jr x.2).toArray)]) (fun (r : Int) => (.int .i64 r)) t) (hm : yW t k = some r) :
  kA true pg0 48 [c, g] w (a ++ []) (fun v z W' => ∃ S, v = (.tuple #[]) ∧ z = (S ++ []) ∧ jM 49 jr 9 c r S) := J3 (P := pg0) (ρ := O4) Sy 9 bX aQ jr kj nw u.H u.S i j hm
theorem En (c : jm) (r : List Int) (w : World) (hm : vR c = some r) :
  mH true pg0 80 [(.agg (jr c).toArray)] w 5 (kP .u8) 1 r := by
 refine yc 53 func80 rfl (fun d => sg (VE (kq d rfl (fun W2 b1 d => Wa (lS (VA d Mh (jr c) bX aQ (bS hm fun r3 g3 hm => VE (Eg d call47 (yj c _ _  g3) (fun W5 d => V (pa rfl) (jU ?_))))))))))
 refine jH (CI hm rfl (fun g0 hm => ?_) (fun g0 hm => ?_))
 ·refine sg (Wa (ln ?_))
  replace d := d.js (Db St)
  refine kv (kI ?_)
  obtain rfl := sj hm
  exact li (v := (.slice none 0 0)) rfl rfl ⟨_, [], rfl, d.qz (fun p m => by cases m) (by simp), jM.nil _ _ _⟩
 refine kg (V (mr (v := (.agg #[(.slice none 0 0)])) tW (lM zeroValue168 fV (Pe _ fV) kr)) (VE (kq d rfl (fun W8 g d => Wa (lr (Wm (Wf rG (VB d (Mt Mh) rfl rfl cJ (bS hm fun r9 e2 hm => ?_)))))))))
 refine VE (eM d (Cb Pz (C0 Cn)) call113 (fun l _ => (qP g (.slice none 0 0) ([]) [] c.Kind _ _ l (jM.nil _ _ _) e2)) ?_)
 rintro _ k3 k5 j9 d g7 a6 h ⟨g4, f9, I, rfl, e4⟩
 obtain rfl := I.symm
 replace d := d.perm (Tb (Tr Tn))
 refine lr (Wm (Wf rW (VA d (Mt (Ma Mh)) (ju c.Head) bQ aT (bS hm fun N e3 hm => ?_))))
 refine VE (eM d (Cb Pz (Cr Qz Cn)) call114 (fun l _ => (uD g g4 r9.2 f9 c.Head _ _ l e4 e3)) ?_)
 rintro _ k4 d1 k0 d g8 a7 h ⟨G, D, J, rfl, i⟩
 obtain rfl := J.symm
 replace d := d.perm (Tb (Tr Tn))
 refine ln (jI (CJ hm (fun a3 E W => ∃ B H K Q, jR d1 K ∧ ST true kK w W K ((g, Ob #[B] 168) :: (H ++ Q)) ∧ E 3 = (.pointer (some ⟨g, 0, none⟩)) ∧ jM 5 (kP .u8) 1 B a3 H) (fun a3 a => ?_) ?_))
 ·refine sg (Wf rG (VB d (Mt (Ma Mh)) rfl rfl cJ (ln (bg (Wi rfl (Wa (ln (CI a rfl (fun b0 a => ?_) (fun b0 a => ?_)))))))))
  ·refine jC (Wm (Wf ya (VB d (Mt (Ma Mh)) rfl rfl bU (bS a fun i3 b6 a => ?_))))
   refine VE (eM d (Cb Pz (Cr Qz Cn)) call115 (fun l _ => (xO g G N.2 D c.km _ _ l i b6)) ?_)
   rintro _ i8 f5 g9 d T q h ⟨e9, d3, k, rfl, c5⟩
   obtain rfl := k.symm
   replace d := d.perm (Tb (Tr Tn))
   refine jU (kz (jH ?_))
   obtain rfl := sj a
   exact ⟨e9, d3, f5, _, T, (d.js (Kb (Kr (Db St)))), rfl, c5⟩
  refine sg (Wi rfl (Wa (ln (CI a rfl (fun b2 a => ?_) (fun b2 a => ?_)))))
  ·refine jC (Wm (Wf nV (VA d (Mt (Ma Mh)) (ju c.B) bQ aT (bS a fun i4 b9 a => ?_))))
   refine VE (eM d (Cb Pz (Cr Qz Cn)) call114 (fun l _ => (uD g G N.2 D c.B _ _ l i b9)) ?_)
   rintro _ i9 f6 h0 d U s h ⟨f0, d4, t, rfl, c6⟩
   obtain rfl := t.symm
   replace d := d.perm (Tb (Tr Tn))
   refine jU (kz (jH ?_))
   obtain rfl := sj a
   exact ⟨f0, d4, f6, _, U, (d.js (Kb (Kr (Db St)))), rfl, c6⟩
  refine sg (Wi rfl (Wa (ln (CI a rfl (fun b3 a => ?_) (fun b3 a => ?_)))))
  ·refine sg (Wm (Wf nV (VA d (Mt (Ma Mh)) (ju c.B) bQ aT (bS a fun e6 c0 a => ?_))))
   refine VE (eM d (Cb Pz (Cr Qz Cn)) call114 (fun l _ => (uD g G N.2 D c.B _ _ l i c0)) ?_)
   rintro _ j0 j7 h1 d Y L h ⟨f1, d5, u, rfl, c7⟩
   obtain rfl := u.symm
   replace d := d.perm (Tb (Tr Tn))
   refine ln (jC (Wm (Wf um (VB d (Mt (Ma Mh)) rfl rfl bU (bS a fun i5 c1 a => ?_)))))
   refine VE (eM d (Cb Pz (Cr Qz Cn)) call115 (fun l _ => (xO g f1 e6.2 d5 c.kC _ _ l c7 c1)) ?_)
   rintro _ j3 f7 h2 d Z O h ⟨f2, d6, x, rfl, c8⟩
   obtain rfl := x.symm
   replace d := d.perm (Tb (Tr Tn))
   refine jU (kz (jH ?_))
   obtain rfl := sj a
   exact ⟨f2, d6, f7, _, (Y.trans Z), (d.js (Kb (Kr (Db St)))), rfl, c8⟩
  refine sg (Wi rfl (Wa (ln (CI a rfl (fun b4 a => ?_) (fun b4 a => ?_)))))
  ·refine sg (Wm (Wf nV (VA d (Mt (Ma Mh)) (ju c.B) bQ aT (bS a fun e7 c2 a => ?_))))
   refine VE (eM d (Cb Pz (Cr Qz Cn)) call114 (fun l _ => (uD g G N.2 D c.B _ _ l i c2)) ?_)
   rintro _ j4 j8 h3 d a1 P h ⟨f3, d7, y, rfl, c9⟩
   obtain rfl := y.symm
   replace d := d.perm (Tb (Tr Tn))
   refine ln (jC (Wm (Wf sW (VA d (Mt (Ma Mh)) (ju c.C) bQ aT (bS a fun i6 c3 a => ?_)))))
   refine VE (eM d (Cb Pz (Cr Qz Cn)) call114 (fun l _ => (uD g f3 e7.2 d7 c.C _ _ l c9 c3)) ?_)
   rintro _ j5 f8 h4 d a2 R h ⟨f4, d8, z, rfl, d0⟩
   obtain rfl := z.symm
   replace d := d.perm (Tb (Tr Tn))
   refine jU (kz (jH ?_))
   obtain rfl := sj a
   exact ⟨f4, d8, f8, _, (a1.trans a2), (d.js (Kb (Kr (Db St)))), rfl, d0⟩
  refine lJ (kz (jH ?_))
  obtain rfl := sj a
  exact ⟨G, D, d1, _, (jR.refl _), (d.js (Kb (Kr (Db St)))), rfl, i⟩
 rintro e5 E W ⟨B, H, K, Q, g1, d, d9, c4⟩ j
 refine sg (Wh d9 (bS j fun i2 b5 j => VE (vE d call116 (Av g B e5 _ _ (c4.sl (fun _ => rfl) (fun b o m => d.at_ (Mt (Ml m)))) (At.of (d.at_ Mh) _ rfl) b5) (fun h5 e8 j6 d2 d g2 n M => Wa (ln ?_)))))
 replace d := d.js (Kr (Db (Dr St)))
 refine kv ?_
 obtain rfl := sj j
 exact li (v := e8) rfl rfl ⟨_, d2, rfl, d.qz (fun p m => (Ml m)) M.nd, M⟩
theorem G5 (g i : jm) (r : Int) (w : World) (hm : sL g i = some r) :
  ke true pg0 49 [(.agg (jr g).toArray), (.agg (jr i).toArray)] w (.int .i64 r) := by
 refine cG 10 func49 rfl (fun d => sg (VE (kq d rfl (fun T Y d => VE (kq d rfl (fun U Z d => Wa (ln (jI ?_))))))))
 replace d := d.drew
 have h := d.has.js (Kb (Kb Sn))
 refine kN h ki (XH 0 rfl h (fun _ l => jt rfl (jA l (Mt Mh) (jr g) rfl bX aQ)) (XH 2 rfl h (fun _ l => jt rfl (jA l Mh (jr i) rfl bX aQ)) (bS hm fun y t hm => XE 1 rfl (vE d call80 (En g _ _  t) (fun I B N G d a n j => ?_)))))
 have h := d.has.zB a (Dr (Kb (Kb Sn)))
 refine ⟨h, (bS hm fun z u hm => XE 3 rfl (vE d call80 (En i _ _  u) (fun J D Q H d c p k => ?_)))⟩
 have h := d.has.zB (a.trans c) (Dr (Dr (Kb (Kb Sn))))
 refine ⟨h, (bS hm fun M x hm => XE 4 rfl (Eg d call79 (A4 B y D z _ _ (j.sl (fun _ => rfl) (fun b o m => d.at_ (Ma (Ml m)))) (k.sl (fun _ => rfl) (fun b o m => d.at_ (Ml m))) x) (fun K d => ?_)))⟩
 have h := d.has.zB (a.trans c) (Dr (Dr (Kb (Kb Sn))))
 refine ⟨h, (X 5 rfl h (ma rfl) (kM kr (jH ?_)))⟩
 exact kv (rQ hm d)
theorem Ce (j : Value) (a0 : List jm) (x : LO) (r : List jm) (w : World) {μ0 : jN} (h0 : nT μ0 (x ++ []) w) (B : jM 49 jr 9 j a0 x) (hm : rK a0 = some r) :
  kA true pg0 50 [j] w (x ++ []) (fun v L1 W' => ∃ y1 S2, v = y1 ∧ L1 = (S2 ++ []) ∧ jM 49 jr 9 y1 r S2) := by
 refine xL h0 61 func50 rfl (fun b => sg (Wa (lS (Wm (V (oe aJ rfl B) (Wi rfl (ln (CI hm rfl (fun g0 hm => ?_) (fun g0 hm => ?_)))))))))
 ·refine sg (Wm (Wa (lt (kI ?_))))
  obtain rfl := sj hm
  exact li (v := j) rfl rfl ⟨_, _, rfl, (b.mi (Kr Sn)), j, x, rfl, rfl, B⟩
 refine kS (Wa (ln (kX (mT (fun m E W => ∃ t b4, ST true (keys (x ++ [])) w W μ0 (x ++ b4) ∧ E 0 = j ∧ E 3 = (.int .i64 t) ∧ nN a0 m t = some r) jP ⟨1, _, (b.js St), rfl, rfl, hm⟩ ?_))))
 rintro m E W ⟨t, b4, b, D, H, a⟩
 cases m with
 | zero => rw [nN] at a; cases a
 | succ f5 =>
  refine jI (sg (Wh H (Wh D (V (oe aJ rfl B) (Wi rfl (ln (CI a rfl (fun d0 a => ?_) (fun d0 a => ?_))))))))
  ·refine kn (jI (kX (jI ?_)))
   replace b := b.drew
   have d := b.has.js (Kr Sn)
   refine kN d ki (X 0 rfl d (jx D) (X 1 rfl d (jx H) (bS a fun c3 Z a => XQ 2 rfl d (rr (i := t) (x0 := c3) aJ aQ rfl rfl B (kh Z) (jY Z)) (fun g7 d6 => XH 3 rfl d (fun _ l => jt rfl (vS l (fun p h => (Ml h)) B kj d6 (jY Z) bX aQ)) (X 4 rfl d (jx D) (X 5 rfl d (jx H) (X 6 rfl d (ko rfl rfl rfl) (bS a fun c4 n a => XQ 7 rfl d (rr (i := (wi0 .i64 (t - 1))) (x0 := c4) aJ aQ rfl rfl B (kh n) (jY n)) (fun g8 d7 => XH 8 rfl d (fun _ l => jt rfl (vS l (fun p h => (Ml h)) B kj d7 (jY n) bX aQ)) (X 9 rfl d (wU rfl rfl (pu fW) (tH (yN _ c3 c4))) (kM kr (jH ?_))))))))))))
   refine CI a rfl (fun d1 a => ?_) (fun d1 a => ?_)
   ·refine sg (Wh D (Wh H (bS a fun _ O a => VQ (yS (i := t) aJ aQ rfl rfl B (vI O) (vw O)) (fun c1 M => Wa (lS (Wa (ln ?_)))))))
    refine CJ a (fun U E W => ∃ q b5, ST true (keys (x ++ [])) w W μ0 (q ++ b5) ∧ E 0 = j ∧ E 3 = (.int .i64 U.2) ∧ jM 49 jr 9 j U.1 q) (fun U d4 => ?_) ?_
    ·refine kX (mT (fun m E W => ∃ s K Y y b6, ST true (keys (x ++ [])) w W μ0 (K ++ b6) ∧ E 0 = j ∧ E 3 = (.int .i64 Y) ∧ E 4 = c1 ∧ E 5 = (.int .i64 y) ∧ jM 49 jr 9 j s K ∧ nK t m s Y y = some U) jP ⟨a0, x, t, 1, _, (b.js St), D, H, rfl, rfl, B, d4⟩ ?_)
     rintro m E W ⟨s, K, Y, y, b6, b, Q, T, I, J, g, k⟩
     cases m with
     | zero => rw [nK] at k; cases k
     | succ f6 =>
      refine jI (sg (Wh J (Wh I (V (HC aJ rfl M g) (Wi rfl (ln (CI k rfl (fun d2 k => ?_) (fun d2 k => ?_))))))))
      ·refine kn (jI (CJ k (fun L E W => ∃ N b7, ST true (keys (x ++ [])) w W μ0 (N ++ b7) ∧ E 0 = j ∧ E 3 = (.int .i64 L.2) ∧ E 4 = c1 ∧ E 5 = (.int .i64 y) ∧ jM 49 jr 9 j L.1 N) (fun L c => ?_) ?_))
       ·refine kX (jI ?_)
        replace b := b.drew
        have d := b.has.js (Kr Sn)
        refine kN d ki (X 0 rfl d (jx I) (X 1 rfl d (jx J) (bS c fun c6 a2 c => XQ 2 rfl d (za (i := y) (x0 := c6) aJ aQ rfl rfl g M (kh a2) (jY a2)) (fun g9 d8 => XH 3 rfl d (fun _ l => jt rfl (vS l (fun p h => (Ml h)) g kj d8 (AI (jY a2)) bX aQ)) (X 4 rfl d (jx I) (X 5 rfl d (jx J) (X 6 rfl d (ko rfl rfl rfl) (bS c fun c7 a3 c => XQ 7 rfl d (za (i := (wi0 .i64 (y - 1))) (x0 := c7) aJ aQ rfl rfl g M (kh a3) (jY a3)) (fun h1 d9 => XH 8 rfl d (fun _ l => jt rfl (vS l (fun p h => (Ml h)) g kj d9 (AI (jY a3)) bX aQ)) (X 9 rfl d (O9 rfl rfl (pu fW) (Kf (yN _ c6 c7))) (kM kr (jH ?_))))))))))))
        refine CI c rfl (fun d3 c => ?_) (fun d3 c => ?_)
        ·refine sg (Wh Q (Wh T (Wh I (Wh J (bS c fun a9 a4 c => VQ (za (i := y) (x0 := a9) aJ aQ rfl rfl g M (kh a4) (jY a4)) (fun h2 e0 => V (jt rfl (vS b.has (fun p h => (Ml h)) g kj e0 (AI (jY a4)) bX aQ)) (bS c fun f8 a5 c => VQ (rr (i := Y) (x0 := f8) aJ aQ rfl rfl g (kh a5) (jY a5)) (fun h3 e1 => VO (Cg (u := (.agg (jr a9).toArray)) (x1 := a9)  b g kj nw rfl rfl rfl e1 (jY a5) aQ (fun g3 e8 b c9 => ln (jC ?_)))))))))))
         refine Wh T (Wi rfl (Wa (jU (kz (jH ?_)))))
         obtain rfl := sj c
         exact ⟨e8, _, (b.js St), Q, rfl, I, J, c9⟩
        refine lJ (kz (jH ?_))
        obtain rfl := sj c
        exact ⟨K, _, (b.js St), Q, T, I, J, g⟩
       rintro ⟨f4, f7⟩ E W ⟨N, b7, b, f0, f1, f2, f3, e4⟩ d5
       exact jC (Wh f3 (Wi rfl (Wa (ln ⟨f6, bn _, f4, N, f7, (wi0 .i64 (y + 1)), _, (b.js St), f0, f1, f2, rfl, e4, d5⟩))))
      refine ng (mI (mI (rC (jH ?_))))
      obtain rfl := sj k
      exact ⟨K, _, (b.js St), Q, T, g⟩
    rintro ⟨g4, c5⟩ E W ⟨q, b5, b, b9, c0, b3⟩ G
    refine sg (Wh b9 (Wh c0 (bS G fun _ P G => VQ (yS (i := c5) aJ aQ rfl rfl b3 (vI P) (vw P)) (fun h4 e2 => VO (BI (z := OV)  b b3 kj nw aJ dn e2 rfl rfl (fun g2 e7 b c8 => lr (Wh b9 (Wh c0 (bS G fun _ R G => VQ (AZ (i := c5) aJ aQ rfl rfl c8 kj (vI R) (vw R)) (fun c2 e3 => ?_))))))))))
    refine Wa (lt (nt (kI (kI (nt (kI ?_))))))
    obtain rfl := sj G
    exact li (v := c2) rfl rfl ⟨_, _, rfl, (b.mi (Kr Sn)), c2, e7, rfl, rfl, e3⟩
   exact lJ (kz (jH (jC (Wh H (Wi rfl (Wa (ln ⟨f5, bn _, (wi0 .i64 (t + 1)), _, (b.js St), D, rfl, a⟩)))))))
  refine ng (mI (mI (rC (jH (sg (Wh D (Wa (lt ?_))))))))
  obtain rfl := sj a
  exact li (v := j) rfl rfl ⟨_, _, rfl, (b.mi (Kr Sn)), j, x, rfl, rfl, B⟩
theorem Cy (i : Value) (t r : List jm) (w : World) (B : Sl (Pl jr) 9 (hp w) i t) (hm : tQ t = some r) :
  mH false pg0 27 [i] w 49 jr 9 r := by
 refine yc 11 func27 rfl (fun b => sg (Wa (lr (Wm (bS hm fun y T hm => VE (vE b call45 (mH.lR (Dw i t _ _ (B.mono (Pl.mono _) b.jy) T)) (fun W3 v7 z R8 b a5 q Q => bS hm fun U D hm => ?_)))))))
 refine VE (eM b (Cr Qz Cn) call41 (fun h _ => (vX v7 y R8 (.func (.func 46) #[] #[]) (fun (x : jm) => wV x) _ _ h Q ⟨46, #[], #[], rfl, call46, fun W x r u hm => (H3 x r W  hm).lR⟩ D)) ?_)
 rintro _ R b9 L b E l d ⟨k, K, a, rfl, I⟩
 obtain rfl := a.symm
 replace b := b.perm (Tr Tn)
 refine Wa (lr (Wm (bS hm fun Y G hm => ?_)))
 refine VE (eM b (Cr Qz Cn) call48 (fun h _ => kA.lR (Mz k U K (.func (.func 49) #[] #[]) (fun (x : (jm × jm)) => sL x.1 x.2) _ _ h I ⟨49, #[], rfl, call49, fun W x r u hm => G5 x.1 x.2 r W  hm⟩ G)) ?_)
 rintro _ b6 c0 a9 b a2 m d ⟨M, c, rfl, J⟩
 obtain rfl := c.symm
 replace b := b.perm (Tr Tn)
 refine lr (Wm (bS hm fun P H hm => ?_))
 refine VE (eM b (Cr Qz Cn) call50 (fun h _ => kA.lR (Ce k Y M _ _ h J H)) ?_)
 rintro _ b7 c1 O b a3 n d ⟨Z, N, g, rfl, j⟩
 obtain rfl := g.symm
 replace b := b.perm (Tr Tn)
 refine Wa (lt ?_)
 obtain rfl := sj hm
 exact li (v := Z) rfl rfl ⟨_, N, rfl, b.qz (fun p s => (Ml s)) j.nd, j⟩
theorem xN (k : jX) (H K c1 : Value) (P : List jm) (a2 : ByteArray) (r : List jm) (w : World) (g : Sl jW 15 (hp w) H k.jF) (J : Sl kQ 8 (hp w) K k.jS) (h5 : Sl (Pl jr) 9 (hp w) c1 P) (hm : oQ k P a2 = some r) :
  mH false pg0 26 [(.agg #[(.string k.Name), H, K]), c1, (.string a2)] w 49 jr 9 r := by
 refine yc 47 func26 rfl (fun d => sg ?_)
 obtain ⟨A1, c2, rfl⟩ := g.form
 let c8 : Value := (.slice A1 k.jF.length c2)
 obtain ⟨A3, c4, rfl⟩ := J.form
 let b1 := (C6 k.Name A1 k.jF.length c2 A3 k.jS.length c4)
 refine VE (kq d rfl (fun W6 L d => Wa (lr (Wm (Wm (bS hm fun B i5 hm => ?_))))))
 refine VE (yb d (bR _) call43 (fun _ _ _ _ => (Jq c1 P a2 _ _ (h5.mono (Pl.mono _) d.jy) i5)) (fun W9 l1 g4 l0 d a5 af ae h4 => ?_) (L0 := []))
 obtain ⟨N, q, e0, f9, e1, g0, e2, g1, e3, g2, e4, g3, Q, c0, rfl, h6, h7, h8, h9, i0⟩ := h4
 replace c0 := c0.symm; subst c0
 replace d := d.perm (Tb (Tb (Tb (Tr (Tr (Tr (Tr (Tr Tn))))))))
 refine Wa (lr (Wa (lS (Wf DJ (VB d (Mt (Mt (Mt (Ma (Ma (Ma (Ma (Ma Mh)))))))) rfl rfl isAgg22 (V (lU fu rfl g) (Wm ?_)))))))
 refine ln (lQ (fun i E W => ∃ D I G s b4, (E 19 = .int .i64 (i : Nat) ∧ E 18 = .int .i64 (k.jF.length : Nat)) ∧ jR g4 s ∧ ST false kK w W s ((N, Ob #[(.pointer (some ⟨q, 0, none⟩))] 106) :: ((q, Ob #[e0, e1, e2, e3, e4, (.int .i64 B.2.2.2.2.2.1)] 135) :: ((Q, Ob #[(.string B.2.2.2.2.2.2)] 9) :: ((L, Ol b1 25) :: (G ++ (f9 ++ (g0 ++ (g1 ++ (g2 ++ (g3 ++ b4)))))))))) ∧ E 3 = (.pointer (some ⟨L, 0, none⟩)) ∧ E 7 = (.func (.func 70) #[] #[(.pointer (some ⟨N, 0, none⟩)), (.pointer (some ⟨Q, 0, none⟩))]) ∧ E 8 = D ∧ E 17 = c8 ∧ jM 49 jr 9 D I G ∧ qt k B (k.jF.drop i) I = some r) k.jF.length g.len ⟨(.slice none 0 0), ([]), [], g4, _, ⟨rfl, rfl⟩, (jR.refl _), (d.js (Kb (Kb (Kb (Sb (Pr (Pr (Pr (Pr (Pr Pz))))) St))))), rfl, rfl, rfl, rfl, (jM.nil _ _ _), hm⟩ dc dc dc (fun _ _ _ h => by obtain ⟨_, _, _, _, _, aa, _⟩ := h; exact aa) ?_ ?_)
 ·let b6 : Value := (.func (.func 70) #[] #[(.pointer (some ⟨N, 0, none⟩)), (.pointer (some ⟨Q, 0, none⟩))])
  rintro d8 E W f0 ⟨D, I, G, s, b4, ⟨O, eN⟩, u, d, Y, Z, a3, a4, M, j⟩
  obtain ⟨a, i6, f8, f7, c6⟩ := lz f0
  rw [f8] at j
  refine bg (VQ (nh (i := (d8 : Int)) (x0 := a) jW.out fu eL a4 O (g.mono kc.mono (a5.trans u)) (aX _) f7) (fun k1 ⟨_, ⟨k4, k5, rfl, f5, f6⟩, f1⟩ => V (jt rfl (kl d.has f1 isAgg63 eL)) (VE (kx d gp (fun i9 d0 d => ?_)))))
  obtain ⟨b2, b7, rfl⟩ := f5.form
  obtain ⟨b3, b9, rfl⟩ := f6.form
  let a0 := (C3 a.Signed.jm.Kind a.Signed.jm.Head.jq a.Signed.jm.Head.jv a.Signed.jm.km a.Signed.jm.B.jq a.Signed.jm.B.jv a.Signed.jm.C.jq a.Signed.jm.C.jv a.Signed.jm.kC b2 a.Signed.Tag.length b7 a.jw.Op a.jw.K a.jw.jl.jq a.jw.jl.jv b3 a.jw.Kids.length b9)
  refine VO (jL (.agg a0.toArray) (a0.toArray) d rfl rfl eL oc nb rfl (fun j0 d => lr (V (jt Y (jA d.has (Mt (Mt (Mt (Mt Mh)))) b1 rfl fa dZ)) (Wf FJ (Wf GG (VA d Mh (jr a.Signed.jm) bX aQ (bS j fun c f2 j => ?_)))))))
  let e5 : Value := (.string (((c.1).jl).jv))
  let d1 : Value := (.string (((c.1).jl).jq))
  refine VE (eD d (bR _) call44 (fun hh => (LN k c8 (.slice A3 k.jS.length c4) a.Signed.jm _ _ hh (g.mono kc.mono (a5.trans u)) (J.mono mn.mono (a5.trans u)) f2)) ?_ (L0 := []))
  rintro _ k6 c3 i8 d a9 ab ⟨k8, a6, rfl, c7⟩
  obtain rfl := a6.symm
  refine Wm (Wx rfl (Wx rfl (VE (kx d bG (fun j4 k0 d => ?_)))))
  obtain ⟨T, U, rfl⟩ := c7.form
  let b8 : Value := (.slice T ((c.1).Kids).length U)
  refine VO (jL (.agg #[(.int .i64 ((c.1).Op)), (.int .i64 ((c.1).K)), d1, e5, b8]) (#[(.int .i64 ((c.1).Op)), (.int .i64 ((c.1).K)), d1, e5, b8]) d rfl rfl aC oc nb rfl (fun j5 d => Wa (lr (Wm (Wi rfl (Wm (LJ j (fun d9 E W => ∃ c9, ST false kK w W c3 ((d0, Ol a0 63) :: ((N, Ob #[(.pointer (some ⟨q, 0, none⟩))] 106) :: ((q, Ob #[e0, e1, e2, e3, e4, (.int .i64 B.2.2.2.2.2.1)] 135) :: ((Q, Ob #[(.string B.2.2.2.2.2.2)] 9) :: ((L, Ol b1 25) :: (G ++ (f9 ++ (g0 ++ (g1 ++ (g2 ++ (g3 ++ c9))))))))))) ∧ E 3 = (.pointer (some ⟨L, 0, none⟩)) ∧ E 7 = b6 ∧ E 8 = D ∧ E 10 = (.pointer (some ⟨d0, 0, none⟩)) ∧ E 17 = c8 ∧ E 18 = (.int .i64 (k.jF.length : Int)) ∧ E 19 = (.int .i64 (d8 : Int)) ∧ E 37 = (.bool d9)) 4 ?_ (fun d9 z b0 => ?_))))))))
  ·rintro k7 E W ⟨c9, d, d2, d3, d4, h2, d5, d6, d7, h3⟩ y
   refine ln (CI y h3 (fun e8 y => ?_) (fun e8 y => ?_))
   ·refine jC (Wh d4 (V (jB FJ h2) (Wf GG (VA d Mh (jr a.Signed.jm) bX aQ (VE (kp (cs := (jr a.Signed.jm).toArray) d (mD rfl) (mN aJ aQ dn) (fun j6 h1 d => ?_)))))))
    replace d := d.perm (Nr (Qb (Qb (Qb (Qb (Qb (Qb Qz)))))) Nz)
    refine bS y fun i1 e9 y => VE (oC (enc := jr) (v := D) (vs := (.slice (some ⟨h1, 0, none⟩) 1 1)) (R := G) d kj dc nw aJ lT.1 lT.2.1 rfl lT.2.2.1 lT.2.2.2 rfl rfl M (Sl.lit (enc := jr) (l := [a.Signed.jm]) kj rfl nb rfl (d.at_ (Ma Mh))) e9 (fun j7 i2 g7 d e7 => Wa (jU (kz (jH ?_)))))
    replace d := d.js (Kr (Db (Db St)))
    exact ⟨d7, i2, i1, g7, c3, _, ⟨rfl, d6⟩, (u.trans a9), (d.js (Sb (Pr Pz) (Sb (Pr Pz) (Sb (Pr Pz) (Sb (Pr Pz) St))))), d2, d3, rfl, d5, e7, (by rw [c6]; exact y)⟩
   refine lJ (kz (jH ?_))
   replace d := d.js (Db St)
   exact ⟨d7, D, I, G, c3, _, ⟨rfl, d6⟩, (u.trans a9), (d.js St), d2, d3, d4, d5, M, (by rw [c6]; exact y)⟩
  refine bC z (fun t z => ?_) (fun t z => ?_)
  ·refine ug t (jt rfl (jA d.has Mh [(.int .i64 ((c.1).Op)), (.int .i64 ((c.1).K)), d1, e5, b8] rfl bB aC)) (ug t (jx Z) (bS z fun k2 f3 z => ue t (Eg d call34 (yy c.1 b8 b6 (fun (x : jl) => py x B.1 B.2.1 B.2.2.1 B.2.2.2.1 B.2.2.2.2.1 B.2.2.2.2.2.1 B.2.2.2.2.2.2) _ _ (c7.mono jD.mono d.jy) ⟨70, #[], #[(.pointer (some ⟨N, 0, none⟩)), (.pointer (some ⟨Q, 0, none⟩))], rfl, call70, fun W x r n hm => (Gq x N q e0 B.1 e1 B.2.1 e2 B.2.2.1 e3 B.2.2.2.1 e4 B.2.2.2.2.1 B.2.2.2.2.2.1 Q B.2.2.2.2.2.2 r W (h6.at (fun b o m => n _ _ ((fun b o m => d.at_ (Mt (Mt (Mt (Mt (Mt (Mt (Ma (Ml m))))))))) b o m))) (h7.sl kj (fun b o m => n _ _ ((fun b o m => d.at_ (Mt (Mt (Mt (Mt (Mt (Mt (Ma (Ma (Ml m)))))))))) b o m))) (h8.at (fun b o m => n _ _ ((fun b o m => d.at_ (Mt (Mt (Mt (Mt (Mt (Mt (Ma (Ma (Ma (Ml m))))))))))) b o m))) (h9.at (fun b o m => n _ _ ((fun b o m => d.at_ (Mt (Mt (Mt (Mt (Mt (Mt (Ma (Ma (Ma (Ma (Ml m)))))))))))) b o m))) ((i0.BV wo).mono (Pl.mono _) (lN (fun b o m => n _ _ ((fun b o m => d.at_ (Mt (Mt (Mt (Mt (Mt (Mt (Ma (Ma (Ma (Ma (Ma (Ml m))))))))))))) b o m)))) (At.of (n _ _ (d.at_ (Mt (Mt (Mt Mh))))) _ rfl) (At.of (n _ _ (d.at_ (Mt (Mt Mh)))) _ rfl) (At.of (n _ _ (d.at_ (Mt (Mt (Mt (Mt Mh)))))) _ rfl) hm).lR⟩ f3) (fun j8 d => V (jO (cB t) rfl) ?_))))
   obtain rfl := sj z
   exact b0 _ _ ⟨_, (d.js (Db St)), Y, Z, a3, rfl, a4, eN, O, rfl⟩
  refine un t (un t (un t (V (jQ (cB t) rfl) ?_)))
  obtain rfl := sj z
  exact b0 _ _ ⟨_, (d.js (Db St)), Y, Z, a3, rfl, a4, eN, O, rfl⟩
 rintro E W ⟨D, I, G, s, b4, ⟨O, eN⟩, u, d, Y, Z, a3, a4, M, j⟩
 rw [bE] at j
 refine jH ?_
 replace d := d.js (Db (Db (Db (Db (Kr (Dr (Dr (Dr (Dr (Dr St))))))))))
 refine sg (Wh a3 (bS j fun k3 f4 j => VE (vE d call27 (Cy D I _ _ (M.sl kj (fun b o m => d.at_ (Ml m))) f4) (fun j9 i3 k9 g8 d i4 ad c5 => Wa (ln ?_)))))
 replace d := d.js (Kr (Dr St))
 refine kv ?_
 obtain rfl := sj j
 exact li (v := i3) rfl rfl ⟨_, g8, rfl, d.qz (fun p m => (Ml m)) c5.nd, c5⟩
theorem EH (c : jm) (g : Nat) (a : Value) (j : List jm) (r : Bool) (w : World) (k : Sl (Pl jr) 9 (hp w) a j) (i : At (hp w) (.pointer (some ⟨g, 0, none⟩)) [a]) (hm : ui c j = some r) :
  ke true pg0 42 [(.agg (jr c).toArray), (.pointer (some ⟨g, 0, none⟩))] w (.bool r) := by
 refine cG 7 func42 rfl (fun b => sg (VE (kq b rfl (fun u z b => Wa (lr (V (jt rfl (oO b.has (y := a) i dY)) (VA b Mh (jr c) bX aQ (bS hm fun B t hm => VE (Eg b call29 (xQ a j c _ _ (k.mono (Pl.mono _) b.jy) t) (fun x b => Wa (jU ?_)))))))))))
 refine jH ?_
 exact kv (rQ hm b)
theorem B6 (g : Value) (u : List jm) (a : LO) (k : Value) (i r : List jm) (w : World) {N : jN} (T : nT N (a ++ []) w) (B : jM 49 jr 9 g u a) (j : Sl (Pl jr) 9 N k i) (hm : ux u i = some r) :
  kA false pg0 25 [g, k] w (a ++ []) (fun v Q W' => ∃ M I, v = M ∧ Q = (I ++ []) ∧ jM 49 jr 9 M r I) := by
 refine xL T 8 func25 rfl (fun b => sg ?_)
 obtain ⟨G, J, rfl⟩ := j.form
 refine VE (kq b rfl (fun W4 y b => Wa (lr (Wm (V (pG (by exact tm rfl) rfl) (bS hm fun s K hm => ?_))))))
 refine VE (yb b (Cr (Qb Qz) Cn) call41 (fun hH p l h => (vX g u a (.func (.func 42) #[] #[(.pointer (some ⟨y, 0, none⟩))]) (fun (x : jm) => ui x i) _ _ ⟨hH, p, jR.refl _⟩ B ⟨42, #[], #[(.pointer (some ⟨y, 0, none⟩))], rfl, call42, fun W x r n hm => (EH x y (.slice G i.length J) i r W (j.mono (Pl.mono _) (l.trans n)) (At.of (n _ _ (h _ _ Mh)) _ rfl) hm).lR⟩ K)) (fun W7 Z q Y b U m d z => ?_))
 obtain ⟨t, H, c, rfl, D⟩ := z
 replace c := c.symm; subst c
 replace b := b.perm (Tr Tn)
 refine Wa (ln ?_)
 replace b := b.js (Kr (Db St))
 refine kv ?_
 obtain rfl := sj hm
 exact li (v := t) rfl rfl ⟨_, _, rfl, (b.mi (Kr Sn)), t, H, rfl, rfl, D⟩
theorem Bw (I : Int) (r : List jm) (w : World) (hm : rq I = some r) :
  mH true pg0 51 [(.slice none 0 0), (.int .i64 I)] w 49 jr 9 r := by
 refine yc 27 func51 rfl (fun b => sg (Wa (lS (Wm (Wi rfl (ln (CI hm rfl (fun K hm => ?_) (fun K hm => ?_))))))))
 ·cases hm
 refine kn (jI (CJ hm (fun u E W => ∃ g c t, ST true kK w W (hp w) (c ++ t) ∧ E 0 = g ∧ jM 49 jr 9 g u c) (fun u a => ?_) ?_))
 ·refine sg (Wm (Wm (V (Jf aJ rfl) (Wm (V (yM aJ rfl) (Wi rfl (Wi rfl (Wa (lr (Wm ?_))))))))))
  refine Wi rfl (ln (CI a rfl (fun y a => ?_) (fun y a => ?_)))
  ·refine jC (Wm (Wm (V (Jf aJ rfl) (V (L6 aJ aQ rfl rfl) (Wm (bS a fun T B a => VE (IT (enc := jr) (z := OV) b kj dc aJ dK lT.1 lT.2.1 lT.2.2.1 lT.2.2.2 rfl rfl rfl B (fun N U H b x => Wm (V (yM aJ rfl) (bS a fun _ j a => VQ (AZ (i := 0) aJ aQ rfl rfl x kj (vI j) (vw j)) (fun M G => Wa (ln ?_))))))))))))
   obtain rfl := sj a
   exact ⟨M, H, _, (b.js St), rfl, G⟩
  refine kn ?_
  obtain rfl := sj a
  exact ⟨(.slice none 0 0), [], _, (b.js St), rfl, (jM.nil _ _ _)⟩
 rintro Q E W ⟨g, c, t, b, J, k⟩ D
 refine sg (Wh J (Wa (lt ?_)))
 obtain rfl := sj D
 exact li (v := g) rfl rfl ⟨_, c, rfl, b.qz (fun p d => (Ml d)) k.nd, k⟩
theorem yl (t : Value) (z : List (List jm)) (r : List jm) (w : World) (j : Sl (Ge jr 9) 1 (hp w) t z) (hm : qp z = some r) :
  mH true pg0 28 [t] w 49 jr 9 r := by
 refine yc 36 func28 rfl (fun b => sg (Wa (lr (Wa (lS (Wm ?_))))))
 refine V (lU fY rfl j) (Wm (ln (lQ (fun i E W => ∃ u Q, (E 11 = .int .i64 (i : Nat) ∧ E 10 = .int .i64 (z.length : Nat)) ∧ ST true kK w W (hp w) Q ∧ E 0 = t ∧ E 3 = (.int .i64 u) ∧ E 9 = t ∧ oa z (z.drop i) u = some r) z.length j.len ⟨0, _, ⟨rfl, rfl⟩, (b.js St), rfl, rfl, rfl, hm⟩ dc dc dc (fun _ _ _ h => by obtain ⟨_, _, l, _⟩ := h; exact l) ?_ ?_)))
 ·rintro d1 E W b9 ⟨u, Q, ⟨d, m⟩, b, T, U, Y, a⟩
  obtain ⟨n, e0, c4, c3, c5⟩ := lz b9
  rw [c4] at a
  refine bg (VQ (Jd (enc := jr) (k2 := 9) (i := (d1 : Int)) (x0 := n) fY dw Y d j (aX _) c3) (fun e2 ⟨d3, c0, c2⟩ => V (jt rfl (oO b.has (y := d3) c0 dY)) (Wa (lr (Wh U (Wm (V (lU aJ rfl c2) (Wi rfl (Wa ?_)))))))))
  refine lr (Wm (Wi rfl (ln (CI a rfl (fun b7 a => ?_) (fun b7 a => ?_)))))
  ·cases a
  exact lJ (kz (jH ⟨d, (wi0 .i64 (u + (n.length : Int))), _, ⟨rfl, m⟩, (b.js St), T, rfl, Y, (by rw [c5]; exact a)⟩))
 rintro E W ⟨u, Q, ⟨d, m⟩, b, T, U, Y, a⟩
 rw [bE] at a
 refine jH (sg (Wh U (bS a fun d2 c1 a => VE (vE b call51 (Bw u _ _  c1) (fun e1 d4 q d0 b a4 s b6 => Wa (lS (Wh T (V (lU fY rfl j) (Wm ?_)))))))))
 refine ln (CJ a (fun K E W => ∃ G x N, ST true kK w W q (x ++ N) ∧ E 6 = G ∧ jM 49 jr 9 G K x) (fun K O => ?_) ?_)
 ·refine lQ (fun i E W => ∃ k D g H, (E 27 = .int .i64 (i : Nat) ∧ E 26 = .int .i64 (z.length : Nat)) ∧ ST true kK w W q (g ++ H) ∧ E 6 = k ∧ E 25 = t ∧ jM 49 jr 9 k D g ∧ nW (z.drop i) D = some K) z.length j.len ⟨d4, d2, d0, _, ⟨rfl, rfl⟩, (b.js St), rfl, rfl, b6, O⟩ dc dc dc (fun _ _ _ h => by obtain ⟨_, _, _, _, l, _⟩ := h; exact l) ?_ ?_
  ·rintro c6 E W a3 ⟨k, D, g, H, ⟨d, m⟩, b, I, J, B, c⟩
   obtain ⟨c9, d5, b0, a9, b1⟩ := lz a3
   rw [b0] at c
   refine bg (VQ (Jd (enc := jr) (k2 := 9) (i := (c6 : Int)) (x0 := c9) fY dw J d (j.mono (Ge.mono _ _) a4) (aX _) a9) (fun d8 ⟨Z, P, a8⟩ => V (jt rfl (oO b.has (y := Z) P dY)) (Wa (ln (jC (Wh I (Wm (bS c fun c7 a2 c => VE (oC (enc := jr) (v := k) (vs := Z) (R := g) b kj dc nw aJ lT.1 lT.2.1 rfl lT.2.2.1 lT.2.2.2 rfl rfl B (a8.mono (Pl.mono _) b.jy) a2 (fun d6 c8 b4 b L => Wa (jU ?_)))))))))))
   exact kz (jH ⟨d, c8, c7, b4, _, ⟨rfl, m⟩, (b.js St), rfl, J, L, (by rw [b1]; exact c)⟩)
  rintro E W ⟨k, D, g, H, ⟨d, m⟩, b, I, J, B, c⟩
  rw [bE] at c
  refine jH ?_
  obtain rfl := sj c
  exact ⟨k, g, _, (b.js St), I, B⟩
 rintro d7 E W ⟨G, x, N, b, b5, M⟩ a5
 refine sg (Wh b5 (Wa (lt ?_)))
 obtain rfl := sj a5
 exact li (v := G) rfl rfl ⟨_, x, rfl, b.qz (fun p hq => (Ml hq)) M.nd, M⟩
theorem sn {n : Type} (I0 : n → LO → Prop) (g8 : Value) (f0 : n → (Int × kf) → Option (Bool × n)) (s0 : n) (L : LO) (g0 : Nat) (c : ByteArray) (k : Value) (D : List kd) (t : Value) (H : List nf) (a : ByteArray) (i : Value) (z : List kd) (j : Value) (B : List nf) (Z a0 : Int) (J : jl) (K : Value) (Y : List Formula) (e8 : Int) (a6 : ky) (b0 e3 c4 : Int) (c5 : Value) (e7 : List Key) (r : n) (w : World) {μ0 : jN} (h0 : nT μ0 (L ++ []) w) (o9 : zH pg0 g8 μ0 I0 (fun (μ : jN) (vs : List Value) (x : (Int × kf)) => ∃ zs : List Value, vs = [(.int .i64 x.1), .agg zs.toArray] ∧ oH μ zs x.2) (fun (r : Bool) => (.bool r)) f0) (p0 : I0 s0 L) (a8 : Sl jW 15 μ0 k D) (b1 : Sl kQ 8 μ0 t H) (a5 : Sl jW 15 μ0 i z) (a7 : Sl kQ 8 μ0 j B) (h5 : Sl jo 5 μ0 K Y) (o7 : Sl qw 2 μ0 c5 e7) (e0 : At μ0 (.pointer (some ⟨g0, 0, none⟩)) [(.string c), k, t, (.string a), i, j, (.int .i64 Z), (.int .i64 a0), (.string J.jq), (.string J.jv), K, (.int .i64 e8), (.int .i64 a6.og), (.int .i64 a6.nB), (.int .i64 b0), (.int .i64 e3), (.int .i64 c4), c5]) (hm : mG f0 s0 c D H a z B Z a0 J Y e8 a6 b0 e3 c4 e7 = some r) :
  kA false pg0 24 [g8, (.pointer (some ⟨g0, 0, none⟩))] w (L ++ []) (fun v L1 W' => ∃ S1, v = (.tuple #[]) ∧ L1 = (S1 ++ []) ∧ I0 r S1) := by
 refine xL h0 53 func24 rfl (fun d => sg (Wa (Wa (lr (Wa (ln (tE (kX (mT (fun m E W => ∃ c1 T f7 c2 U f8 O g3 f9 h6 i3, jR μ0 h6 ∧ ST false (keys (L ++ [])) w W h6 (f8 ++ (f7 ++ (f9 ++ i3))) ∧ E 0 = g8 ∧ E 1 = (.pointer (some ⟨g0, 0, none⟩)) ∧ E 3 = c1 ∧ E 4 = c2 ∧ E 5 = (.int .i64 O) ∧ jM 49 jr 9 c1 T f7 ∧ jM 49 jr 9 c2 U f8 ∧ I0 g3 f9 ∧ mB c D H a z B f0 m T U O g3 = some r) jP ⟨(.slice none 0 0), ([]), [], (.slice none 0 0), ([]), [], 0, s0, L, μ0, _, (jR.refl _), (d.js St), rfl, rfl, rfl, rfl, rfl, (jM.nil _ _ _), (jM.nil _ _ _), p0, hm⟩ ?_)))))))))
 rintro m E W ⟨c1, T, f7, c2, U, f8, O, g3, f9, h6, i3, G, d, g1, s, d8, d9, g2, e1, e2, h8, I⟩
 cases m with
 | zero => rw [mB] at I; cases I
 | succ p1 =>
  refine jI (bg (VQ (qH [(.string c), k, t] DX s (e0.mono G) rfl) (fun r1 j6 => V (jt rfl (kl d.has j6 fa dZ)) (Wh d9 (VQ (qH [(.string a), i, j] Ap s (e0.mono G) rfl) (fun r2 j7 => VQ (qH [(.string a)] Ax rfl j7 rfl) (fun r3 j8 => V (jt rfl (oO d.has (y := (.string a)) j8 bU)) (bS I fun m8 k2 I => VE (vE d call26 (xN (⟨c, D, H⟩ : jX) k t c2 U a _ _ (a8.mono kc.mono (G.trans d.jy)) (b1.mono mn.mono (G.trans d.jy)) (e2.sl kj (fun b o h => d.at_ (Ml h))) k2) (fun q0 n5 s2 l3 d M aa i7 => Wh d8 (bS I fun b4 k3 I => ?_)))))))))))
  refine VE (yb d (Cr Qz Cn) call25 (fun hH hN ap q => (B6 n5 m8 l3 c1 T _ _ ⟨hH, hN, jR.refl _⟩ i7 (e1.sl kj (fun b o h => q b o (Ma (Ml h)))) k3)) (fun q1 r8 s3 p4 d N ab p i5 => ?_))
  obtain ⟨o1, p8, e4, rfl, b2⟩ := i5
  replace e4 := e4.symm; subst e4
  replace d := d.perm (Tr Tn)
  refine Wa (lr (VQ (qH [(.string a), i, j] Ap s (e0.mono ((G.trans M).trans N)) rfl) (fun r4 j9 => V (jt rfl (kl d.has j9 fa dZ)) (Wh d8 (VQ (qH [(.string c), k, t] DX s (e0.mono ((G.trans M).trans N)) rfl) (fun r5 k0 => VQ (qH [(.string c)] Ax rfl k0 rfl) (fun r6 k1 => V (jt rfl (oO d.has (y := (.string c)) k1 bU)) (bS I fun m9 k4 I => VE (vE d call26 (xN (⟨a, z, B⟩ : jX) i j c1 T c _ _ (a5.mono kc.mono (((G.trans M).trans N).trans d.jy)) (a7.mono mn.mono (((G.trans M).trans N).trans d.jy)) (e1.sl kj (fun b o h => d.at_ (Ma (Ma (Ml h))))) k4) (fun q2 n6 s4 l4 d e9 ad i8 => Wh d9 (bS I fun b5 k5 I => ?_)))))))))))
  refine VE (yb d (Cr Qz Cn) call25 (fun hH hN ap q => (B6 n6 m9 l4 c2 U _ _ ⟨hH, hN, jR.refl _⟩ i8 (e2.sl kj (fun b o h => q b o (Ma (Ml h)))) k5)) (fun q3 r9 o3 p5 d f1 ae p i6 => ?_))
  obtain ⟨o2, p9, e5, rfl, b3⟩ := i6
  replace e5 := e5.symm; subst e5
  replace d := d.perm (Tr Tn)
  refine Wa (lS (Wm (V (oe aJ rfl b2) (Wm (V (oe aJ rfl b3) (Wi rfl (Wi rfl (Wm (LJ I (fun P E W => ∃ g4 g7 a9 R h7, jR o3 R ∧ ST false (keys (L ++ [])) w W R (a9 ++ (f8 ++ (f7 ++ h7))) ∧ E 0 = g8 ∧ E 1 = (.pointer (some ⟨g0, 0, none⟩)) ∧ E 3 = c1 ∧ E 4 = c2 ∧ E 5 = (.int .i64 O) ∧ E 6 = g4 ∧ E 7 = g7 ∧ E 42 = (.bool P.2.2.1) ∧ Sl (Pl jr) 9 R g4 P.1 ∧ Sl (Pl jr) 9 R g7 P.2.1 ∧ I0 P.2.2.2 a9) 8 ?_ (fun P Q f6 => ?_))))))))))
  ·rintro ⟨a3, a4, s1, n4⟩ E W ⟨g4, g7, a9, R, h7, h9, d, m0, m1, m2, m3, m4, m5, m6, m7, g9, h1, h2⟩ u
   refine ln (CI u m7 (fun j5 u => ?_) (fun j5 u => ?_))
   ·refine kv (kI (nt (kI (kI (nt (kI ?_))))))
    obtain rfl := sj u
    exact ox rfl ⟨_, _, rfl, (d.mi (Kr Sn)), a9, rfl, rfl, h2⟩
   refine kn (jC (Wh m2 (Wh m5 ?_)))
   obtain ⟨c6, d2, rfl⟩ := e1.form
   obtain ⟨c7, d3, rfl⟩ := g9.form
   refine VE (kp (cs := #[(.slice c6 T.length d2), (.slice c7 a3.length d3)]) d (sa rfl rfl) (mN fY dw gn) (fun q4 l8 d => bS u fun n0 k6 u => VE (vE d call28 (mH.lR (yl (.slice (some ⟨l8, 0, none⟩) 2 2) ([T, a3]) _ _ (Ge.lit (l := [T, a3]) (vs := [(.slice c6 T.length d2), (.slice c7 a3.length d3)]) rfl nb (d.at_ Mh) (.cons (e1.sl kj (fun b o h => d.at_ (Mt (Ma (Ma (Ml h)))))) (.cons (g9.mono (Pl.mono _) d.jy) .nil))) k6)) (fun q5 n7 s5 p6 d f2 af i9 => bS u fun n1 k7 u => VE (vE d call27 (Cy n7 n0 _ _ (i9.sl kj (fun b o h => d.at_ (Ml h))) k7) (fun q6 n8 s6 l5 d f3 ag j0 => Wh m3 (Wh m6 ?_)))))))
   obtain ⟨c8, d4, rfl⟩ := e2.form
   obtain ⟨c9, d5, rfl⟩ := h1.form
   refine VE (kp (cs := #[(.slice c8 U.length d4), (.slice c9 a4.length d5)]) d (sa rfl rfl) (mN fY dw gn) (fun q7 l9 d => bS u fun n2 k8 u => VE (vE d call28 (mH.lR (yl (.slice (some ⟨l9, 0, none⟩) 2 2) ([U, a4]) _ _ (Ge.lit (l := [U, a4]) (vs := [(.slice c8 U.length d4), (.slice c9 a4.length d5)]) rfl nb (d.at_ Mh) (.cons (e2.sl kj (fun b o h => d.at_ (Mt (Ma (Ma (Mt (Ma (Ml h)))))))) (.cons (h1.mono (Pl.mono _) ((f2.trans f3).trans d.jy)) .nil))) k8)) (fun q8 n9 s7 p7 d i0 ah j3 => bS u fun n3 k9 u => VE (vE d call27 (Cy n9 n2 _ _ (j3.sl kj (fun b o h => d.at_ (Ml h))) k9) (fun q9 o0 o4 l6 d i1 ai j4 => Wa (Wa (jU (kz (jH ?_))))))))))
   replace d := d.js (Kr (Dr (Db (Kr (Dr (Db (Kr (Dr (Dr St)))))))))
   exact jC (Wh m4 (Wi rfl (Wa (ln ⟨p1, bn _, n8, n1, l5, o0, n3, l6, (wi0 .i64 (O + 1)), n4, a9, o4, _, (((((((((G.trans M).trans N).trans e9).trans f1).trans h9).trans f2).trans f3).trans i0).trans i1), (d.js St), m0, m1, rfl, rfl, rfl, j0, j4, h2, u⟩))))
  refine bC Q (fun g Q => ?_) (fun g Q => ?_)
  ·refine un g (un g (un g (un g (un g (un g (un g (V (jO (cB g) rfl) ?_)))))))
   obtain rfl := sj Q
   replace d := d.perm (Nr (Qr Qz) Nz)
   obtain ⟨s8, d, i2, aj, l1⟩ := ST.Fi d b2 kj
   obtain ⟨o5, d, f4, ak, l2⟩ := ST.Fi d b3 kj
   exact f6 _ _ ⟨o1, o2, f9, o5, _, (i2.trans f4), (d.js (Sr (Qr (Qr Qz)) St)), g1, s, d8, d9, g2, rfl, rfl, rfl, (l1.mono (Pl.mono _) f4), l2, h8⟩
  refine ug g (jx g1) (ug g (jx g2) (ug g (jx rfl) (ug g (jx rfl) ?_)))
  obtain ⟨d0, d6, rfl⟩ := b2.form
  let b8 : Value := (.slice d0 b4.length d6)
  obtain ⟨d1, d7, rfl⟩ := b3.form
  let e6 : Value := (.slice d1 b5.length d7)
  refine ug g (mr (v := (.agg #[b8, e6])) (sa rfl rfl) (Cv jh dp dw kr)) ?_
  replace d := d.perm (Nr (Qr Qz) Nz)
  obtain ⟨s9, d, f5, al, h3⟩ := ST.Fi d b2 kj
  obtain ⟨t0, d, a2, an, h4⟩ := ST.Fi d b3 kj
  refine bS Q fun r7 l0 Q => TI rfl (cB g) (Qv g3 (O, (⟨b4, b5⟩ : kf)) _ d (Nr (Qr (Qr Qz)) Nz) o9 ((((((G.trans M).trans N).trans e9).trans f1).trans f5).trans a2) h8 (fun hs => ⟨_, rfl, H2.mono _ _ _ _ hs (oH.mk ⟨b8, e6, rfl, (h3.mono (Pl.mono _) a2), h4⟩)⟩) rfl (uk rfl rfl) l0 (fun r0 o6 l7 d c0 ao i4 => ug g (pa rfl) (V (jQ (cB g) rfl) ?_)))
  obtain rfl := sj Q
  exact f6 _ _ ⟨b8, e6, l7, o6, _, ((f5.trans a2).trans c0), (d.js St), g1, s, d8, d9, g2, rfl, rfl, rfl, (h3.mono (Pl.mono _) (a2.trans c0)), (h4.mono (Pl.mono _) c0), i4⟩
set_option maxHeartbeats 4000000 in
theorem Dt (a : mM) (Q T H N I d4 : Value) (r : ((List ky) × Bool)) (w : World) (z : Sl jW 15 (hp w) Q a.jq.jF) (B : Sl kQ 8 (hp w) T a.jq.jS) (t : Sl jW 15 (hp w) H a.Client.jF) (y : Sl kQ 8 (hp w) N a.Client.jS) (u : Sl jo 5 (hp w) I a.Formula.Kids) (G : Sl qw 2 (hp w) d4 a.Keys) (hm : qE a = some r) :
  kA false pg0 30 [(.agg #[(.string a.jq.Name), Q, T, (.string a.Client.Name), H, N, (.int .i64 a.Formula.Op), (.int .i64 a.Formula.K), (.string a.Formula.jl.jq), (.string a.Formula.jl.jv), I, (.int .i64 a.vo), (.int .i64 a.nG.og), (.int .i64 a.nG.nB), (.int .i64 a.pC), (.int .i64 a.th), (.int .i64 a.qN), d4])] w [] (fun v L1 W' => ∃ y1 S2, v = (.tuple #[y1, (.bool (r.2))]) ∧ L1 = (S2 ++ []) ∧ jM 31 lu 2 y1 r.1 S2) := by
 let b6 := ((List ky) × ky × (List jm))
 have d := ST.start (dd := false) w
 refine Ej (n := 43) func30 rfl rfl nb (xw (jC ?_))
 obtain ⟨A1, c2, rfl⟩ := z.form
 let c1 : Value := (.slice A1 a.jq.jF.length c2)
 obtain ⟨A3, c4, rfl⟩ := B.form
 let c9 : Value := (.slice A3 a.jq.jS.length c4)
 obtain ⟨A5, c6, rfl⟩ := t.form
 let b8 : Value := (.slice A5 a.Client.jF.length c6)
 obtain ⟨A7, c8, rfl⟩ := y.form
 let c3 : Value := (.slice A7 a.Client.jS.length c8)
 obtain ⟨A9, Z, rfl⟩ := u.form
 let c5 : Value := (.slice A9 a.Formula.Kids.length Z)
 obtain ⟨Y, a1, rfl⟩ := G.form
 let g6 : Value := (.slice Y a.Keys.length a1)
 let a0 := (C2 a.jq.Name A1 a.jq.jF.length c2 A3 a.jq.jS.length c4 a.Client.Name A5 a.Client.jF.length c6 A7 a.Client.jS.length c8 a.Formula.Op a.Formula.K a.Formula.jl.jq a.Formula.jl.jv A9 a.Formula.Kids.length Z a.vo a.nG.og a.nG.nB a.pC a.th a.qN Y a.Keys.length a1)
 refine VE (kq d rfl (fun n1 e4 d => VE (kx d zeroValue64 (fun n2 d2 d => VE (kx d gJ (fun n3 d3 d => ln (xw (jC (VE (kx d gn (fun n4 e5 d => ln (xw (jC (VE (kx d zeroValue64 (fun n5 e6 d => ln ?_))))))))))))))))
 refine xw (jC (V (mr (v := (.agg (lu K5).toArray)) tW (Cv ji eW dR kr)) (VE (kx d ji (fun n6 e7 d => VO (jL (.agg (lu K5).toArray) ((lu K5).toArray) d rfl rfl sizeOf31 (F8 K5) nb rfl (fun n7 d => ln (xw (sg (VA d (Mt (Mt (Mt (Mt (Mt Mh))))) a0 fI eO (bS hm fun o2 i6 hm => VE (Eg d call53 (AB a c1 c9 b8 c3 c5 g6 (.slice none 0 0) ([]) _ _ (z.mono kc.mono d.jy) (B.mono mn.mono d.jy) (t.mono kc.mono d.jy) (y.mono mn.mono d.jy) (u.mono jD.mono d.jy) (G.mono yf.mono d.jy) (Sl.nil _ _ _) i6) (fun n8 d => ln ?_)))))))))))))
 refine CI hm rfl (fun i5 hm => ?_) (fun i5 hm => ?_)
 ·refine sg ?_
  replace d := d.perm (Nb (Pb (Pb (Pb (Pb Pz)))) Nz)
  refine VO (jL (.slice none 0 0) (#[(.slice none 0 0)]) d rfl rfl sizeOf64 oc nb rfl (fun n9 d => ?_))
  replace d := d.perm (Nb (Pb (Pb (Pb (Pb Pz)))) Nz)
  refine VO (jL (.bool true) (#[(.bool true)]) d rfl rfl sizeOf4 (IU true) nb rfl (fun o0 d => ln ?_))
  replace d := d.js (Kb (Kb (Db (Db (Db (Db St))))))
  refine kv (kI (Mc ?_))
  obtain rfl := sj hm
  refine BM (v0 := (.slice none 0 0)) (v1 := (.bool true)) rfl rfl (jG d.has (Mt Mh) rfl isAgg64) rfl (jG d.has Mh rfl isAgg4) ?_
  replace d := d.Of
  exact ⟨_, _, rfl, (d.EV (Kr Sn)), (.slice none 0 0), [], rfl, rfl, (jM.nil _ _ _)⟩
 refine kn (NB (xw (jC (VA d (Mt (Mt (Mt (Mt (Mt Mh))))) a0 fI eO (bS hm fun a8 i7 hm => ?_)))))
 refine VE (yb d (bR _) call8 (fun _ _ _ _ => kA.lR (vx a c1 c9 b8 c3 c5 g6 _ _ (z.mono kc.mono d.jy) (B.mono mn.mono d.jy) (t.mono kc.mono d.jy) (y.mono mn.mono d.jy) (u.mono jD.mono d.jy) (G.mono yf.mono d.jy) i7)) (fun o1 o3 k0 n0 d D al ai i4 => ?_) (L0 := []))
 obtain ⟨i2, f9, rfl⟩ := i4
 replace f9 := f9.symm; subst f9
 replace d := d.perm (Tb Tn)
 refine ln (Hz (Hx d rfl call24 (fun lp ad Lp W ab d => ?_)))
 let j3 : Value := (.func (.yield lp) #[] #[])
 have hy : zH pg0 j3 k0 (Ft lp Lp (fun (s : b6) (R : LO) => ∃ U J a4 a3, R = ((e6, Ob #[U] 64) :: ((e7, Ol (lu s.2.1) 31) :: ((e5, Ob #[a4] 42) :: ((d3, Ob #[(.bool false)] 4) :: ((d2, Ob #[(.slice none 0 0)] 64) :: ((e4, Ol a0 34) :: (J ++ (a3 ++ [])))))))) ∧ jM 31 lu 2 U s.1 J ∧ jM 49 jr 9 a4 s.2.2 a3) (fun (s : (Bool × (List ky))) (R : LO) => ∃ a6 a9, R = ((d3, Ob #[(.bool s.1)] 4) :: ((d2, Ob #[a6] 64) :: (a9 ++ []))) ∧ jM 31 lu 2 a6 s.2 a9)) (fun (μ : jN) (vs : List Value) (x : (Int × kf)) => ∃ zs : List Value, vs = [(.int .i64 x.1), .agg zs.toArray] ∧ oH μ zs x.2) (fun b => .bool b) (wT (fun (s : b6) (x : (Int × kf)) => pR a x.1 x.2 s.1 s.2.1 s.2.2)) := by
  refine HI ab (by rintro _ _ _ ⟨_, rfl, _⟩; rfl) dc (fun w s x vs h2 R0 j0 a2 aj ae af hI d ag a7 => ?_)
  obtain ⟨_, rfl, j5⟩ := ag
  obtain ⟨i9, k⟩ := x
  let b5 := (k.nB.length : Int)
  let b4 := (k.og.length : Int)
  obtain ⟨m4, m5, rfl, aa, P⟩ := j5.out
  obtain ⟨b1, f6, h1⟩ := s
  obtain ⟨U, J, a4, a3, rfl, d7, g4⟩ := hI
  replace a7 : pR a i9 k b1 f6 h1 = some h2 := a7
  unfold Lz
  generalize Gl lp = M
  refine jC (VE (kx d jh (fun k4 h0 d => ?_)))
  obtain ⟨f7, f8, rfl⟩ := aa.form
  let j4 : Value := (.slice f7 k.og.length f8)
  obtain ⟨e8, f0, rfl⟩ := P.form
  let j1 : Value := (.slice e8 k.nB.length f0)
  refine VO (jL (.agg #[j4, j1]) (#[j4, j1]) d rfl rfl sizeOf43 oc nb rfl (fun k5 d => ln ⟨d.lO lp ae af, fun o => ?_⟩))
  replace d := d.frame o ae af aj
  generalize w.putObj lp o = w at d ⊢
  refine bg (VB d (Mt (Mt (Mt Mh))) rfl rfl dY (V (ml (i := 1) dp dw rfl rfl dc dc) (VB d Mh rfl rfl dY ?_)))
  replace d := d.perm (Nr (Qb (Qb (Qb (Qb (Qb (Qb (Qb (Qr Qz)))))))) Nz)
  refine bS a7 fun b2 h4 a7 => VE (oC (enc := jr) (v := a4) (vs := j1) (R := a3) d kj dc nw aJ lT.1 lT.2.1 rfl lT.2.2.1 lT.2.2.2 rfl rfl g4 (P.mono (Pl.mono _) d.jy) h4 (fun k6 m6 g8 d f2 => ?_))
  obtain ⟨d8, d9, rfl⟩ := f2.form
  let g5 : Value := (.slice d8 b2.length d9)
  replace d := d.perm (Nb (Pr (Pb (Pb (Pb Pz)))) Nz)
  refine VO (jL g5 (#[g5]) d rfl rfl dw oc nb rfl (fun k7 d => lS (Wm (ln (kX (mT (fun m E W => ∃ b3 g g7, ST false (keys ((e6, Ob #[U] 64) :: ((e7, Ol (lu f6) 31) :: ((e5, Ob #[a4] 42) :: ((d3, Ob #[(.bool false)] 4) :: ((d2, Ob #[(.slice none 0 0)] 64) :: ((e4, Ol a0 34) :: (J ++ (a3 ++ []))))))))) w W j0 ((e7, Ol (lu g) 31) :: ((e5, Ob #[g5] 42) :: ((h0, Ob #[j4, j1] 43) :: ((e6, Ob #[U] 64) :: ((d3, Ob #[(.bool false)] 4) :: ((d2, Ob #[(.slice none 0 0)] 64) :: ((e4, Ol a0 34) :: (g8 ++ (J ++ g7))))))))) ∧ E 1 = (.pointer (some ⟨e4, 0, none⟩)) ∧ E 2 = (.pointer (some ⟨d2, 0, none⟩)) ∧ E 3 = (.pointer (some ⟨d3, 0, none⟩)) ∧ E 4 = (.pointer (some ⟨e5, 0, none⟩)) ∧ E 5 = (.pointer (some ⟨e6, 0, none⟩)) ∧ E 6 = (.pointer (some ⟨e7, 0, none⟩)) ∧ E 8 = (.pointer (some ⟨h0, 0, none⟩)) ∧ E 21 = (.int .i64 b3) ∧ nq k b1 a b2 m b3 g = some h2) jP ⟨0, f6, _, (d.js (Sb (Pb (Pr (Pb (Pb Pz)))) (Kb (Sb (Pr Pz) (Sb (Pr Pz) (Sb (Pr Pz) (Sb (Pr Pz) (Sb (Pr Pz) St)))))))), rfl, rfl, rfl, rfl, rfl, rfl, rfl, rfl, a7⟩ ?_))))))
  rintro m E W ⟨b3, g, g7, d, e0, e1, e2, e3, b0, K, a5, d0, c⟩
  cases m with
  | zero => rw [nq] at c; cases c
  | succ f5 =>
   refine sg (V (ko d0 rfl rfl) (ln (jI (CI c rfl (fun h5 c => ?_) (fun h5 c => ?_)))))
   ·refine kn (jI (bg (Wh d0 (Wa (ln ?_)))))
    replace d := d.drew
    have p := d.has.js (Db (Db (Kb Sn)))
    have q := d.has.js (Kb Sn)
    refine tR 9 p q ki (jZ 0 rfl kr (.inl rfl) rfl dc (fun _ _ h => ⟨h.1, kB br h.2⟩) ⟨p, fun _ => q⟩ (fun _ _ _ _ => jx rfl) (bC c (fun d5 c => ?_) (fun d5 c => ?_)))
    ·refine jZ 1 rfl kr (.inl rfl) rfl dc (fun _ _ h => ⟨h.1, kB br h.2⟩) ⟨p, fun _ => q⟩ (fun _ _ _ _ => ml (i := 0) eW dR K (Dl (j := 0) d5 rfl) dc dc) (jZ 2 rfl kr (.inl rfl) rfl dc (fun _ _ h => ⟨h.1, kB br h.2⟩) ⟨p, fun _ => q⟩ (fun l W L hs => have hS := (hs.2 (L.Bk 9 [2] kr rfl)); jt rfl (jG hS Mh rfl cJ)) (jZ 3 rfl kr (.inl rfl) rfl dc (fun _ _ h => ⟨h.1, kB br h.2⟩) ⟨p, fun _ => q⟩ (fun _ _ _ _ => jx rfl) (bC c (fun g0 c => ?_) (fun g0 c => ?_))))
     ·refine jZ 4 rfl kr (.inl rfl) rfl dc (fun _ _ h => ⟨h.1, kB br h.2⟩) ⟨p, fun _ => q⟩ (fun _ _ _ _ => ml (i := 0) dp dw a5 (Dl (j := 0) g0 rfl) dc dc) (jZ 5 rfl kr (.inl rfl) rfl dc (fun _ _ h => ⟨h.1, kB br h.2⟩) ⟨p, fun _ => q⟩ (fun l W L hs => have hS := hs.1; jt rfl (jG hS Mh rfl dY)) (jZ 6 rfl kr (.inl rfl) rfl dc (fun _ _ h => ⟨h.1, kB br h.2⟩) ⟨p, fun _ => q⟩ (fun _ _ _ _ => lU aJ rfl aa) (jZ 7 rfl kr (.inl rfl) rfl dc (fun _ _ h => ⟨h.1, kB br h.2⟩) ⟨p, fun _ => q⟩ (fun _ _ _ _ => ko rfl rfl rfl) (jZ 8 rfl kr (.inl rfl) rfl dc (fun _ _ h => ⟨h.1, kB br h.2⟩) ⟨p, fun _ => q⟩ (fun _ _ _ _ => ml (i := 0) eW dR K (Dl (j := 0) d5 rfl) dc dc) (XO 9 rfl (jL (.int .i64 (wi0 .i64 (g.og + b4))) ((lu (⟨(wi0 .i64 (g.og + b4)), g.nB⟩ : ky)).toArray) d rfl rfl dR (wc _ (wi0 .i64 (g.og + b4))) nb rfl (fun k8 d => ?_)))))))
      have p := d.has.js (Db (Db (Kb Sn)))
      exact ⟨⟨p, fun h => wJ kr h⟩, (kM kr (kz (jH (jC (V (ko d0 rfl rfl) (Wm (ln ⟨f5, bn _, (wi0 .i64 (b3 + 1)), (⟨(wi0 .i64 (g.og + b4)), g.nB⟩ : ky), _, (d.js St), e0, e1, e2, e3, b0, K, a5, rfl, c⟩)))))))⟩
     refine bC c (fun g1 c => ?_) (fun g1 c => ?_)
     ·let j7 := (⟨(wi0 .i64 (g.og + b5)), g.nB⟩ : ky)
      refine jZ 4 rfl kr (.inl rfl) rfl dc (fun _ _ h => ⟨h.1, kB br h.2⟩) ⟨p, fun _ => q⟩ (fun _ _ _ _ => ml (i := 1) dp dw a5 (Dl (j := 1) g1 rfl) dc dc) (jZ 5 rfl kr (.inl rfl) rfl dc (fun _ _ h => ⟨h.1, kB br h.2⟩) ⟨p, fun _ => q⟩ (fun l W L hs => have hS := hs.1; jt rfl (jG hS Mh rfl dY)) (jZ 6 rfl kr (.inl rfl) rfl dc (fun _ _ h => ⟨h.1, kB br h.2⟩) ⟨p, fun _ => q⟩ (fun _ _ _ _ => lU aJ rfl P) (jZ 7 rfl kr (.inl rfl) rfl dc (fun _ _ h => ⟨h.1, kB br h.2⟩) ⟨p, fun _ => q⟩ (fun _ _ _ _ => ko rfl rfl rfl) (jZ 8 rfl kr (.inl rfl) rfl dc (fun _ _ h => ⟨h.1, kB br h.2⟩) ⟨p, fun _ => q⟩ (fun _ _ _ _ => ml (i := 0) eW dR K (Dl (j := 0) d5 rfl) dc dc) (XO 9 rfl (jL (.int .i64 (wi0 .i64 (g.og + b5))) ((lu j7).toArray) d rfl rfl dR (wc _ (wi0 .i64 (g.og + b5))) nb rfl (fun k9 d => ?_)))))))
      have p := d.has.js (Db (Db (Kb Sn)))
      exact ⟨⟨p, fun h => wJ kr h⟩, (kM kr (kz (jH (jC (V (ko d0 rfl rfl) (Wm (ln ⟨f5, bn _, (wi0 .i64 (b3 + 1)), j7, _, (d.js St), e0, e1, e2, e3, b0, K, a5, rfl, c⟩)))))))⟩
     cases c
    refine bC c (fun d6 c => ?_) (fun d6 c => ?_)
    ·refine jZ 1 rfl kr (.inl rfl) rfl dc (fun _ _ h => ⟨h.1, kB br h.2⟩) ⟨p, fun _ => q⟩ (fun _ _ _ _ => ml (i := 1) eW dR K (Dl (j := 1) d6 rfl) dc dc) (jZ 2 rfl kr (.inl rfl) rfl dc (fun _ _ h => ⟨h.1, kB br h.2⟩) ⟨p, fun _ => q⟩ (fun l W L hs => have hS := (hs.2 (L.Bk 9 [2] kr rfl)); jt rfl (jG hS Mh rfl cJ)) (jZ 3 rfl kr (.inl rfl) rfl dc (fun _ _ h => ⟨h.1, kB br h.2⟩) ⟨p, fun _ => q⟩ (fun _ _ _ _ => jx rfl) (bC c (fun g2 c => ?_) (fun g2 c => ?_))))
     ·let j8 := (⟨g.og, (wi0 .i64 (g.nB + b4))⟩ : ky)
      refine jZ 4 rfl kr (.inl rfl) rfl dc (fun _ _ h => ⟨h.1, kB br h.2⟩) ⟨p, fun _ => q⟩ (fun _ _ _ _ => ml (i := 0) dp dw a5 (Dl (j := 0) g2 rfl) dc dc) (jZ 5 rfl kr (.inl rfl) rfl dc (fun _ _ h => ⟨h.1, kB br h.2⟩) ⟨p, fun _ => q⟩ (fun l W L hs => have hS := hs.1; jt rfl (jG hS Mh rfl dY)) (jZ 6 rfl kr (.inl rfl) rfl dc (fun _ _ h => ⟨h.1, kB br h.2⟩) ⟨p, fun _ => q⟩ (fun _ _ _ _ => lU aJ rfl aa) (jZ 7 rfl kr (.inl rfl) rfl dc (fun _ _ h => ⟨h.1, kB br h.2⟩) ⟨p, fun _ => q⟩ (fun _ _ _ _ => ko rfl rfl rfl) (jZ 8 rfl kr (.inl rfl) rfl dc (fun _ _ h => ⟨h.1, kB br h.2⟩) ⟨p, fun _ => q⟩ (fun _ _ _ _ => ml (i := 1) eW dR K (Dl (j := 1) d6 rfl) dc dc) (XO 9 rfl (jL (.int .i64 (wi0 .i64 (g.nB + b4))) ((lu j8).toArray) d rfl rfl dR (wc _ (wi0 .i64 (g.nB + b4))) nb rfl (fun l0 d => ?_)))))))
      have p := d.has.js (Db (Db (Kb Sn)))
      exact ⟨⟨p, fun h => wJ kr h⟩, (kM kr (kz (jH (jC (V (ko d0 rfl rfl) (Wm (ln ⟨f5, bn _, (wi0 .i64 (b3 + 1)), j8, _, (d.js St), e0, e1, e2, e3, b0, K, a5, rfl, c⟩)))))))⟩
     refine bC c (fun g3 c => ?_) (fun g3 c => ?_)
     ·let j9 := (⟨g.og, (wi0 .i64 (g.nB + b5))⟩ : ky)
      refine jZ 4 rfl kr (.inl rfl) rfl dc (fun _ _ h => ⟨h.1, kB br h.2⟩) ⟨p, fun _ => q⟩ (fun _ _ _ _ => ml (i := 1) dp dw a5 (Dl (j := 1) g3 rfl) dc dc) (jZ 5 rfl kr (.inl rfl) rfl dc (fun _ _ h => ⟨h.1, kB br h.2⟩) ⟨p, fun _ => q⟩ (fun l W L hs => have hS := hs.1; jt rfl (jG hS Mh rfl dY)) (jZ 6 rfl kr (.inl rfl) rfl dc (fun _ _ h => ⟨h.1, kB br h.2⟩) ⟨p, fun _ => q⟩ (fun _ _ _ _ => lU aJ rfl P) (jZ 7 rfl kr (.inl rfl) rfl dc (fun _ _ h => ⟨h.1, kB br h.2⟩) ⟨p, fun _ => q⟩ (fun _ _ _ _ => ko rfl rfl rfl) (jZ 8 rfl kr (.inl rfl) rfl dc (fun _ _ h => ⟨h.1, kB br h.2⟩) ⟨p, fun _ => q⟩ (fun _ _ _ _ => ml (i := 1) eW dR K (Dl (j := 1) d6 rfl) dc dc) (XO 9 rfl (jL (.int .i64 (wi0 .i64 (g.nB + b5))) ((lu j9).toArray) d rfl rfl dR (wc _ (wi0 .i64 (g.nB + b5))) nb rfl (fun l1 d => ?_)))))))
      have p := d.has.js (Db (Db (Kb Sn)))
      exact ⟨⟨p, fun h => wJ kr h⟩, (kM kr (kz (jH (jC (V (ko d0 rfl rfl) (Wm (ln ⟨f5, bn _, (wi0 .i64 (b3 + 1)), j9, _, (d.js St), e0, e1, e2, e3, b0, K, a5, rfl, c⟩)))))))⟩
     cases c
    cases c
   refine ng (mI (mI (rC (jH ?_))))
   replace d := d.js (Kb (Kb (Db St)))
   refine sg (V (jt b0 (jG d.has (Mt (Mt Mh)) rfl isAgg64)) (V (jt K (jA d.has Mh (lu g) rfl isAgg31 sizeOf31)) (VE (kp (cs := (lu g).toArray) d (mD rfl) (mN ic sizeOf31 ji) (fun l2 i3 d => ?_)))))
   replace d := d.perm (Nr (Qb (Qb (Qb (Qb (Qb (Qb (Qb (Qr Qz)))))))) Nz)
   refine bS c fun d1 h6 c => VE (oC (enc := lu) (v := U) (vs := (.slice (some ⟨i3, 0, none⟩) 1 1)) (R := J) d CK dc F8 ic F0.1 F0.2.1 rfl F0.2.2.1 F0.2.2.2 rfl rfl d7 (Sl.lit (enc := lu) (l := [g]) CK rfl nb rfl (d.at_ (Ma Mh))) h6 (fun l3 m7 g9 d f3 => ?_))
   obtain ⟨b9, c7, rfl⟩ := f3.form
   let b7 : Value := (.slice b9 d1.length c7)
   replace d := d.perm (Nb (Pr (Pb (Pb (Pb Pz)))) Nz)
   refine VO (jL b7 (#[b7]) d b0 rfl sizeOf64 oc nb rfl (fun l4 d => ln ?_))
   replace d := d.js (Kb (Kr (Db St)))
   refine sg (V (jt e0 (jA d.has (Mt (Ma (Mt (Mt (Mt (Mt Mh)))))) a0 rfl fI eO)) (V (jt e3 (jG d.has (Mt (Ma (Mt Mh))) rfl dY)) (bS c fun m2 h8 c => VE (Eg d call53 (AB a c1 c9 b8 c3 c5 g6 g5 b2 _ _ (z.mono kc.mono ((D.trans a2).trans d.jy)) (B.mono mn.mono ((D.trans a2).trans d.jy)) (t.mono kc.mono ((D.trans a2).trans d.jy)) (y.mono mn.mono ((D.trans a2).trans d.jy)) (u.mono jD.mono ((D.trans a2).trans d.jy)) (G.mono yf.mono ((D.trans a2).trans d.jy)) (f2.sl kj (fun b o hq => d.at_ (Mt (Ma (Mt (Mt (Mt (Mt (Mt (Ml hq)))))))))) h8) (fun l5 d => ln (CI c rfl (fun h7 c => ?_) (fun h7 c => ?_)))))))
   ·refine sg (V (jt b0 (jG d.has Mh rfl isAgg64)) ?_)
    replace d := d.perm (Nb (Pb (Pr (Pb (Pb (Pb Pz))))) Nz)
    refine VO (jL b7 (#[b7]) d e1 rfl sizeOf64 oc nb rfl (fun l6 d => ?_))
    replace d := d.perm (Nb (Pb (Pb (Pr (Pb (Pb Pz))))) Nz)
    refine VO (jL (.bool true) (#[(.bool true)]) d e2 rfl sizeOf4 (IU true) nb rfl (fun l7 d => lt (nt (kI (KZ ?_)))))
    obtain rfl := sj c
    exact ⟨_, (d.mi (Kb (Kb (Db (Kr Sn))))), rfl, ⟨b7, g9, rfl, f3⟩⟩
   refine lJ (kz (jH ?_))
   obtain rfl := sj c
   exact ⟨_, (d.mi (Kb (Sb (Pr Pz) (Sb (Pr Pz) (Sb (Pr Pz) (Sb (Pr Pz) (Sb (Pr Pz) (Kr (Kr Sn))))))))), rfl, ⟨b7, g9, g5, g8, rfl, f3, f2⟩⟩
 refine bS hm fun m3 h9 hm => ?_
 let c0 := (#[(.slice none 0 0)] : Array Value)
 refine E7 (args := [j3, (.pointer (some ⟨i2, 0, none⟩))]) d (Cr (Cb Pz (Cb (Pb (Pb (Pb Pz))) (Cb (Pb (Pb Pz)) (Cb (Pb (Pb Pz)) (Cb (Pb (Pb Pz)) (Cb (Pb (Pb Pz)) (Cb (Pb (Pb Pz)) Cn))))))) Cn) rfl (fun hH hN O ak => (sn (Ft lp Lp (fun (s : b6) (R : LO) => ∃ U J a4 a3, R = ((e6, Ob #[U] 64) :: ((e7, Ol (lu s.2.1) 31) :: ((e5, Ob #[a4] 42) :: ((d3, Ob #[(.bool false)] 4) :: ((d2, Obj.cells c0 64 (0, 0)) :: ((e4, Ol a0 34) :: (J ++ (a3 ++ [])))))))) ∧ jM 31 lu 2 U s.1 J ∧ jM 49 jr 9 a4 s.2.2 a3) (fun (s : (Bool × (List ky))) (R : LO) => ∃ a6 a9, R = ((d3, Ob #[(.bool s.1)] 4) :: ((d2, Ob #[a6] 64) :: (a9 ++ []))) ∧ jM 31 lu 2 a6 s.2 a9)) j3 (wT (fun (s : b6) (x : (Int × kf)) => pR a x.1 x.2 s.1 s.2.1 s.2.2)) (Sum.inl (([]), K5, ([]))) ((lp, (Obj.loop Lp)) :: ((e6, Obj.cells c0 64 (0, 0)) :: ((e7, Ol (lu K5) 31) :: ((e5, Obj.cells c0 42 (0, 0)) :: ((d3, Ob #[(.bool false)] 4) :: ((d2, Obj.cells c0 64 (0, 0)) :: ((e4, Ol a0 34) :: []))))))) i2 a8.1 c1 a.jq.jF c9 a.jq.jS a8.2.1 b8 a.Client.jF c3 a.Client.jS a8.2.2.1 a8.2.2.2.1 a8.2.2.2.2.1 c5 a.Formula.Kids a8.2.2.2.2.2.1 a8.2.2.2.2.2.2.1 a8.2.2.2.2.2.2.2.1 a8.2.2.2.2.2.2.2.2.1 a8.2.2.2.2.2.2.2.2.2 g6 a.Keys _ _ ⟨hH, hN, jR.refl _⟩ (hy.mono O) ⟨_, rfl, ⟨(.slice none 0 0), [], (.slice none 0 0), [], rfl, (jM.nil _ _ _), (jM.nil _ _ _)⟩⟩ (z.mono kc.mono (D.trans O)) (B.mono mn.mono (D.trans O)) (t.mono kc.mono (D.trans O)) (y.mono mn.mono (D.trans O)) (u.mono jD.mono (D.trans O)) (G.mono yf.mono (D.trans O)) (At.of (ak _ _ (Mt Mh)) _ rfl) h9)) (fun l8 m8 m9 k2 d j6 ah h3 => ?_)
 obtain ⟨k3, f4, rfl, i1⟩ := h3
 replace f4 := f4.symm; subst f4
 simp only [aG, bA, aP] at d
 refine Ks ab.st ab.pe d i1 (fun s W R0 o hq hI d => ?_) (fun s W R0 o hq hI d => ?_)
 ·subst hq
  try dsimp only at hm
  obtain ⟨b1, f6, h1⟩ := s
  obtain ⟨U, J, a4, a3, rfl, d7, g4⟩ := hI
  try simp only [aG, bA, aP] at d
  refine kz (jH ?_)
  replace d := d.js (Kb (Db (Db (Kb (Kb (Db (Kr (Dr (Db (Kb (Db St)))))))))))
  generalize KV [{ target := .collected ad, args := #[] }] = M
  refine sg (VB d Mh rfl rfl isAgg64 ?_)
  obtain ⟨e9, f1, rfl⟩ := d7.form
  let j2 : Value := (.slice e9 b1.length f1)
  replace d := d.perm (Nb (Pb (Pb Pz)) Nz)
  refine VO (jL j2 (#[j2]) d rfl rfl sizeOf64 oc nb rfl (fun l9 d => ?_))
  replace d := d.perm (Nb (Pb (Pb Pz)) Nz)
  refine VO (jL (.bool false) (#[(.bool false)]) d rfl rfl sizeOf4 (IU false) nb rfl (fun m0 d => ln ?_))
  replace d := d.js (Kb (Kb (Db St)))
  refine kv (CH d (Nb (Pb (Pb (Pr Pz))) Nz) (fun W d => ?_))
  obtain rfl := sj hm
  exact BM (v0 := j2) (v1 := (.bool false)) rfl rfl (jG d.has (Mt (Mt Mh)) rfl isAgg64) rfl (jG d.has (Mt Mh) rfl isAgg4) ⟨_, _, rfl, (d.EV (Db (Db (Db (Kr Sn))))), j2, J, rfl, rfl, d7⟩
 subst hq
 try dsimp only at hm
 obtain ⟨i8, m1⟩ := s
 obtain ⟨a6, a9, rfl, i0⟩ := hI
 try simp only [aG, bA, aP] at d
 refine nt (kI (CH d (Nb (Pb (Pb (Pr (Pb Pz)))) Nz) (fun W d => ?_)))
 obtain rfl := sj hm
 exact BM (v0 := a6) (v1 := (.bool i8)) rfl rfl (jG d.has (Mt (Mt Mh)) rfl isAgg64) rfl (jG d.has (Mt Mh) rfl isAgg4) ⟨_, _, rfl, (d.EV (Db (Db (Db (Kr Sn))))), a6, a9, rfl, rfl, i0⟩
theorem yL (a : mM) (y B i x j G : Value) (r : (Int × Bool)) (w : World) (t : Sl jW 15 (hp w) y a.jq.jF) (z : Sl kQ 8 (hp w) B a.jq.jS) (c : Sl jW 15 (hp w) i a.Client.jF) (k : Sl kQ 8 (hp w) x a.Client.jS) (g : Sl jo 5 (hp w) j a.Formula.Kids) (D : Sl qw 2 (hp w) G a.Keys) (hm : oB a = some r) :
  ke false pg0 14 [(.agg #[(.string a.jq.Name), y, B, (.string a.Client.Name), i, x, (.int .i64 a.Formula.Op), (.int .i64 a.Formula.K), (.string a.Formula.jl.jq), (.string a.Formula.jl.jv), j, (.int .i64 a.vo), (.int .i64 a.nG.og), (.int .i64 a.nG.nB), (.int .i64 a.pC), (.int .i64 a.th), (.int .i64 a.qN), G])] w (.tuple #[(.int .i64 r.1), (.bool r.2)]) := by
 refine cG 15 func14 rfl (fun b => sg ?_)
 obtain ⟨M, Y, rfl⟩ := t.form
 obtain ⟨N, Z, rfl⟩ := z.form
 obtain ⟨Q, h, rfl⟩ := c.form
 obtain ⟨T, l, rfl⟩ := k.form
 obtain ⟨U, J, rfl⟩ := g.form
 obtain ⟨I, K, rfl⟩ := D.form
 refine VE (kq b rfl (fun E O b => Wa (Wa (lr (VA b Mh (C2 a.jq.Name M a.jq.jF.length Y N a.jq.jS.length Z a.Client.Name Q a.Client.jF.length h T a.Client.jS.length l a.Formula.Op a.Formula.K a.Formula.jl.jq a.Formula.jl.jv U a.Formula.Kids.length J a.vo a.nG.og a.nG.nB a.pC a.th a.qN I a.Keys.length K) fI eO (bS hm fun p a5 hm => ?_))))))
 refine VE (yb b (bR _) call30 (fun _ _ _ _ => (Dt a (.slice M a.jq.jF.length Y) (.slice N a.jq.jS.length Z) (.slice Q a.Client.jF.length h) (.slice T a.Client.jS.length l) (.slice U a.Formula.Kids.length J) (.slice I a.Keys.length K) _ _ (t.mono kc.mono b.jy) (z.mono mn.mono b.jy) (c.mono kc.mono b.jy) (k.mono mn.mono b.jy) (g.mono jD.mono b.jy) (D.mono yf.mono b.jy) a5)) (fun L P W a9 b q m d a3 => ?_) (L0 := []))
 obtain ⟨R, s, H, rfl, n⟩ := a3
 replace H := H.symm; subst H
 replace b := b.perm (Tr Tn)
 refine Wm (Wx rfl (Wx rfl (Wa (Wa (ln ?_)))))
 replace b := b.js (Kr (Db St))
 refine jI (sg (Wm (V (pa rfl) (ln (CI hm rfl (fun a4 hm => ?_) (fun a4 hm => ?_))))))
 ·refine sg (Wa (Wa (ln ?_)))
  replace b := b.js (Dr St)
  refine kv (kI ?_)
  obtain rfl := sj hm
  exact Aq (v := (.int .i64 0)) (u := (.bool false)) rfl rfl rfl ⟨rfl, b.ex⟩
 refine kg (Wm (V (oe ic rfl n) (Wa (Wa (ln ?_)))))
 replace b := b.js (Dr St)
 refine kv ?_
 obtain rfl := sj hm
 exact Aq (v := (.int .i64 (p.1.length : Int))) (u := (.bool true)) rfl rfl rfl ⟨rfl, b.ex⟩
theorem Ds (a : mM) (I J D H G a9 : Value) (p : Int) (N : jm) (r : (Int × Bool)) (w : World) (y : Sl jW 15 (hp w) I a.jq.jF) (z : Sl kQ 8 (hp w) J a.jq.jS) (k : Sl jW 15 (hp w) D a.Client.jF) (u : Sl kQ 8 (hp w) H a.Client.jS) (t : Sl jo 5 (hp w) G a.Formula.Kids) (U : Sl qw 2 (hp w) a9 a.Keys) (hm : vj a p N = some r) :
  ke false pg0 11 [(.agg #[(.string a.jq.Name), I, J, (.string a.Client.Name), D, H, (.int .i64 a.Formula.Op), (.int .i64 a.Formula.K), (.string a.Formula.jl.jq), (.string a.Formula.jl.jv), G, (.int .i64 a.vo), (.int .i64 a.nG.og), (.int .i64 a.nG.nB), (.int .i64 a.pC), (.int .i64 a.th), (.int .i64 a.qN), a9]), (.int .i64 p), (.agg (jr N).toArray)] w (.tuple #[(.int .i64 r.1), (.bool r.2)]) := by
 have d := ST.start (dd := false) w
 refine Ej (n := 28) func11 rfl rfl nb (xw (jC ?_))
 obtain ⟨A1, c2, rfl⟩ := y.form
 obtain ⟨A3, c4, rfl⟩ := z.form
 obtain ⟨A5, c6, rfl⟩ := k.form
 obtain ⟨A7, c8, rfl⟩ := u.form
 obtain ⟨A9, d1, rfl⟩ := t.form
 obtain ⟨d0, d2, rfl⟩ := U.form
 refine VE (kq d rfl (fun k2 k8 d => VE (kq d rfl (fun k3 a3 d => VE (kq d rfl (fun k4 a4 d => VE (kx d iV (fun k5 Q d => VE (kx d gJ (fun k6 T d => ln (NB (xw (jC (VA d (Mt (Mt (Mt (Mt Mh)))) (C2 a.jq.Name A1 a.jq.jF.length c2 A3 a.jq.jS.length c4 a.Client.Name A5 a.Client.jF.length c6 A7 a.Client.jS.length c8 a.Formula.Op a.Formula.K a.Formula.jl.jq a.Formula.jl.jv A9 a.Formula.Kids.length d1 a.vo a.nG.og a.nG.nB a.pC a.th a.qN d0 a.Keys.length d2) fI eO (bS hm fun Z g4 hm => ?_)))))))))))))))
 refine VE (yb d (bR _) call8 (fun _ _ _ _ => kA.lR (vx a (.slice A1 a.jq.jF.length c2) (.slice A3 a.jq.jS.length c4) (.slice A5 a.Client.jF.length c6) (.slice A7 a.Client.jS.length c8) (.slice A9 a.Formula.Kids.length d1) (.slice d0 a.Keys.length d2) _ _ (y.mono kc.mono d.jy) (z.mono mn.mono d.jy) (k.mono kc.mono d.jy) (u.mono mn.mono d.jy) (t.mono jD.mono d.jy) (U.mono yf.mono d.jy) g4)) (fun k7 k9 h4 k1 d Y aj ag g3 => ?_) (L0 := []))
 obtain ⟨f7, c9, rfl⟩ := g3
 replace c9 := c9.symm; subst c9
 replace d := d.perm (Tb Tn)
 refine ln ?_
 replace d := d.js (Kb (Kb (Kb (Kb (Kb (Db St))))))
 refine Hz (Hx d rfl call24 (fun O aa Lp W L d => ?_))
 let e5 : Value := (.func (.yield O) #[] #[])
 have hy : zH pg0 e5 h4 (Ft O Lp (fun (s : Unit) (R : LO) => R = ((T, Ob #[(.bool false)] 4) :: ((Q, Ob #[(.int .i64 0)] 3) :: ((a4, Ol (jr N) 49) :: ((a3, Ob #[(.int .i64 p)] 3) :: []))))) (fun (s : (Bool × Int)) (R : LO) => R = ((T, Ob #[(.bool s.1)] 4) :: ((Q, Ob #[(.int .i64 s.2)] 3) :: [])))) (fun (μ : jN) (vs : List Value) (x : (Int × kf)) => ∃ zs : List Value, vs = [(.int .i64 x.1), .agg zs.toArray] ∧ oH μ zs x.2) (fun b => .bool b) (wT (fun (s : Unit) (x : (Int × kf)) => oS p N x.1 x.2)) := by
  let e4 := (#[(.int .i64 0)] : Array Value)
  let e3 := (#[(.bool false)] : Array Value)
  let e2 := (#[(.int .i64 p)] : Array Value)
  let e1 := ((jr N).toArray : Array Value)
  let a2 := ((T, Obj.cells e3 4 (0, 0)) :: ((Q, Obj.cells e4 3 (0, 0)) :: ((a4, Obj.cells e1 49 (0, 0)) :: ((a3, Obj.cells e2 3 (0, 0)) :: []))))
  refine HI L (by rintro _ _ _ ⟨_, rfl, _⟩; rfl) dc (fun w s x vs g7 R0 e0 h2 ah ab ad hI d ae b0 => ?_)
  obtain ⟨_, rfl, h1⟩ := ae
  obtain ⟨P, B⟩ := x
  obtain ⟨j3, j4, rfl, q, v⟩ := h1.out
  obtain ⟨⟩ := s
  subst hI
  replace b0 : oS p N P B = some g7 := b0
  unfold Lz
  generalize Gl O = M
  refine sg (Wa (ln (jC (VE (kx d jh (fun h7 c1 d => ?_))))))
  obtain ⟨b1, b3, rfl⟩ := q.form
  let a7 : Value := (.slice b1 B.og.length b3)
  obtain ⟨b2, b4, rfl⟩ := v.form
  let b8 : Value := (.slice b2 B.nB.length b4)
  refine VO (jL (.agg #[a7, b8]) (#[a7, b8]) d rfl rfl sizeOf43 oc nb rfl (fun h8 d => ln ⟨d.lO O ab ad, fun o => ?_⟩))
  replace d := d.frame o ab ad ah
  generalize w.putObj O o = w at d ⊢
  refine kX (jI ?_)
  replace d := d.drew
  have h := d.has.js (Kb (Db (Db (Kb (Kb Sn)))))
  refine kN h ki (XH 0 rfl h (fun _ m => jt rfl (jG m (Mt (Mt Mh)) rfl cJ)) (X 1 rfl h (ko rfl rfl rfl) (X 2 rfl h (jx rfl) (PJ b0 (fun d9 E W => ∃ d5, ST false (keys a2) w W e0 ((c1, Ob #[a7, b8] 43) :: ((T, Obj.cells e3 4 (0, 0)) :: ((Q, Obj.cells e4 3 (0, 0)) :: ((a4, Obj.cells e1 49 (0, 0)) :: ((a3, Obj.cells e2 3 (0, 0)) :: d5))))) ∧ E 4 = (.pointer (some ⟨a3, 0, none⟩)) ∧ E 5 = (.pointer (some ⟨a4, 0, none⟩)) ∧ E 6 = (.pointer (some ⟨Q, 0, none⟩)) ∧ E 7 = (.pointer (some ⟨T, 0, none⟩)) ∧ E 8 = (.int .i64 P) ∧ E 9 = (.pointer (some ⟨c1, 0, none⟩)) ∧ E 19 = (.bool d9)) (bm 13 63) 7 ?_ (fun d9 a6 c0 => ?_)))))
  ·rintro j8 E W ⟨d5, d, b7, b5, c3, c5, c7, d7, f8⟩ f2
   have h := d.has.js (Kb (Db (Db (Kb (Kb Sn)))))
   refine X 6 rfl h (jx f8) (PJ f2 (fun d8 E W => ∃ d6, ST false (keys a2) w W e0 ((c1, Ob #[a7, b8] 43) :: ((T, Obj.cells e3 4 (0, 0)) :: ((Q, Obj.cells e4 3 (0, 0)) :: ((a4, Obj.cells e1 49 (0, 0)) :: ((a3, Obj.cells e2 3 (0, 0)) :: d6))))) ∧ E 4 = (.pointer (some ⟨a3, 0, none⟩)) ∧ E 5 = (.pointer (some ⟨a4, 0, none⟩)) ∧ E 6 = (.pointer (some ⟨Q, 0, none⟩)) ∧ E 7 = (.pointer (some ⟨T, 0, none⟩)) ∧ E 8 = (.int .i64 P) ∧ E 26 = (.bool d8)) (bm 13 8191) 0 ?_ (fun d8 g b6 => ?_))
   ·rintro j9 E W ⟨d6, d, i6, i7, f9, g0, g1, g2⟩ a5
    refine kM kr (jH ?_)
    replace d := d.js (Db St)
    refine CI a5 g2 (fun f1 a5 => ?_) (fun f1 a5 => ?_)
    ·refine sg (Wh g1 ?_)
     replace d := d.perm (Nb (Pb Pz) Nz)
     refine VO (jL (.int .i64 P) (#[(.int .i64 P)]) d f9 rfl dR (wc _ P) nb rfl (fun h9 d => ?_))
     replace d := d.perm (Nb (Pb Pz) Nz)
     refine VO (jL (.bool true) (#[(.bool true)]) d g0 rfl sizeOf4 (IU true) nb rfl (fun i0 d => lt (nt (kI (KZ ?_)))))
     obtain rfl := sj a5
     exact ⟨_, (d.mi (Kb (Kb Sn))), rfl, rfl⟩
    refine lJ (kz (jH ?_))
    obtain rfl := sj a5
    exact ⟨_, (d.mi (Kb (Kb (Kb (Kb Sn))))), rfl, rfl⟩
   refine bC g (fun c g => ?_) (fun c g => ?_)
   ·refine uW 7 rfl rfl (cB c) h (fun _ m => jt b7 (jG m (Mt (Mt Mh)) rfl cJ)) (bC g (fun d3 g => ?_) (fun d3 g => ?_))
    ·refine Xg 8 rfl rfl (cB c) h (ml (i := 0) dp dw d7 (Dl (j := 0) d3 rfl) dc dc) (uW 9 rfl rfl (cB c) h (fun _ m => jt rfl (jG m Mh rfl dY)) (uW 10 rfl rfl (cB c) h (fun _ m => jt b5 (jA m (Mt Mh) (jr N) rfl bX aQ)) (bS g fun i8 f3 g => HS 11 rfl rfl (cB c) (Eg d call29 (ke.lR (xQ a7 B.og N _ _ (q.mono (Pl.mono _) d.jy) f3)) (fun i1 d => ?_)))))
     have h := d.has.js (Kb (Db (Db (Kb (Kb Sn)))))
     refine ⟨h, (X 12 rfl h (jO (cB c) rfl) ?_)⟩
     obtain rfl := sj g
     refine oF kr (b6 _ _ ⟨_, (d.js St), b7, b5, c3, c5, c7, rfl⟩)
    refine bC g (fun d4 g => ?_) (fun d4 g => ?_)
    ·refine Xg 8 rfl rfl (cB c) h (ml (i := 1) dp dw d7 (Dl (j := 1) d4 rfl) dc dc) (uW 9 rfl rfl (cB c) h (fun _ m => jt rfl (jG m Mh rfl dY)) (uW 10 rfl rfl (cB c) h (fun _ m => jt b5 (jA m (Mt Mh) (jr N) rfl bX aQ)) (bS g fun i9 f4 g => HS 11 rfl rfl (cB c) (Eg d call29 (ke.lR (xQ b8 B.nB N _ _ (v.mono (Pl.mono _) d.jy) f4)) (fun i2 d => ?_)))))
     have h := d.has.js (Kb (Db (Db (Kb (Kb Sn)))))
     refine ⟨h, (X 12 rfl h (jO (cB c) rfl) ?_)⟩
     obtain rfl := sj g
     refine oF kr (b6 _ _ ⟨_, (d.js St), b7, b5, c3, c5, c7, rfl⟩)
    cases g
   refine Xn 7 rfl rfl (cB c) h (Xn 8 rfl rfl (cB c) h (Xn 9 rfl rfl (cB c) h (Xn 10 rfl rfl (cB c) h (Xn 11 rfl rfl (cB c) h (X 12 rfl h (jQ (cB c) rfl) ?_)))))
   obtain rfl := sj g
   refine oF kr (b6 _ _ ⟨_, (d.js St), b7, b5, c3, c5, c7, rfl⟩)
  refine bC a6 (fun K a6 => ?_) (fun K a6 => ?_)
  ·refine uW 3 rfl rfl (cB K) h (fun _ m => jt rfl (jG m (Mt (Mt Mh)) rfl cJ)) (Xg 4 rfl rfl (cB K) h (ko rfl rfl rfl) (X 5 rfl h (jO (cB K) rfl) ?_))
   obtain rfl := sj a6
   refine oF kr (c0 _ _ ⟨_, (d.js St), rfl, rfl, rfl, rfl, rfl, rfl, rfl⟩)
  refine Xn 3 rfl rfl (cB K) h (Xn 4 rfl rfl (cB K) h (X 5 rfl h (jQ (cB K) rfl) ?_))
  obtain rfl := sj a6
  refine oF kr (c0 _ _ ⟨_, (d.js St), rfl, rfl, rfl, rfl, rfl, rfl, rfl⟩)
 refine bS hm fun j0 f5 hm => ?_
 let a0 := ((T, Ob #[(.bool false)] 4) :: ((Q, Ob #[(.int .i64 0)] 3) :: ((a4, Ol (jr N) 49) :: ((a3, Ob #[(.int .i64 p)] 3) :: []))))
 refine E7 (args := [e5, (.pointer (some ⟨f7, 0, none⟩))]) d (Cr (Cb Pz (Cb (Pb (Pb Pz)) (Cb (Pb (Pb Pz)) (Cb (Pb (Pb Pz)) (Cb (Pb (Pb Pz)) Cn))))) Cn) rfl (fun hH hN l ai => (sn (Ft O Lp (fun (s : Unit) (R : LO) => R = a0) (fun (s : (Bool × Int)) (R : LO) => R = ((T, Ob #[(.bool s.1)] 4) :: ((Q, Ob #[(.int .i64 s.2)] 3) :: [])))) e5 (wT (fun (s : Unit) (x : (Int × kf)) => oS p N x.1 x.2)) (Sum.inl ()) ((O, (Obj.loop Lp)) :: a0) f7 Z.1 (.slice A1 a.jq.jF.length c2) a.jq.jF (.slice A3 a.jq.jS.length c4) a.jq.jS Z.2.1 (.slice A5 a.Client.jF.length c6) a.Client.jF (.slice A7 a.Client.jS.length c8) a.Client.jS Z.2.2.1 Z.2.2.2.1 Z.2.2.2.2.1 (.slice A9 a.Formula.Kids.length d1) a.Formula.Kids Z.2.2.2.2.2.1 Z.2.2.2.2.2.2.1 Z.2.2.2.2.2.2.2.1 Z.2.2.2.2.2.2.2.2.1 Z.2.2.2.2.2.2.2.2.2 (.slice d0 a.Keys.length d2) a.Keys _ _ ⟨hH, hN, jR.refl _⟩ (hy.mono l) ⟨_, rfl, rfl⟩ (y.mono kc.mono (Y.trans l)) (z.mono mn.mono (Y.trans l)) (k.mono kc.mono (Y.trans l)) (u.mono mn.mono (Y.trans l)) (t.mono jD.mono (Y.trans l)) (U.mono yf.mono (Y.trans l)) (At.of (ai _ _ (Mt Mh)) _ rfl) f5)) (fun i3 j7 k0 h5 d h3 af f0 => ?_)
 obtain ⟨h6, b9, rfl, f6⟩ := f0
 replace b9 := b9.symm; subst b9
 simp only [aG, bA, aP] at d
 refine Ks L.st L.pe d f6 (fun s W R0 o hq hI d => ?_) (fun s W R0 o hq hI d => ?_)
 ·subst hq
  try dsimp only at hm
  obtain ⟨⟩ := s
  subst hI
  try simp only [aG, bA, aP] at d
  refine kz (jH ?_)
  replace d := d.js (Kb (Kb (Db (Db (Db (Kb (Db St)))))))
  generalize KV [{ target := .collected aa, args := #[] }] = M
  refine sg ?_
  replace d := d.perm (Nb (Pb Pz) Nz)
  refine VO (jL (.int .i64 0) (#[(.int .i64 0)]) d rfl rfl dR (wc _ 0) nb rfl (fun i4 d => ?_))
  replace d := d.perm (Nb (Pb Pz) Nz)
  refine VO (jL (.bool false) (#[(.bool false)]) d rfl rfl sizeOf4 (IU false) nb rfl (fun i5 d => lt (CH d (Nb (Pb (Pb Pz)) Nz) (fun W d => ?_))))
  obtain rfl := sj hm
  exact BM (v0 := (.int .i64 0)) (v1 := (.bool false)) rfl rfl (jG d.has (Mt (Mt Mh)) rfl cJ) rfl (jG d.has (Mt Mh) rfl isAgg4) ⟨rfl, d.ex⟩
 subst hq
 try dsimp only at hm
 obtain ⟨g8, g9⟩ := s
 subst hI
 try simp only [aG, bA, aP] at d
 refine nt (kI (CH d (Nb (Pb (Pb (Pb Pz))) Nz) (fun W d => ?_)))
 obtain rfl := sj hm
 exact BM (v0 := (.int .i64 g9)) (v1 := (.bool g8)) rfl rfl (jG d.has (Mt (Mt Mh)) rfl cJ) rfl (jG d.has (Mt Mh) rfl isAgg4) ⟨rfl, d.ex⟩
theorem Ic (a : mM) (y B i x j G : Value) (r : ((List ky) × Bool)) (w : World) (t : Sl jW 15 (hp w) y a.jq.jF) (z : Sl kQ 8 (hp w) B a.jq.jS) (c : Sl jW 15 (hp w) i a.Client.jF) (k : Sl kQ 8 (hp w) x a.Client.jS) (g : Sl jo 5 (hp w) j a.Formula.Kids) (D : Sl qw 2 (hp w) G a.Keys) (hm : xf a = some r) :
  kA false pg0 17 [(.agg #[(.string a.jq.Name), y, B, (.string a.Client.Name), i, x, (.int .i64 a.Formula.Op), (.int .i64 a.Formula.K), (.string a.Formula.jl.jq), (.string a.Formula.jl.jv), j, (.int .i64 a.vo), (.int .i64 a.nG.og), (.int .i64 a.nG.nB), (.int .i64 a.pC), (.int .i64 a.th), (.int .i64 a.qN), G])] w [] (fun v L1 W' => ∃ p S2, v = (.tuple #[p, (.bool (r.2))]) ∧ L1 = (S2 ++ []) ∧ jM 31 lu 2 p r.1 S2) := by
 refine yc 8 func17 rfl (fun b => sg ?_)
 obtain ⟨N, Z, rfl⟩ := t.form
 obtain ⟨Q, h, rfl⟩ := z.form
 obtain ⟨T, l, rfl⟩ := c.form
 obtain ⟨U, m, rfl⟩ := k.form
 obtain ⟨Y, J, rfl⟩ := g.form
 obtain ⟨I, K, rfl⟩ := D.form
 refine VE (kq b rfl (fun O R b => Wa (Wa (lr (VA b Mh (C2 a.jq.Name N a.jq.jF.length Z Q a.jq.jS.length h a.Client.Name T a.Client.jF.length l U a.Client.jS.length m a.Formula.Op a.Formula.K a.Formula.jl.jq a.Formula.jl.jv Y a.Formula.Kids.length J a.vo a.nG.og a.nG.nB a.pC a.th a.qN I a.Keys.length K) fI eO (bS hm fun a9 a5 hm => ?_))))))
 refine VE (yb b (bR _) call30 (fun _ _ _ _ => (Dt a (.slice N a.jq.jF.length Z) (.slice Q a.jq.jS.length h) (.slice T a.Client.jF.length l) (.slice U a.Client.jS.length m) (.slice Y a.Formula.Kids.length J) (.slice I a.Keys.length K) _ _ (t.mono kc.mono b.jy) (z.mono mn.mono b.jy) (c.mono kc.mono b.jy) (k.mono mn.mono b.jy) (g.mono jD.mono b.jy) (D.mono yf.mono b.jy) a5)) (fun P W b9 L b E n d a4 => ?_) (L0 := []))
 obtain ⟨M, s, H, rfl, q⟩ := a4
 replace H := H.symm; subst H
 replace b := b.perm (Tr Tn)
 refine Wx rfl (Wx rfl (Wa (Wa (ln ?_))))
 replace b := b.js (Kr (Db St))
 refine kv ?_
 obtain rfl := sj hm
 exact Aq (v := M) (u := (.bool a9.2)) rfl rfl rfl ⟨_, _, rfl, (b.EV (Kr Sn)), M, s, rfl, rfl, q⟩
theorem DG (x : Int) (t : kf) (a c : Value) (g : Nat) (k : Int) (r : (Bool × Int)) (w : World) {u : jN} (H : nT u ((g, Ob #[(.int .i64 k)] 3) :: []) w) (i : Sl (Pl jr) 9 u a t.og) (j : Sl (Pl jr) 9 u c t.nB) (hm : pW x t k = some r) :
  kA true pg0 18 [(.int .i64 x), (.agg #[a, c]), (.pointer (some ⟨g, 0, none⟩))] w ((g, Ob #[(.int .i64 k)] 3) :: []) (fun v B W' => v = (.bool (r.1)) ∧ B = ((g, Ob #[(.int .i64 (r.2))] 3) :: [])) := by
 refine xL H 8 func18 rfl (fun b => sg ?_)
 obtain ⟨y, D, rfl⟩ := i.form
 obtain ⟨z, G, rfl⟩ := j.form
 refine VE (kq b rfl (fun I K b => Wa (ln ?_)))
 replace b := b.js (Db St)
 refine sg (VB b Mh rfl rfl cJ (Wi rfl (VO (jL (.int .i64 (wi0 .i64 (k + 1))) (#[(.int .i64 (wi0 .i64 (k + 1)))]) b rfl rfl dR (wc _ (wi0 .i64 (k + 1))) nb rfl (fun J b => lr (Wa (lt ?_)))))))
 obtain rfl := sj hm
 exact li (v := (.bool true)) rfl rfl ⟨_, _, rfl, (b.mi (Kb Sn)), rfl, rfl⟩
set_option maxHeartbeats 4000000 in
theorem H8 (r : Bool) (w : World) (hm : tG  = some r) :
  ke false pg0 5 [] w (.bool r) := by
 have d := ST.start (dd := false) w
 unfold tG at hm
 refine cF 109 func5 rfl (jI (jC (V (ma rfl) (jU (jH (jI (jC (V (mr (qs := #[(0, (.string K4))]) (v := (.agg #[(.string K4), (.slice none 0 0), (.slice none 0 0)])) (mD rfl) (lM zeroValue25 fj (Ro _ fj) (by kernel_rfl))) (V (mr (qs := #[(0, (.string K3))]) (v := (.agg #[(.string K3), (.slice none 0 0), (.slice none 0 0)])) (mD rfl) (lM zeroValue25 fj (Ro _ fj) (by kernel_rfl))) (V (mr (qs := #[(0, (.int .i64 2))]) (v := (.agg Gf.toArray)) (mD rfl) (lM bG bZ (yK _ bZ) (by kernel_rfl))) (V (mr (qs := #[(0, (.agg #[(.string K4), (.slice none 0 0), (.slice none 0 0)])), (1, (.agg #[(.string K3), (.slice none 0 0), (.slice none 0 0)])), (2, (.agg Gf.toArray))]) (v := (.agg O1.toArray)) (GO rfl rfl rfl) (lM zeroValue34 fQ (Th _ fQ) (by kernel_rfl))) (VE (kx d zeroValue34 (fun W2 b1 d => VO (jL (.agg O1.toArray) (O1.toArray) d rfl rfl eO (by simp [Value.cells, Value.oneCell']) nb rfl (fun W3 d => jU ?_))))))))))))))))
 refine jH (jI (jC (V (jt rfl (jA d.has Mh O1 rfl fI eO)) (bS hm fun r4 o3 hm => VE (Eg d call14 (yL (⟨Kj, (⟨K3, [], []⟩ : jX), K9, 0, K5, 0, 0, 0, []⟩ : mM) (.slice none 0 0) (.slice none 0 0) (.slice none 0 0) (.slice none 0 0) (.slice none 0 0) (.slice none 0 0) _ _ (Sl.nil _ _ _) (Sl.nil _ _ _) (Sl.nil _ _ _) (Sl.nil _ _ _) (Sl.nil _ _ _) (Sl.nil _ _ _) o3) (fun W6 d => V (jx rfl) (V (qa rfl rfl) (V (qa rfl rfl) (V (ma rfl) (V (ma rfl) (jU (jH (jI (jC ?_))))))))))))))
 refine V (mr (qs := #[(0, (.string K1)), (1, (.string K2))]) (v := (.agg (ju K7).toArray)) (sa rfl rfl) (lM fg dM (NS _ dM) (by kernel_rfl))) (V (mr (qs := #[(0, (.int .i64 1)), (1, (.agg (ju K7).toArray)), (2, (.string K3))]) (v := (.agg (jr wC).toArray)) (GO rfl rfl rfl) (lM dn dN (QG _ dN) (by kernel_rfl))) (VE (kx d dn (fun W8 b7 d => VO (jL (.agg (jr wC).toArray) ((jr wC).toArray) d rfl rfl aQ (nw wC) nb rfl (fun W9 d => jU (jH (jI ?_))))))))
 replace d := d.drew
 have m := d.has.js (Kb Sn)
 refine kN m ki (XH 0 rfl m (fun _ hS => jt rfl (jA hS Mh (jr wC) rfl bX aQ)) (X 3 rfl m (mr (qs := #[(0, (.int .i64 2))]) (v := (.agg Gf.toArray)) (mD rfl) (lM bG bZ (yK _ bZ) (by kernel_rfl))) (bS hm fun a n6 hm => XE 1 rfl (JQ (enc := (kP .u8)) (z := 0) d (fun _ => rfl) (by decide) cQ rJ.1 rJ.2.1 rJ.2.2.1 rJ.2.2.2 rfl rfl rfl n6 (fun q8 r9 q7 d c9 => ?_)))))
 have m := d.has.js (Dr (Kb Sn))
 refine ⟨m, ?_⟩
 have L := c9.form
 obtain ⟨j, k, rfl⟩ := L
 refine X 2 rfl m (mr (qs := #[(0, (.agg (jr wC).toArray)), (1, (.slice j a.length k))]) (v := (.agg #[(.int .i64 1), (.string (K7.jq)), (.string (K7.jv)), (.string K3), (.string (K0.jq)), (.string (K0.jv)), (.string (K0.jq)), (.string (K0.jv)), (.string zS), (.slice j a.length k)])) (sa rfl rfl) (lM jj gZ (Tf _ gZ) (by kernel_rfl))) (X 4 rfl m (mr (qs := #[(0, (.agg #[(.int .i64 1), (.string (K7.jq)), (.string (K7.jv)), (.string K3), (.string (K0.jq)), (.string (K0.jv)), (.string (K0.jq)), (.string (K0.jv)), (.string zS), (.slice j a.length k)])), (1, (.agg Gf.toArray))]) (v := (.agg (C4 j a.length k).toArray)) (sa rfl rfl) (lM gp fP (Q1 _ fP) (by kernel_rfl))) ?_)
 have p1 := c9.OS d (fun p n => (Ml n))
 have L := ST.Fi d c9 (fun _ => rfl)
 obtain ⟨s1, d, d2, ah, a6⟩ := L
 refine XE 5 rfl (kp (qs := #[(0, (.agg (C4 j a.length k).toArray))]) (cs := (C4 j a.length k).toArray) d (mD rfl) (Ak [(.agg (C4 j a.length k).toArray)] fu eL gp (by decide) rfl (by intro v hv; simp only [aK, cP, eV] at hv; rcases hv with rfl <;> rfl) rfl rfl) (fun q9 u d => ?_))
 have m := d.has.zB d2 (Db (Kb Sn))
 refine ⟨m, (X 6 rfl m (jB Ap rfl) (X 7 rfl m (jB DJ rfl) ?_))⟩
 replace d := d.perm (Nb (Pb (Pb Pz)) Nz)
 refine XO 8 rfl (jL (.slice (some ⟨u, 0, none⟩) 1 1) (#[(.string K4), (.slice none 0 0), (.slice none 0 0), (.string K3), (.slice (some ⟨u, 0, none⟩) 1 1), (.slice none 0 0), (.int .i64 2), (.int .i64 0), (.string zS), (.string zS), (.slice none 0 0), (.int .i64 0), (.int .i64 0), (.int .i64 0), (.int .i64 0), (.int .i64 0), (.int .i64 0), (.slice none 0 0)]) d rfl rfl sizeOf22 (by simp [Value.cells, Value.oneCell']) nb rfl (fun r0 d => ?_))
 have m := d.has.zB d2 (Db (Db (Kb Sn)))
 refine ⟨m, (kM (by kernel_rfl) (jH (jI (jC (V (jB rW rfl) (V (jt rfl (jA d.has (Mt (Mt Mh)) (ju K7) rfl bQ aT)) (V (mr (qs := #[(0, (.int .i64 1)), (2, (.agg (ju K7).toArray))]) (v := (.agg #[(.int .i64 1), (.int .i64 0), (.string (K7.jq)), (.string (K7.jv)), (.slice none 0 0)])) (sa rfl rfl) (lM bG bZ (yK _ bZ) (by kernel_rfl))) (V (jB Gm rfl) (VO (jL (.agg #[(.int .i64 1), (.int .i64 0), (.string (K7.jq)), (.string (K7.jv)), (.slice none 0 0)]) ((C7 u).toArray) d rfl rfl aC (by simp [Value.cells, Value.oneCell']) nb rfl (fun r1 d => jU (jH (jI (jC (V (jt rfl (jA d.has Mh (C7 u) rfl fI eO)) ?_)))))))))))))))⟩
 refine bS hm fun i6 n7 hm => VE (Eg d call14 (yL (⟨Kj, (⟨K3, [(⟨(⟨wC, a⟩ : Signed), K9⟩ : kd)], []⟩ : jX), Nx, 0, K5, 0, 0, 0, []⟩ : mM) (.slice none 0 0) (.slice none 0 0) (.slice (some ⟨u, 0, none⟩) 1 1) (.slice none 0 0) (.slice none 0 0) (.slice none 0 0) _ _ (Sl.nil _ _ _) (Sl.nil _ _ _) ((kw.lit kc (l := [(⟨(⟨wC, a⟩ : Signed), K9⟩ : kd)]) (.cons (ys := C4 j a.length k) (jW.mk ⟨(.slice j a.length k), (.slice none 0 0), rfl, a6, (Sl.nil _ _ _)⟩) .nil) rfl nb rfl).sl kc d.jy (fun b o n => (by rw [bM] at n; cases n; exact d.at_ (Mt Mh)))) (Sl.nil _ _ _) (Sl.nil _ _ _) (Sl.nil _ _ _) n7) (fun r2 d => V (jx rfl) (V (qa rfl rfl) (V (qa rfl rfl) (V (ma rfl) (V (ma rfl) (jU (jH (jI (jC (V (jt rfl (jA d.has Mh (C7 u) rfl fI eO)) (V (jt rfl (jA d.has (Mt (Mt Mh)) (jr wC) rfl bX aQ)) (bS hm fun a9 n8 hm => VE (Eg d call11 (Ds (⟨Kj, (⟨K3, [(⟨(⟨wC, a⟩ : Signed), K9⟩ : kd)], []⟩ : jX), Nx, 0, K5, 0, 0, 0, []⟩ : mM) (.slice none 0 0) (.slice none 0 0) (.slice (some ⟨u, 0, none⟩) 1 1) (.slice none 0 0) (.slice none 0 0) (.slice none 0 0) 1 wC _ _ (Sl.nil _ _ _) (Sl.nil _ _ _) ((kw.lit kc (l := [(⟨(⟨wC, a⟩ : Signed), K9⟩ : kd)]) (.cons (ys := C4 j a.length k) (jW.mk ⟨(.slice j a.length k), (.slice none 0 0), rfl, a6, (Sl.nil _ _ _)⟩) .nil) rfl nb rfl).sl kc d.jy (fun b o n => (by rw [bM] at n; cases n; exact d.at_ (Mt Mh)))) (Sl.nil _ _ _) (Sl.nil _ _ _) (Sl.nil _ _ _) n8) (fun r3 d => ?_)))))))))))))))
 refine V (jx rfl) (V (qa rfl rfl) (V (qa rfl rfl) (V (ma rfl) (V (ma rfl) (jU (jH (jI (jC (V (jt rfl (jA d.has Mh (C7 u) rfl fI eO)) (V (jt rfl (jA d.has (Mt (Mt Mh)) (jr wC) rfl bX aQ)) (bS hm fun c7 n9 hm => VE (Eg d call11 (Ds (⟨Kj, (⟨K3, [(⟨(⟨wC, a⟩ : Signed), K9⟩ : kd)], []⟩ : jX), Nx, 0, K5, 0, 0, 0, []⟩ : mM) (.slice none 0 0) (.slice none 0 0) (.slice (some ⟨u, 0, none⟩) 1 1) (.slice none 0 0) (.slice none 0 0) (.slice none 0 0) 0 wC _ _ (Sl.nil _ _ _) (Sl.nil _ _ _) ((kw.lit kc (l := [(⟨(⟨wC, a⟩ : Signed), K9⟩ : kd)]) (.cons (ys := C4 j a.length k) (jW.mk ⟨(.slice j a.length k), (.slice none 0 0), rfl, a6, (Sl.nil _ _ _)⟩) .nil) rfl nb rfl).sl kc d.jy (fun b o n => (by rw [bM] at n; cases n; exact d.at_ (Mt Mh)))) (Sl.nil _ _ _) (Sl.nil _ _ _) (Sl.nil _ _ _) n9) (fun r5 d => V (jx rfl) (V (qa rfl rfl) ?_))))))))))))))
 refine V (qa rfl rfl) (V (ma rfl) (V (ma rfl) (jU (jH ?_))))
 replace d := d.js (Kb (Kb (Db St)))
 refine jI (jC (V (jt rfl (jA d.has Mh (C7 u) rfl fI eO)) (bS hm fun b0 o0 hm => ?_)))
 have ab := d.size
 refine VE (yb d (bR _) call17 (fun _ _ _ _ => (Ic (⟨Kj, (⟨K3, [(⟨(⟨wC, a⟩ : Signed), K9⟩ : kd)], []⟩ : jX), Nx, 0, K5, 0, 0, 0, []⟩ : mM) (.slice none 0 0) (.slice none 0 0) (.slice (some ⟨u, 0, none⟩) 1 1) (.slice none 0 0) (.slice none 0 0) (.slice none 0 0) _ _ (Sl.nil _ _ _) (Sl.nil _ _ _) ((kw.lit kc (l := [(⟨(⟨wC, a⟩ : Signed), K9⟩ : kd)]) (.cons (ys := C4 j a.length k) (jW.mk ⟨(.slice j a.length k), (.slice none 0 0), rfl, a6, (Sl.nil _ _ _)⟩) .nil) rfl nb rfl).sl kc d.jy (fun b o n => (by rw [bM] at n; cases n; exact d.at_ (Mt Mh)))) (Sl.nil _ _ _) (Sl.nil _ _ _) (Sl.nil _ _ _) o0)) (fun r6 s0 s2 q6 d d3 ai q n5 => ?_) (L0 := []))
 obtain ⟨P, O, d0, rfl, d1⟩ := n5
 replace d0 := d0.symm; subst d0
 replace d := d.perm (Tr Tn)
 refine V (jx rfl) (V (qa rfl rfl) (V (qa rfl rfl) (V (ma rfl) (V (ma rfl) (jU (jH (jI (jC (VE (kx d iV (fun r7 c d => VO (jL (.int .i64 0) (#[(.int .i64 0)]) d rfl rfl dR (wc _ 0) nb rfl (fun r8 d => jU (jH (jI (jI ?_))))))))))))))))
 refine jC (V (jt rfl (jA d.has (Mt (Ma Mh)) (C7 u) rfl fI eO)) (bS hm fun y l4 hm => ?_))
 have ab := d.size
 refine VE (yb d (bR _) call8 (fun _ _ _ _ => kA.lR (vx (⟨Kj, (⟨K3, [(⟨(⟨wC, a⟩ : Signed), K9⟩ : kd)], []⟩ : jX), Nx, 0, K5, 0, 0, 0, []⟩ : mM) (.slice none 0 0) (.slice none 0 0) (.slice (some ⟨u, 0, none⟩) 1 1) (.slice none 0 0) (.slice none 0 0) (.slice none 0 0) _ _ (Sl.nil _ _ _) (Sl.nil _ _ _) ((kw.lit kc (l := [(⟨(⟨wC, a⟩ : Signed), K9⟩ : kd)]) (.cons (ys := C4 j a.length k) (jW.mk ⟨(.slice j a.length k), (.slice none 0 0), rfl, (a6.mono (Pl.mono _) d3), (Sl.nil _ _ _)⟩) .nil) rfl nb rfl).sl kc d.jy (fun b o n => (by rw [bM] at n; cases n; exact d.at_ (Mt (Ma (Mt Mh)))))) (Sl.nil _ _ _) (Sl.nil _ _ _) (Sl.nil _ _ _) l4)) (fun o8 p3 q5 o5 d i5 ae q k1 => ?_) (L0 := []))
 obtain ⟨e4, b2, rfl⟩ := k1
 replace b2 := b2.symm; subst b2
 replace d := d.perm (Tb Tn)
 refine V (ma rfl) (jU (jH ?_))
 replace d := d.js (Kb (Kb (Kr (Db St))))
 refine jI (jC (V (jx rfl) (V (HX underlying40 ⟨_, _, _, rfl⟩ rfl rfl) (jU (jH (we rfl (jC (V (jx rfl) (V (pG (by exact tm rfl) rfl) (bS hm fun K l5 hm => ?_))))))))))
 have ab := d.size
 refine VE (Ez (args := [(.func (.func 18) #[] #[(.pointer (some ⟨c, 0, none⟩))])]) (caps := #[(.pointer (some ⟨e4, 0, none⟩))]) _ _ d (Cr (Cb (Pb Pz) Cn) Cn) rfl call24 (by exact tm rfl) (fun hH hN ag aa => (sn (fun (s : Int) (R : List (Nat × Obj)) => R = ((c, Obj.cells (#[(.int .i64 (s))] : Array Value) 3 (0, 0)) :: [])) (.func (.func 18) #[] #[(.pointer (some ⟨c, 0, none⟩))]) (fun (s : Int) (x : (Int × kf)) => pW x.1 x.2 s) 0 ((c, Obj.cells (#[(.int .i64 0)] : Array Value) 3 (0, 0)) :: []) e4 y.1 (.slice none 0 0) ([]) (.slice none 0 0) ([]) y.2.1 (.slice (some ⟨u, 0, none⟩) 1 1) ([(⟨(⟨wC, a⟩ : Signed), K9⟩ : kd)]) (.slice none 0 0) ([]) y.2.2.1 y.2.2.2.1 y.2.2.2.2.1 (.slice none 0 0) ([]) y.2.2.2.2.2.1 y.2.2.2.2.2.2.1 y.2.2.2.2.2.2.2.1 y.2.2.2.2.2.2.2.2.1 y.2.2.2.2.2.2.2.2.2 (.slice none 0 0) ([]) _ _ ⟨hH, hN, jR.refl _⟩ (zH.fn call18 (fun W s x vs r R hs hI hH hN ad hm => by
   obtain ⟨_, rfl, o1⟩ := ad
   have L := o1.out
   obtain ⟨t0, t1, rfl, j0, j1⟩ := L
   obtain ⟨rfl⟩ := hI
   refine kA.mono (kA.lR <| DG x.1 x.2 t0 t1 c s r W ⟨hH, hN, jR.refl _⟩ j0 j1  hm) ?_
   rintro v L1 W' ⟨rfl, rfl⟩
   exact ⟨rfl, rfl⟩)) rfl (Sl.nil _ _ _) (Sl.nil _ _ _) ((kw.lit kc (l := [(⟨(⟨wC, a⟩ : Signed), K9⟩ : kd)]) (.cons (ys := C4 j a.length k) (jW.mk ⟨(.slice j a.length k), (.slice none 0 0), rfl, (a6.mono (Pl.mono _) (d3.trans i5)), (Sl.nil _ _ _)⟩) .nil) rfl nb rfl).sl kc ag (fun b o n => (by rw [bM] at n; cases n; exact aa _ _ (Mt (Ma Mh))))) (Sl.nil _ _ _) (Sl.nil _ _ _) (Sl.nil _ _ _) (At.of (aa _ _ Mh) _ rfl) l5)) (fun o9 p4 B o6 d o2 af q k2 => ?_))
 obtain ⟨o7, b3, rfl, l6⟩ := k2
 replace b3 := b3.symm; subst b3
 obtain rfl := l6
 simp only [aG, bA, aP] at d
 refine jU (jH ?_)
 replace d := d.js (Kb (Db (Kr (Db St))))
 refine jI (jC (V (jx rfl) (V (ko rfl rfl rfl) (V (jx rfl) (LJ hm (fun j9 E W => ∃  (d4 : List (Nat × Obj)), ST false kK w W B ((c, Obj.cells (#[(.int .i64 K)] : Array Value) 3 (0, 0)) :: (O ++ d4)) ∧ E 0 = (.bool false) ∧ E 5 = (.int .i64 i6.1) ∧ E 6 = (.bool i6.2) ∧ E 7 = (.int .i64 a9.1) ∧ E 8 = (.bool a9.2) ∧ E 10 = (.bool c7.2) ∧ E 11 = P ∧ E 12 = (.bool b0.2) ∧ E 13 = (.pointer (some ⟨c, 0, none⟩)) ∧ E 71 = (.bool j9)) 2 ?_ (fun j9 a5 c6 => ?_))))))
 ·rintro p5 E W ⟨d4, d, e5, l7, e6, e7, e8, e9, f0, f1, f2, l8⟩ k3
  refine V (jx l8) (LJ k3 (fun j8 E W => ∃  (d5 : List (Nat × Obj)), ST false kK w W B ((c, Obj.cells (#[(.int .i64 K)] : Array Value) 3 (0, 0)) :: (O ++ d5)) ∧ E 0 = (.bool false) ∧ E 6 = (.bool i6.2) ∧ E 7 = (.int .i64 a9.1) ∧ E 8 = (.bool a9.2) ∧ E 10 = (.bool c7.2) ∧ E 11 = P ∧ E 12 = (.bool b0.2) ∧ E 13 = (.pointer (some ⟨c, 0, none⟩)) ∧ E 75 = (.bool j8)) 3 ?_ (fun j8 a4 c5 => ?_))
  ·rintro p6 E W ⟨d5, d, f3, l9, f4, f5, f6, f7, f8, f9, m0⟩ k4
   refine V (jx m0) (LJ k4 (fun j7 E W => ∃  (d6 : List (Nat × Obj)), ST false kK w W B ((c, Obj.cells (#[(.int .i64 K)] : Array Value) 3 (0, 0)) :: (O ++ d6)) ∧ E 0 = (.bool false) ∧ E 7 = (.int .i64 a9.1) ∧ E 8 = (.bool a9.2) ∧ E 10 = (.bool c7.2) ∧ E 11 = P ∧ E 12 = (.bool b0.2) ∧ E 13 = (.pointer (some ⟨c, 0, none⟩)) ∧ E 78 = (.bool j7)) 2 ?_ (fun j7 a3 c4 => ?_))
   ·rintro p7 E W ⟨d6, d, g0, m1, g1, g2, g3, g4, g7, m2⟩ k5
    refine V (jx m2) (LJ k5 (fun j6 E W => ∃  (d7 : List (Nat × Obj)), ST false kK w W B ((c, Obj.cells (#[(.int .i64 K)] : Array Value) 3 (0, 0)) :: (O ++ d7)) ∧ E 0 = (.bool false) ∧ E 8 = (.bool a9.2) ∧ E 10 = (.bool c7.2) ∧ E 11 = P ∧ E 12 = (.bool b0.2) ∧ E 13 = (.pointer (some ⟨c, 0, none⟩)) ∧ E 82 = (.bool j6)) 3 ?_ (fun j6 a2 c3 => ?_))
    ·rintro p8 E W ⟨d7, d, g8, m3, g9, h0, h1, h2, m4⟩ k6
     refine V (jx m4) (LJ k6 (fun j5 E W => ∃  (d8 : List (Nat × Obj)), ST false kK w W B ((c, Obj.cells (#[(.int .i64 K)] : Array Value) 3 (0, 0)) :: (O ++ d8)) ∧ E 0 = (.bool false) ∧ E 10 = (.bool c7.2) ∧ E 11 = P ∧ E 12 = (.bool b0.2) ∧ E 13 = (.pointer (some ⟨c, 0, none⟩)) ∧ E 85 = (.bool j5)) 2 ?_ (fun j5 a1 c2 => ?_))
     ·rintro p9 E W ⟨d8, d, h3, m5, h4, h5, h6, m6⟩ k7
      refine V (jx m6) (LJ k7 (fun j4 E W => ∃  (d9 : List (Nat × Obj)), ST false kK w W B ((c, Obj.cells (#[(.int .i64 K)] : Array Value) 3 (0, 0)) :: (O ++ d9)) ∧ E 0 = (.bool false) ∧ E 11 = P ∧ E 12 = (.bool b0.2) ∧ E 13 = (.pointer (some ⟨c, 0, none⟩)) ∧ E 89 = (.bool j4)) 3 ?_ (fun j4 a0 c1 => ?_))
      ·rintro q0 E W ⟨d9, d, h7, h8, m7, h9, m8⟩ k8
       refine V (jx m8) (LJ k8 (fun j3 E W => ∃  (e0 : List (Nat × Obj)), ST false kK w W B ((c, Obj.cells (#[(.int .i64 K)] : Array Value) 3 (0, 0)) :: (O ++ e0)) ∧ E 0 = (.bool false) ∧ E 11 = P ∧ E 13 = (.pointer (some ⟨c, 0, none⟩)) ∧ E 92 = (.bool j3)) 2 ?_ (fun j3 Z c0 => ?_))
       ·rintro q1 E W ⟨e0, d, i0, c8, i1, m9⟩ k9
        refine V (jx m9) (LJ k9 (fun i9 E W => ∃  (e1 : List (Nat × Obj)), ST false kK w W B ((c, Obj.cells (#[(.int .i64 K)] : Array Value) 3 (0, 0)) :: (O ++ e1)) ∧ E 0 = (.bool false) ∧ E 11 = P ∧ E 13 = (.pointer (some ⟨c, 0, none⟩)) ∧ E 97 = (.bool i9)) 4 ?_ (fun i9 Y b9 => ?_))
        ·rintro q2 E W ⟨e1, d, i2, n0, i3, n1⟩ l0
         refine V (jx n1) (LJ l0 (fun i8 E W => ∃  (e2 : List (Nat × Obj)), ST false kK w W B ((c, Obj.cells (#[(.int .i64 K)] : Array Value) 3 (0, 0)) :: e2) ∧ E 0 = (.bool false) ∧ E 13 = (.pointer (some ⟨c, 0, none⟩)) ∧ E 104 = (.bool i8)) 6 ?_ (fun i8 J b6 => ?_))
         ·rintro q3 E W ⟨e2, d, i4, n2, n3⟩ l1
          refine V (jx n3) (LJ l1 (fun i7 E W => ∃  (e3 : List (Nat × Obj)), ST false kK w W B e3 ∧ E 0 = (.bool false) ∧ E 108 = (.bool i7)) 3 ?_ (fun i7 U b5 => ?_))
          ·rintro q4 E W ⟨e3, d, p0, n4⟩ l2
           refine V (ma n4) (jU (jH (kv ?_)))
           have h := sj l2; subst h
           exact rP d
          refine bC U (fun I U => ?_) (fun I U => ?_)
          ·refine Vg rfl (cB I) (jt n2 (jG d.has Mh rfl cJ)) (Vg rfl (cB I) (ko rfl rfl rfl) (V (jO (cB I) rfl) ?_))
           have h := sj U; subst h
           exact b5 _ _ ⟨_, (d.js (Db St)), i4, rfl⟩
          refine Vn rfl (cB I) (Vn rfl (cB I) (V (jQ (cB I) rfl) ?_))
          have h := sj U; subst h
          exact b5 _ _ ⟨_, (d.js (Db St)), i4, rfl⟩
         refine bC J (fun g J => ?_) (fun g J => ?_)
         ·refine Vg rfl (cB g) (jx n0) (bS J fun k0 b4 J => TF rfl (cB g) (rr (i := 0) (x0 := k0) ic sizeOf31 rfl rfl d1 (kh b4) (jY b4)) (fun p2 l3 => Vg rfl (cB g) (jt rfl (vS d.has (fun p n => (Mt (Ml n))) d1 CK l3 (jY b4) isAgg31 sizeOf31)) (Vg rfl (cB g) (mr (qs := #[(0, (.int .i64 0)), (1, (.int .i64 1))]) (v := (.agg (lu (⟨0, 1⟩ : ky)).toArray)) (sa rfl rfl) (Cv ji eW dR (by kernel_rfl))) (Vg rfl (cB g) (wU rfl rfl (pu eqGuardType31) (tH (J2 _ k0 (⟨0, 1⟩ : ky)))) (V (jO (cB g) rfl) ?_)))))
          have h := sj J; subst h
          exact b6 _ _ ⟨_, (d.js (Kb (Dr St))), i2, i3, rfl⟩
         refine Vn rfl (cB g) (Vn rfl (cB g) (Vn rfl (cB g) (Vn rfl (cB g) (Vn rfl (cB g) (V (jQ (cB g) rfl) ?_)))))
         have h := sj J; subst h
         exact b6 _ _ ⟨_, (d.js (Kb (Dr St))), i2, i3, rfl⟩
        refine bC Y (fun t Y => ?_) (fun t Y => ?_)
        ·refine Vg rfl (cB t) (jx c8) (Vg rfl (cB t) (oe ic rfl d1) (Vg rfl (cB t) (ko rfl rfl rfl) (V (jO (cB t) rfl) ?_)))
         have h := sj Y; subst h
         exact b9 _ _ ⟨_, (d.js St), i0, c8, i1, rfl⟩
        refine Vn rfl (cB t) (Vn rfl (cB t) (Vn rfl (cB t) (V (jQ (cB t) rfl) ?_)))
        have h := sj Y; subst h
        exact b9 _ _ ⟨_, (d.js St), i0, c8, i1, rfl⟩
       refine bC Z (fun T Z => ?_) (fun T Z => ?_)
       ·refine Vg rfl (cB T) (jx m7) (V (jO (cB T) rfl) ?_)
        have h := sj Z; subst h
        exact c0 _ _ ⟨_, (d.js St), h7, h8, h9, rfl⟩
       refine Vn rfl (cB T) (V (jQ (cB T) rfl) ?_)
       have h := sj Z; subst h
       exact c0 _ _ ⟨_, (d.js St), h7, h8, h9, rfl⟩
      refine bC a0 (fun H a0 => ?_) (fun H a0 => ?_)
      ·refine Vg rfl (cB H) (jx m5) (Vg rfl (cB H) (pa rfl) (V (jO (cB H) rfl) ?_))
       have h := sj a0; subst h
       exact c1 _ _ ⟨_, (d.js St), h3, h4, h5, h6, rfl⟩
      refine Vn rfl (cB H) (Vn rfl (cB H) (V (jQ (cB H) rfl) ?_))
      have h := sj a0; subst h
      exact c1 _ _ ⟨_, (d.js St), h3, h4, h5, h6, rfl⟩
     refine bC a1 (fun Q a1 => ?_) (fun Q a1 => ?_)
     ·refine Vg rfl (cB Q) (jx m3) (V (jO (cB Q) rfl) ?_)
      have h := sj a1; subst h
      exact c2 _ _ ⟨_, (d.js St), g8, g9, h0, h1, h2, rfl⟩
     refine Vn rfl (cB Q) (V (jQ (cB Q) rfl) ?_)
     have h := sj a1; subst h
     exact c2 _ _ ⟨_, (d.js St), g8, g9, h0, h1, h2, rfl⟩
    refine bC a2 (fun G a2 => ?_) (fun G a2 => ?_)
    ·refine Vg rfl (cB G) (jx m1) (Vg rfl (cB G) (ko rfl rfl rfl) (V (jO (cB G) rfl) ?_))
     have h := sj a2; subst h
     exact c3 _ _ ⟨_, (d.js St), g0, g1, g2, g3, g4, g7, rfl⟩
    refine Vn rfl (cB G) (Vn rfl (cB G) (V (jQ (cB G) rfl) ?_))
    have h := sj a2; subst h
    exact c3 _ _ ⟨_, (d.js St), g0, g1, g2, g3, g4, g7, rfl⟩
   refine bC a3 (fun N a3 => ?_) (fun N a3 => ?_)
   ·refine Vg rfl (cB N) (jx l9) (V (jO (cB N) rfl) ?_)
    have h := sj a3; subst h
    exact c4 _ _ ⟨_, (d.js St), f3, f4, f5, f6, f7, f8, f9, rfl⟩
   refine Vn rfl (cB N) (V (jQ (cB N) rfl) ?_)
   have h := sj a3; subst h
   exact c4 _ _ ⟨_, (d.js St), f3, f4, f5, f6, f7, f8, f9, rfl⟩
  refine bC a4 (fun D a4 => ?_) (fun D a4 => ?_)
  ·refine Vg rfl (cB D) (jx l7) (Vg rfl (cB D) (ko rfl rfl rfl) (V (jO (cB D) rfl) ?_))
   have h := sj a4; subst h
   exact c5 _ _ ⟨_, (d.js St), e5, e6, e7, e8, e9, f0, f1, f2, rfl⟩
  refine Vn rfl (cB D) (Vn rfl (cB D) (V (jQ (cB D) rfl) ?_))
  have h := sj a4; subst h
  exact c5 _ _ ⟨_, (d.js St), e5, e6, e7, e8, e9, f0, f1, f2, rfl⟩
 refine bC a5 (fun M a5 => ?_) (fun M a5 => ?_)
 ·refine Vg rfl (cB M) (jx rfl) (V (jO (cB M) rfl) ?_)
  have h := sj a5; subst h
  exact c6 _ _ ⟨_, (d.js St), rfl, rfl, rfl, rfl, rfl, rfl, rfl, rfl, rfl, rfl⟩
 refine Vn rfl (cB M) (V (jQ (cB M) rfl) ?_)
 have h := sj a5; subst h
 exact c6 _ _ ⟨_, (d.js St), rfl, rfl, rfl, rfl, rfl, rfl, rfl, rfl, rfl, rfl⟩
theorem Dm (k : Value) (u : List jm) (r : Int) (w : World) (j : Sl (Pl jr) 9 (hp w) k u) (hm : uX u = some r) :
  ke true pg0 35 [k] w (.int .i64 r) := by
 refine cG 54 func35 rfl (fun b => sg (Wa (lr (Wa (lS (Wm ?_))))))
 refine V (lU aJ rfl j) (Wm (ln (lQ (fun i E W => ∃ g t, (E 8 = .int .i64 (i : Nat) ∧ E 7 = .int .i64 (u.length : Nat)) ∧ ST true kK w W (hp w) t ∧ E 3 = (.int .i64 g) ∧ E 6 = k ∧ qW (u.drop i) g = some r) u.length j.len ⟨0, _, ⟨rfl, rfl⟩, (b.js St), rfl, rfl, hm⟩ dc dc dc (fun _ _ _ h => by obtain ⟨_, _, l, _⟩ := h; exact l) ?_ ?_)))
 ·rintro I E W z ⟨g, t, ⟨d, m⟩, b, x, y, c⟩
  obtain ⟨a, J, G, D, H⟩ := lz z
  rw [G] at c
  refine bg (VQ (qU (enc := jr) (i := (I : Int)) (x0 := a) aJ aQ y d j (aX _) D) (fun Q B => V (jt rfl (kl b.has B bX aQ)) (VE (kx b dn (fun K N b => VO (jL (.agg (jr a).toArray) ((jr a).toArray) b rfl rfl aQ (nw a) nb rfl (fun M b => ln (jC (Wh x (Wf rW (Wf pY (VB b Mh rfl rfl bU (V (ob bW rfl) ?_)))))))))))))
  refine Wi rfl (Wf rW (Wf tL (VB b Mh rfl rfl bU (V (ob bW rfl) (Wi rfl (Wf ya (VB b Mh rfl rfl bU (V (ob bW rfl) (Wi rfl (Wf nV (Wf pY (VB b Mh rfl rfl bU (V (ob bW rfl) (Wi rfl ?_))))))))))))))
  refine Wf nV (Wf tL (VB b Mh rfl rfl bU (V (ob bW rfl) (Wi rfl (Wf sW (Wf pY (VB b Mh rfl rfl bU (V (ob bW rfl) (Wi rfl (Wf sW (Wf tL (VB b Mh rfl rfl bU (V (ob bW rfl) (Wi rfl ?_))))))))))))))
  refine Wf um (VB b Mh rfl rfl bU (V (ob bW rfl) (Wi rfl (Wi rfl (Wa (jU (kz (jH ?_))))))))
  replace b := b.js (Db St)
  exact ⟨d, (wi0 .i64 (g + (wi0 .i64 ((wi0 .i64 ((wi0 .i64 ((wi0 .i64 ((wi0 .i64 ((wi0 .i64 ((wi0 .i64 ((wi0 .i64 (20 + (a.Head.jq.size : Int))) + (a.Head.jv.size : Int))) + (a.km.size : Int))) + (a.B.jq.size : Int))) + (a.B.jv.size : Int))) + (a.C.jq.size : Int))) + (a.C.jv.size : Int))) + (a.kC.size : Int))))), _, ⟨rfl, m⟩, (b.js St), rfl, y, (by rw [H]; exact c)⟩
 rintro E W ⟨g, t, ⟨d, m⟩, b, x, y, c⟩
 rw [bE] at c
 exact jH (sg (Wh x (Wa (lt (rQ c b)))))
theorem wS (H : Value) (Q : List Key) (u : Value) (J : List Signed) (r : Int) (w : World) (B : Sl qw 2 (hp w) H Q) (D : Sl sv 10 (hp w) u J) (hm : tI Q J = some r) :
  ke true pg0 21 [H, u] w (.int .i64 r) := by
 refine cG 45 func21 rfl (fun b => sg (Wa (lr (Wa (lS (Wm ?_))))))
 refine V (lU underlying32 rfl B) (Wm (ln (lQ (fun i E W => ∃ t N, (E 12 = .int .i64 (i : Nat) ∧ E 11 = .int .i64 (Q.length : Nat)) ∧ ST true kK w W (hp w) N ∧ E 1 = u ∧ E 5 = (.int .i64 t) ∧ E 10 = H ∧ pS J (Q.drop i) t = some r) Q.length B.len ⟨0, _, ⟨rfl, rfl⟩, (b.js St), rfl, rfl, rfl, hm⟩ dc dc dc (fun _ _ _ h => by obtain ⟨_, _, n, _⟩ := h; exact n) ?_ ?_)))
 ·rintro c3 E W b5 ⟨t, N, ⟨m, p⟩, b, U, Y, Z, g⟩
  obtain ⟨k, d4, b9, b7, c0⟩ := lz b5
  rw [b9] at g
  refine bg (VQ (nh (i := (c3 : Int)) (x0 := k) qw.out underlying32 sizeOf86 Z m B (aX _) b7) (fun d8 ⟨_, ⟨d9, rfl, a2⟩, b6⟩ => V (jt rfl (kl b.has b6 isAgg86 sizeOf86)) (VE (kx b zeroValue86 (fun d5 d7 b => ?_)))))
  obtain ⟨s, v, rfl⟩ := a2.form
  refine VO (jL (.agg #[(.string k.km), (.slice s k.Key.length v)]) (#[(.string k.km), (.slice s k.Key.length v)]) b rfl rfl sizeOf86 oc nb rfl (fun d6 b => ln (jC (Wh Y (Wf RC (VB b Mh rfl rfl bU (V (ob bW rfl) (Wi rfl (Wf Q7 (VB b Mh rfl rfl isAgg59 (V (lU cQ rfl a2) (Wi rfl (Wi rfl (Wa ?_))))))))))))))
  refine jU (kz (jH ?_))
  replace b := b.js (Db St)
  exact ⟨m, (wi0 .i64 (t + (wi0 .i64 ((wi0 .i64 (10 + (k.km.size : Int))) + (k.Key.length : Int))))), _, ⟨rfl, p⟩, (b.js St), U, rfl, Z, (by rw [c0]; exact g)⟩
 rintro E W ⟨t, N, ⟨m, p⟩, b, U, Y, Z, g⟩
 rw [bE] at g
 refine jH (jI (sg (Wh U (V (lU iY rfl D) (Wm (ln (CJ g (fun G E W => ∃ M, ST true kK w W (hp w) M ∧ E 5 = (.int .i64 G)) (fun G a5 => ?_) ?_)))))))
 ·refine lQ (fun i E W => ∃ j x, (E 29 = .int .i64 (i : Nat) ∧ E 28 = .int .i64 (J.length : Nat)) ∧ ST true kK w W (hp w) x ∧ E 5 = (.int .i64 j) ∧ E 27 = u ∧ rf (J.drop i) j = some G) J.length D.len ⟨t, _, ⟨rfl, rfl⟩, (b.js St), Y, rfl, a5⟩ dc dc dc (fun _ _ _ h => by obtain ⟨_, _, n, _⟩ := h; exact n) ?_ ?_
  ·rintro c1 E W a3 ⟨j, x, ⟨m, p⟩, b, y, z, c⟩
   obtain ⟨a, c4, a9, P, R⟩ := lz a3
   rw [a9] at c
   refine bg (VQ (nh (i := (c1 : Int)) (x0 := a) sv.out iY iR z m D (aX _) P) (fun d0 ⟨_, ⟨d1, rfl, I⟩, L⟩ => V (jt rfl (kl b.has L isAgg61 iR)) (VE (kx b jj (fun c5 c9 b => ?_)))))
   obtain ⟨K, T, rfl⟩ := I.form
   let a0 := (C8 a.jm.Kind a.jm.Head.jq a.jm.Head.jv a.jm.km a.jm.B.jq a.jm.B.jv a.jm.C.jq a.jm.C.jv a.jm.kC K a.Tag.length T)
   refine VO (jL (.agg a0.toArray) (a0.toArray) b rfl rfl iR oc nb rfl (fun c6 b => ln ?_))
   replace b := b.drew
   have d := b.has.js (Kb Sn)
   refine kN d ki (X 0 rfl d (jx y) (X 1 rfl d (jB GG rfl) (XH 2 rfl d (fun _ q => jt rfl (jA q Mh (jr a.jm) rfl bX aQ)) (X 5 rfl d (jB QH rfl) (XH 6 rfl d (fun _ q => jt rfl (jG q Mh rfl isAgg59)) (X 7 rfl d (lU cQ rfl I) (XE 3 rfl (kp (cs := (jr a.jm).toArray) b (mD rfl) (mN aJ aQ dn) (fun c7 b3 b => ?_)))))))))
   have d := b.has.js (Db (Kb Sn))
   refine ⟨d, (bS c fun c2 O c => XE 4 rfl (Eg b call35 (Dm (.slice (some ⟨b3, 0, none⟩) 1 1) ([a.jm]) _ _ (Sl.lit (enc := jr) (l := [a.jm]) kj rfl nb rfl (b.at_ Mh)) O) (fun c8 b => ?_)))⟩
   have d := b.has.js (Db (Kb Sn))
   refine ⟨d, (X 8 rfl d (ko rfl rfl rfl) (X 9 rfl d (ko rfl rfl rfl) (X 10 rfl d (ma rfl) (kM kr (kz (jH ?_))))))⟩
   replace b := b.js (Db (Db St))
   exact ⟨m, (wi0 .i64 (j + (wi0 .i64 (c2 + (a.Tag.length : Int))))), _, ⟨rfl, p⟩, (b.js St), rfl, z, (by rw [R]; exact c)⟩
  rintro E W ⟨j, x, ⟨m, p⟩, b, y, z, c⟩
  rw [bE] at c
  refine jH ?_
  obtain rfl := sj c
  exact ⟨_, (b.js St), y⟩
 rintro d3 E W ⟨M, b, b4⟩ a4
 exact sg (Wh b4 (Wa (lt (rQ a4 b))))
theorem Em (I : (List Formula) → Option Int) (N : ∀ (j : Value) (u : List Formula) (r : Int) (w : World) (t : Sl jo 5 (hp w) j u), I u = some r → ke false pg0 20 [j] w (.int .i64 r)) (j : Value) (u : List Formula) (r : Int) (w : World) (t : Sl jo 5 (hp w) j u) (hm : vN I u = some r) :
  ke false pg0 20 [j] w (.int .i64 r) := by
 refine cG 31 func20 rfl (fun l => sg (Wa (lr (Wa (lS (Wm ?_))))))
 refine V (lU aF rfl t) (Wm (ln (lQ (fun i E W => ∃ x z, (E 8 = .int .i64 (i : Nat) ∧ E 7 = .int .i64 (u.length : Nat)) ∧ ST false kK w W (hp w) z ∧ E 3 = (.int .i64 x) ∧ E 6 = j ∧ re I (u.drop i) x = some r) u.length t.len ⟨0, _, ⟨rfl, rfl⟩, (l.js St), rfl, rfl, hm⟩ dc dc dc (fun _ _ _ h => by obtain ⟨_, _, p, _⟩ := h; exact p) ?_ ?_)))
 ·rintro Z E W M ⟨x, z, ⟨n, s⟩, l, D, G, g⟩
  obtain ⟨c, P, T, Q, U⟩ := lz M
  let a0 := ((c.jl.jq.size : Int) + (c.jl.jv.size : Int))
  rw [T] at g
  refine bg (VQ (nh (i := (Z : Int)) (x0 := c) jo.out aF aC G n t (aX _) Q) (fun a5 ⟨_, ⟨O, rfl, H⟩, J⟩ => V (jt rfl (kl l.has J bB aC)) (VE (kx l bG (fun L a4 l => ?_)))))
  obtain ⟨y, B, rfl⟩ := H.form
  let q := (C1 c.Op c.K c.jl.jq c.jl.jv y c.Kids.length B)
  refine VO (jL (.agg q.toArray) (q.toArray) l rfl rfl aC oc nb rfl (fun a2 l => ln ?_))
  replace l := l.drew
  have d := l.has.js (Kb Sn)
  refine kN d ki (X 0 rfl d (jx D) (X 1 rfl d (jB xV rfl) (X 2 rfl d (jB pY rfl) (XH 3 rfl d (fun _ m => jt rfl (jG m Mh rfl bU)) (X 4 rfl d (ob bW rfl) (X 5 rfl d (jB xV rfl) (X 6 rfl d (jB tL rfl) (XH 7 rfl d (fun _ m => jt rfl (jG m Mh rfl bU)) (X 8 rfl d (ob bW rfl) (X 9 rfl d (ko rfl rfl rfl) (X 10 rfl d (Is (k := .i64) (a := (wi0 .i64 a0)) (b := 16) (v := (.int .i64 (wi0 .i64 (Int.tdiv (wi0 .i64 a0) 16)))) rfl rfl dc rfl) (X 11 rfl d (ko rfl rfl rfl) (X 12 rfl d (jB rY rfl) (XH 13 rfl d (fun _ m => jt rfl (jG m Mh rfl ft)) ?_))))))))))))))
  refine bS g fun Y K g => XE 14 rfl (Eg l call20 (N (.slice y c.Kids.length B) c.Kids _ _ (H.mono jD.mono l.jy) K) (fun a3 l => ?_))
  have d := l.has.js (Kb Sn)
  refine ⟨d, (X 15 rfl d (ko rfl rfl rfl) (X 16 rfl d (ko rfl rfl rfl) (X 17 rfl d (ma rfl) (kM kr (kz (jH ?_))))))⟩
  replace l := l.js (Db St)
  exact ⟨n, (wi0 .i64 (x + (wi0 .i64 ((wi0 .i64 (1 + (wi0 .i64 (Int.tdiv (wi0 .i64 a0) 16)))) + Y)))), _, ⟨rfl, s⟩, (l.js St), rfl, G, (by rw [U]; exact g)⟩
 rintro E W ⟨x, z, ⟨n, s⟩, l, D, G, g⟩
 rw [bE] at g
 exact jH (sg (Wh D (Wa (lt (rQ g l)))))
theorem xh : ∀ (n : Nat) (a : Value) (c : List Formula) (r : Int) (w : World) (g : Sl jo 5 (hp w) a c) (_ : ow n c = some r),
  ke false pg0 20 [a] w (.int .i64 r)
 | 0 => by intros; rename_i h; simp only [ow] at h; cases h
 | n + 1 => Em (ow n) (xh n)
set_option maxHeartbeats 4000000 in
theorem vc (x : jX) (J N : Value) (r : Int) (w : World) (y : Sl jW 15 (hp w) J x.jF) (G : Sl kQ 8 (hp w) N x.jS) (hm : vh x = some r) :
  ke false pg0 19 [(.agg #[(.string x.Name), J, N])] w (.int .i64 r) := by
 refine cG 61 func19 rfl (fun d => sg ?_)
 obtain ⟨A1, c2, rfl⟩ := y.form
 obtain ⟨A3, c4, rfl⟩ := G.form
 let g6 := (C6 x.Name A1 x.jF.length c2 A3 x.jS.length c4)
 refine VE (kq d rfl (fun W6 P d => Wa (lr (Wf Ax (VB d Mh rfl rfl bU (V (ob bW rfl) (Wa (lS ?_))))))))
 refine Wf DJ (VB d Mh rfl rfl isAgg22 (V (lU fu rfl y) (Wm (ln (lQ (fun i E W => ∃ I b1, (E 14 = .int .i64 (i : Nat) ∧ E 13 = .int .i64 (x.jF.length : Nat)) ∧ ST false kK w W (hp w) ((P, Ol g6 25) :: b1) ∧ E 1 = (.pointer (some ⟨P, 0, none⟩)) ∧ E 3 = (.int .i64 I) ∧ E 12 = (.slice A1 x.jF.length c2) ∧ qY x (x.jF.drop i) I = some r) x.jF.length y.len ⟨(x.Name.size : Int), _, ⟨rfl, rfl⟩, (d.js St), rfl, rfl, rfl, hm⟩ dc dc dc (fun _ _ _ h => by obtain ⟨_, _, v, _⟩ := h; exact v) ?_ ?_)))))
 ·rintro d5 E W e1 ⟨I, b1, ⟨q, L⟩, d, U, M, Y, H⟩
  obtain ⟨a, h9, e9, e8, f0⟩ := lz e1
  rw [e9] at H
  refine bg (VQ (nh (i := (d5 : Int)) (x0 := a) jW.out fu eL Y q y (aX _) e8) (fun j4 ⟨_, ⟨j8, j9, rfl, Q, T⟩, e2⟩ => V (jt rfl (kl d.has e2 isAgg63 eL)) (VE (kx d gp (fun i0 f4 d => ?_)))))
  obtain ⟨t, u, rfl⟩ := Q.form
  let g5 : Value := (.slice t a.Signed.Tag.length u)
  let b8 := (C8 a.Signed.jm.Kind a.Signed.jm.Head.jq a.Signed.jm.Head.jv a.Signed.jm.km a.Signed.jm.B.jq a.Signed.jm.B.jv a.Signed.jm.C.jq a.Signed.jm.C.jv a.Signed.jm.kC t a.Signed.Tag.length u)
  obtain ⟨g, j, rfl⟩ := T.form
  let d9 : Value := (.slice g a.jw.Kids.length j)
  let s := (C1 a.jw.Op a.jw.K a.jw.jl.jq a.jw.jl.jv g a.jw.Kids.length j)
  let a0 := (C3 a.Signed.jm.Kind a.Signed.jm.Head.jq a.Signed.jm.Head.jv a.Signed.jm.km a.Signed.jm.B.jq a.Signed.jm.B.jv a.Signed.jm.C.jq a.Signed.jm.C.jv a.Signed.jm.kC t a.Signed.Tag.length u a.jw.Op a.jw.K a.jw.jl.jq a.jw.jl.jv g a.jw.Kids.length j)
  refine VO (jL (.agg a0.toArray) (a0.toArray) d rfl rfl eL oc nb rfl (fun i1 d => ln ?_))
  replace d := d.drew
  have m := d.has.js (Kb Sn)
  refine kN m ki (X 0 rfl m (jx M) (X 1 rfl m (jB FJ rfl) (XH 2 rfl m (fun _ p => jt rfl (jA p Mh b8 rfl isAgg61 iR)) (X 5 rfl m (jB Na rfl) (XH 6 rfl m (fun _ p => jt rfl (jA p Mh s rfl bB aC)) (PJ H (fun b4 E W => ∃ O b2 b9, ST false kK w W (hp w) ((f4, Ol a0 63) :: ((P, Ol g6 25) :: (b2 ++ b9))) ∧ E 1 = (.pointer (some ⟨P, 0, none⟩)) ∧ E 3 = (.int .i64 I) ∧ E 12 = (.slice A1 x.jF.length c2) ∧ E 13 = (.int .i64 (x.jF.length : Int)) ∧ E 14 = (.int .i64 (d5 : Int)) ∧ E 18 = (.int .i64 I) ∧ E 22 = (.int .i64 b4.1) ∧ E 25 = O ∧ kw 30 jo 5 (hp w) O b4.2 b2) (bm 13 255) 5 ?_ (fun b4 z Z => ?_)))))))
  ·rintro ⟨g7, g3⟩ E W ⟨O, b2, b9, d, f6, j3, f7, f8, f9, g0, g1, g2, e7⟩ R
   refine bS R fun g4 e3 R => XE 8 rfl (Eg d call20 ((xh jP) O g3 _ _ (e7.sl jD d.jy (fun b o n => d.at_ (Mt (Mt (Ml n))))) e3) (fun i2 d => ?_) (ha := SO g2))
   have m := d.has.js (Kb Sn)
   refine ⟨m, (X 9 rfl m (ko rfl rfl rfl) (X 10 rfl m (ko g1 rfl rfl) (X 11 rfl m (ko g0 rfl rfl) (X 12 rfl m (ma rfl) (kM kr (kz (jH ?_)))))))⟩
   replace d := d.js (Db (Kb (Dr St)))
   exact ⟨f9, (wi0 .i64 (I + (wi0 .i64 (g7 + (wi0 .i64 (20 * g4)))))), _, ⟨rfl, f8⟩, (d.js St), f6, rfl, f7, (by rw [f0]; exact R)⟩
  refine Gc 3 7 rfl rfl kr (.inl rfl) (.inl rfl) rfl rfl dc dc ?_ ?_
  ·refine kp (cs := b8.toArray) d (mD rfl) (mN iY iR jj) (fun i3 b3 d => ?_)
   let d8 : Value := (.slice (some ⟨b3, 0, none⟩) 1 1)
   have m := d.has.js (Db (Kb Sn))
   refine ⟨m, (Gc 4 7 rfl rfl kr (.inl rfl) (.inl rfl) rfl rfl dc dc ?_ ?_)⟩
   ·refine bS z fun j5 e4 z => Ey (args := [(.slice none 0 0), d8]) d rfl call21 (by exact uk rfl rfl) (ke.lR (wS (.slice none 0 0) ([]) d8 ([a.Signed]) _ _ (Sl.nil _ _ _) ((kw.lit Ab (l := [a.Signed]) (.cons (ys := C8 a.Signed.jm.Kind a.Signed.jm.Head.jq a.Signed.jm.Head.jv a.Signed.jm.km a.Signed.jm.B.jq a.Signed.jm.B.jv a.Signed.jm.C.jq a.Signed.jm.C.jv a.Signed.jm.kC t a.Signed.Tag.length u) (sv.mk ⟨g5, rfl, Q⟩) .nil) rfl nb rfl).sl Ab d.jy (fun b o n => (by rw [bM] at n; cases n; exact d.at_ Mh))) e4)) (fun i4 d => ?_)
    have m := d.has.js (Db (Kb Sn))
    refine ⟨m, (XE 7 rfl (kp (cs := s.toArray) d (mD rfl) (mN aF aC bG) (fun i5 c0 d => ?_)))⟩
    have m := d.has.js (Db (Db (Kb Sn)))
    refine ⟨m, ?_⟩
    obtain rfl := sj z
    replace d := d.D6
    refine oF kr (Z _ _ ⟨(.slice (some ⟨c0, 0, none⟩) 1 1), [(c0, Ol s 30)], _, (d.js (Sb (Pr (Pb Pz)) (Sb (Pr (Pb Pz)) (Kr (Db St))))), U, M, Y, L, q, rfl, rfl, rfl, (kw.lit jD (l := [a.jw]) (.cons (ys := C1 a.jw.Op a.jw.K a.jw.jl.jq a.jw.jl.jv g a.jw.Kids.length j) (jo.mk ⟨d9, rfl, T⟩) .nil) rfl nb rfl)⟩)
   ·refine kp (cs := s.toArray) d (mD rfl) (mN aF aC bG) (fun i6 c1 d => ?_)
    have m := d.has.js (Db (Db (Kb Sn)))
    refine ⟨m, (bS z fun j6 e5 z => XE 4 rfl (Eg d call21 (ke.lR (wS (.slice none 0 0) ([]) d8 ([a.Signed]) _ _ (Sl.nil _ _ _) ((kw.lit Ab (l := [a.Signed]) (.cons (ys := C8 a.Signed.jm.Kind a.Signed.jm.Head.jq a.Signed.jm.Head.jv a.Signed.jm.km a.Signed.jm.B.jq a.Signed.jm.B.jv a.Signed.jm.C.jq a.Signed.jm.C.jv a.Signed.jm.kC t a.Signed.Tag.length u) (sv.mk ⟨g5, rfl, Q⟩) .nil) rfl nb rfl).sl Ab d.jy (fun b o n => (by rw [bM] at n; cases n; exact d.at_ (Mt Mh)))) e5)) (fun i7 d => ?_)))⟩
    have m := d.has.js (Db (Db (Kb Sn)))
    refine ⟨m, ?_⟩
    obtain rfl := sj z
    replace d := d.D6
    refine oF kr (Z _ _ ⟨(.slice (some ⟨c1, 0, none⟩) 1 1), [(c1, Ol s 30)], _, (d.js (Sb (Pr (Pb Pz)) (Sb (Pr (Pb Pz)) (Kr (Db St))))), U, M, Y, L, q, rfl, rfl, rfl, (kw.lit jD (l := [a.jw]) (.cons (ys := C1 a.jw.Op a.jw.K a.jw.jl.jq a.jw.jl.jv g a.jw.Kids.length j) (jo.mk ⟨d9, rfl, T⟩) .nil) rfl nb rfl)⟩)
  ·refine kp (cs := s.toArray) d (mD rfl) (mN aF aC bG) (fun i8 c3 d => ?_)
   have m := d.has.js (Db (Kb Sn))
   refine ⟨m, (XE 3 rfl (kp (cs := b8.toArray) d (mD rfl) (mN iY iR jj) (fun i9 f5 d => ?_)))⟩
   have m := d.has.js (Db (Db (Kb Sn)))
   refine ⟨m, (bS z fun j7 e6 z => XE 4 rfl (Eg d call21 (ke.lR (wS (.slice none 0 0) ([]) (.slice (some ⟨f5, 0, none⟩) 1 1) ([a.Signed]) _ _ (Sl.nil _ _ _) ((kw.lit Ab (l := [a.Signed]) (.cons (ys := C8 a.Signed.jm.Kind a.Signed.jm.Head.jq a.Signed.jm.Head.jv a.Signed.jm.km a.Signed.jm.B.jq a.Signed.jm.B.jv a.Signed.jm.C.jq a.Signed.jm.C.jv a.Signed.jm.kC t a.Signed.Tag.length u) (sv.mk ⟨g5, rfl, Q⟩) .nil) rfl nb rfl).sl Ab d.jy (fun b o n => (by rw [bM] at n; cases n; exact d.at_ Mh))) e6)) (fun j0 d => ?_)))⟩
   have m := d.has.js (Db (Db (Kb Sn)))
   refine ⟨m, ?_⟩
   obtain rfl := sj z
   replace d := d.perm (Nb (Pb Pz) Nz)
   replace d := d.D6
   refine oF kr (Z _ _ ⟨(.slice (some ⟨c3, 0, none⟩) 1 1), [(c3, Ol s 30)], _, (d.js (Sb (Pr (Pb Pz)) (Sb (Pr (Pb Pz)) (Kr (Db St))))), U, M, Y, L, q, rfl, rfl, rfl, (kw.lit jD (l := [a.jw]) (.cons (ys := C1 a.jw.Op a.jw.K a.jw.jl.jq a.jw.jl.jv g a.jw.Kids.length j) (jo.mk ⟨d9, rfl, T⟩) .nil) rfl nb rfl)⟩)
 rintro E W ⟨I, b1, ⟨q, L⟩, d, U, M, Y, H⟩
 rw [bE] at H
 refine jH (jI (sg (V (jB MR U) (VB d Mh rfl rfl isAgg23 (V (lU dH rfl G) (Wm (ln ?_)))))))
 replace d := d.js (Db St)
 refine CJ H (fun a7 E W => ∃ b6, ST false kK w W (hp w) b6 ∧ E 3 = (.int .i64 a7)) (fun a7 c8 => ?_) ?_
 ·refine lQ (fun i E W => ∃ K a2, (E 34 = .int .i64 (i : Nat) ∧ E 33 = .int .i64 (x.jS.length : Nat)) ∧ ST false kK w W (hp w) a2 ∧ E 3 = (.int .i64 K) ∧ E 32 = (.slice A3 x.jS.length c4) ∧ ri (x.jS.drop i) K = some a7) x.jS.length G.len ⟨I, _, ⟨rfl, rfl⟩, (d.js St), M, rfl, c8⟩ dc dc dc (fun _ _ _ h => by obtain ⟨_, _, v, _⟩ := h; exact v) ?_ ?_
  ·rintro f1 E W c6 ⟨K, a2, ⟨q, L⟩, d, a4, a5, k⟩
   obtain ⟨c, g8, d3, d2, d4⟩ := lz c6
   rw [d3] at k
   refine bg (VQ (nh (i := (f1 : Int)) (x0 := c) kQ.out dH er a5 q G (aX _) d2) (fun h5 ⟨_, ⟨h6, h7, rfl, a9, b0⟩, c9⟩ => V (jt rfl (kl d.has c9 isAgg82 er)) (VE (kx d iE (fun g9 h4 d => ?_)))))
   obtain ⟨B, D, rfl⟩ := a9.form
   let d6 := (C1 c.jw.Op c.jw.K c.jw.jl.jq c.jw.jl.jv B c.jw.Kids.length D)
   obtain ⟨a1, a3, rfl⟩ := b0.form
   let c5 := (RH c.jl.jq c.jl.jv c.jw.Op c.jw.K c.jw.jl.jq c.jw.jl.jv B c.jw.Kids.length D a1 c.mo.length a3)
   refine VO (jL (.agg c5.toArray) (c5.toArray) d rfl rfl er oc nb rfl (fun h0 d => ln ?_))
   replace d := d.drew
   have m := d.has.js (Kb Sn)
   refine kN m ki (X 0 rfl m (jx a4) (X 1 rfl m (jB NC rfl) (X 2 rfl m (jB pY rfl) (XH 3 rfl m (fun _ p => jt rfl (jG p Mh rfl bU)) (X 4 rfl m (ob bW rfl) (X 5 rfl m (jB NC rfl) (X 6 rfl m (jB tL rfl) (XH 7 rfl m (fun _ p => jt rfl (jG p Mh rfl bU)) (X 8 rfl m (ob bW rfl) (X 9 rfl m (ko rfl rfl rfl) (X 10 rfl m (jB M6 rfl) (XH 11 rfl m (fun _ p => jt rfl (jA p Mh d6 rfl bB aC)) (X 16 rfl m (jB Nn rfl) (XH 17 rfl m (fun _ p => jt rfl (jG p Mh rfl dY)) ?_))))))))))))))
   refine XE 12 rfl (kp (cs := d6.toArray) d (mD rfl) (mN aF aC bG) (fun h1 d7 d => ?_))
   have m := d.has.js (Db (Kb Sn))
   refine ⟨m, (bS k fun f2 d0 k => XE 13 rfl (Eg d call20 ((xh jP) (.slice (some ⟨d7, 0, none⟩) 1 1) ([c.jw]) _ _ ((kw.lit jD (l := [c.jw]) (.cons (ys := C1 c.jw.Op c.jw.K c.jw.jl.jq c.jw.jl.jv B c.jw.Kids.length D) (jo.mk ⟨(.slice B c.jw.Kids.length D), rfl, a9⟩) .nil) rfl nb rfl).sl jD d.jy (fun b o n => (by rw [bM] at n; cases n; exact d.at_ Mh))) d0) (fun h2 d => ?_)))⟩
   have m := d.has.js (Db (Kb Sn))
   refine ⟨m, (X 14 rfl m (ko rfl rfl rfl) (X 15 rfl m (ko rfl rfl rfl) (bS k fun f3 d1 k => XE 18 rfl (Eg d call35 (ke.lR (Dm (.slice a1 c.mo.length a3) c.mo _ _ (b0.mono (Pl.mono _) d.jy) d1)) (fun h3 d => ?_)))))⟩
   have m := d.has.js (Db (Kb Sn))
   refine ⟨m, (X 19 rfl m (ko rfl rfl rfl) (X 20 rfl m (ko rfl rfl rfl) (X 21 rfl m (ma rfl) (kM kr (kz (jH ?_))))))⟩
   replace d := d.js (Db (Db St))
   exact ⟨q, (wi0 .i64 (K + (wi0 .i64 ((wi0 .i64 ((wi0 .i64 ((c.jl.jq.size : Int) + (c.jl.jv.size : Int))) + (wi0 .i64 (20 * f2)))) + f3)))), _, ⟨rfl, L⟩, (d.js St), rfl, a5, (by rw [d4]; exact k)⟩
  rintro E W ⟨K, a2, ⟨q, L⟩, d, a4, a5, k⟩
  rw [bE] at k
  refine jH ?_
  obtain rfl := sj k
  exact ⟨_, (d.js St), a4⟩
 rintro h8 E W ⟨b6, d, e0⟩ c7
 exact sg (Wh e0 (Wa (lt (rQ c7 d))))
theorem Ij (a : mM) (B D x z y J : Value) (r : Int) (w : World) (t : Sl jW 15 (hp w) B a.jq.jF) (u : Sl kQ 8 (hp w) D a.jq.jS) (c : Sl jW 15 (hp w) x a.Client.jF) (i : Sl kQ 8 (hp w) z a.Client.jS) (g : Sl jo 5 (hp w) y a.Formula.Kids) (I : Sl qw 2 (hp w) J a.Keys) (hm : xg a = some r) :
  ke false pg0 6 [(.agg #[(.string a.jq.Name), B, D, (.string a.Client.Name), x, z, (.int .i64 a.Formula.Op), (.int .i64 a.Formula.K), (.string a.Formula.jl.jq), (.string a.Formula.jl.jv), y, (.int .i64 a.vo), (.int .i64 a.nG.og), (.int .i64 a.nG.nB), (.int .i64 a.pC), (.int .i64 a.th), (.int .i64 a.qN), J])] w (.int .i64 r) := by
 refine cG 20 func6 rfl (fun d => sg ?_)
 obtain ⟨A1, c2, rfl⟩ := t.form
 obtain ⟨A3, n, rfl⟩ := u.form
 let a3 := (C6 a.jq.Name A1 a.jq.jF.length c2 A3 a.jq.jS.length n)
 obtain ⟨N, U, rfl⟩ := c.form
 let a5 : Value := (.slice N a.Client.jF.length U)
 obtain ⟨Q, Y, rfl⟩ := i.form
 let b8 : Value := (.slice Q a.Client.jS.length Y)
 let a4 := (C6 a.Client.Name N a.Client.jF.length U Q a.Client.jS.length Y)
 obtain ⟨G, k, rfl⟩ := g.form
 let q : Value := (.slice G a.Formula.Kids.length k)
 let a0 := (C1 a.Formula.Op a.Formula.K a.Formula.jl.jq a.Formula.jl.jv G a.Formula.Kids.length k)
 obtain ⟨p, a2, rfl⟩ := I.form
 refine VE (kq d rfl (fun e8 c7 d => Wa (ln (jI ?_))))
 replace d := d.drew
 have h := d.has.js (Kb Sn)
 refine kN h ki (X 0 rfl h (jB DX rfl) (XH 1 rfl h (fun _ m => jt rfl (jA m Mh a3 rfl fa dZ)) (X 3 rfl h (jB Ap rfl) (XH 4 rfl h (fun _ m => jt rfl (jA m Mh a4 rfl fa dZ)) (X 7 rfl h (jB Gm rfl) (XH 8 rfl h (fun _ m => jt rfl (jA m Mh a0 rfl bB aC)) (X 13 rfl h (jB Rf rfl) (XH 14 rfl h (fun _ m => jt rfl (jG m Mh rfl isAgg32)) (PJ hm (fun Z E W => ∃ M T s, ST false kK w W (hp w) ((c7, Ol (C2 a.jq.Name A1 a.jq.jF.length c2 A3 a.jq.jS.length n a.Client.Name N a.Client.jF.length U Q a.Client.jS.length Y a.Formula.Op a.Formula.K a.Formula.jl.jq a.Formula.jl.jv G a.Formula.Kids.length k a.vo a.nG.og a.nG.nB a.pC a.th a.qN p a.Keys.length a2) 34) :: (T ++ s)) ∧ E 2 = (.int .i64 0) ∧ E 9 = (.int .i64 Z.1) ∧ E 12 = M ∧ E 17 = (.slice p a.Keys.length a2) ∧ kw 30 jo 5 (hp w) M Z.2 T) (bm 18 25599) 6 ?_ (fun Z j K => ?_))))))))))
 ·rintro ⟨e7, c5⟩ E W ⟨M, T, s, d, d9, c0, c1, c3, b9⟩ H
  refine bS H fun e0 O H => XE 10 rfl (Eg d call20 ((xh jP) M c5 _ _ (b9.sl jD d.jy (fun b o hq => d.at_ (Mt (Ml hq)))) O) (fun c9 d => ?_) (ha := SO c1))
  have h := d.has.js (Kb Sn)
  refine ⟨h, (X 11 rfl h (ko rfl rfl rfl) (X 12 rfl h (ko c0 rfl rfl) (bS H fun e1 P H => XE 15 rfl (Eg d call21 (ke.lR (wS (.slice p a.Keys.length a2) a.Keys (.slice none 0 0) ([]) _ _ (I.mono yf.mono d.jy) (Sl.nil _ _ _) P)) (fun d0 d => ?_) (ha := Tv c3 rfl)))))⟩
  have h := d.has.js (Kb Sn)
  refine ⟨h, (X 16 rfl h (ko rfl rfl rfl) (X 17 rfl h (ma rfl) (kM kr (jH ?_))))⟩
  exact kv (rQ H d)
 refine Gc 2 9 rfl rfl kr (.inl rfl) (.inl rfl) rfl rfl dc dc ?_ ?_
 ·refine bS j fun e2 R j => Ey (args := [(.agg a3.toArray)]) d rfl call19 (by exact tm rfl) (vc a.jq (.slice A1 a.jq.jF.length c2) (.slice A3 a.jq.jS.length n) _ _ (t.mono kc.mono d.jy) (u.mono mn.mono d.jy) R) (fun d1 d => ?_)
  have h := d.has.js (Kb Sn)
  refine ⟨h, (Gc 5 9 rfl rfl kr (.inl rfl) (.inl rfl) rfl rfl dc dc ?_ ?_)⟩
  ·refine bS j fun e3 b4 j => Ey (args := [(.agg a4.toArray)]) d rfl call19 (by exact tm rfl) (vc a.Client a5 b8 _ _ (c.mono kc.mono d.jy) (i.mono mn.mono d.jy) b4) (fun d2 d => ?_)
   have h := d.has.js (Kb Sn)
   refine ⟨h, (X 6 rfl h (ko rfl rfl rfl) (XE 9 rfl (kp (cs := a0.toArray) d (mD rfl) (mN aF aC bG) (fun d3 v d => ?_))))⟩
   have h := d.has.js (Db (Kb Sn))
   refine ⟨h, ?_⟩
   obtain rfl := sj j
   replace d := d.D6
   refine oF kr (K _ _ ⟨(.slice (some ⟨v, 0, none⟩) 1 1), [(v, Ol a0 30)], _, (d.js (Sb (Pr Pz) St)), rfl, rfl, rfl, rfl, (kw.lit jD (l := [a.Formula]) (.cons (ys := C1 a.Formula.Op a.Formula.K a.Formula.jl.jq a.Formula.jl.jv G a.Formula.Kids.length k) (jo.mk ⟨q, rfl, g⟩) .nil) rfl nb rfl)⟩)
  ·refine kp (cs := a0.toArray) d (mD rfl) (mN aF aC bG) (fun d4 a9 d => ?_)
   have h := d.has.js (Db (Kb Sn))
   refine ⟨h, (bS j fun e4 b5 j => XE 5 rfl (Eg d call19 (vc a.Client a5 b8 _ _ (c.mono kc.mono d.jy) (i.mono mn.mono d.jy) b5) (fun d5 d => ?_)))⟩
   have h := d.has.js (Db (Kb Sn))
   refine ⟨h, (X 6 rfl h (ko rfl rfl rfl) ?_)⟩
   obtain rfl := sj j
   replace d := d.D6
   refine oF kr (K _ _ ⟨(.slice (some ⟨a9, 0, none⟩) 1 1), [(a9, Ol a0 30)], _, (d.js (Sb (Pr Pz) St)), rfl, rfl, rfl, rfl, (kw.lit jD (l := [a.Formula]) (.cons (ys := C1 a.Formula.Op a.Formula.K a.Formula.jl.jq a.Formula.jl.jv G a.Formula.Kids.length k) (jo.mk ⟨q, rfl, g⟩) .nil) rfl nb rfl)⟩)
 ·refine kp (cs := a0.toArray) d (mD rfl) (mN aF aC bG) (fun d6 L d => ?_)
  have h := d.has.js (Db (Kb Sn))
  refine ⟨h, (bS j fun e5 b6 j => XE 2 rfl (Eg d call19 (vc a.jq (.slice A1 a.jq.jF.length c2) (.slice A3 a.jq.jS.length n) _ _ (t.mono kc.mono d.jy) (u.mono mn.mono d.jy) b6) (fun d7 d => ?_)))⟩
  have h := d.has.js (Db (Kb Sn))
  refine ⟨h, (bS j fun e6 b7 j => XE 5 rfl (Eg d call19 (vc a.Client a5 b8 _ _ (c.mono kc.mono d.jy) (i.mono mn.mono d.jy) b7) (fun d8 d => ?_)))⟩
  have h := d.has.js (Db (Kb Sn))
  refine ⟨h, (X 6 rfl h (ko rfl rfl rfl) ?_)⟩
  obtain rfl := sj j
  replace d := d.D6
  refine oF kr (K _ _ ⟨(.slice (some ⟨L, 0, none⟩) 1 1), [(L, Ol a0 30)], _, (d.js (Sb (Pr Pz) St)), rfl, rfl, rfl, rfl, (kw.lit jD (l := [a.Formula]) (.cons (ys := C1 a.Formula.Op a.Formula.K a.Formula.jl.jq a.Formula.jl.jv G a.Formula.Kids.length k) (jo.mk ⟨q, rfl, g⟩) .nil) rfl nb rfl)⟩)
theorem EY (g : jX) (D K : Value) (i : jX) (G M : Value) (r : ((List jm) × (List jm) × Int)) (w : World) (x : Sl jW 15 (hp w) D g.jF) (I : Sl kQ 8 (hp w) K g.jS) (y : Sl jW 15 (hp w) G i.jF) (J : Sl kQ 8 (hp w) M i.jS) (hm : sE g i = some r) :
  kA false pg0 12 [(.agg #[(.string g.Name), D, K]), (.agg #[(.string i.Name), G, M])] w [] (fun v L1 W' => ∃ y1 S2 y4 S5, v = (.tuple #[y1, y4, (.int .i64 (r.2.2))]) ∧ L1 = (S2 ++ (S5 ++ [])) ∧ jM 49 jr 9 y1 r.1 S2 ∧ jM 49 jr 9 y4 r.2.1 S5) := by
 refine yc 41 func12 rfl (fun d => sg ?_)
 obtain ⟨A1, c2, rfl⟩ := x.form
 obtain ⟨A3, c4, rfl⟩ := I.form
 let q := (C6 g.Name A1 g.jF.length c2 A3 g.jS.length c4)
 refine VE (kq d rfl (fun W6 p d => ?_))
 obtain ⟨A7, c8, rfl⟩ := y.form
 obtain ⟨A9, P, rfl⟩ := J.form
 let a0 := (C6 i.Name A7 i.jF.length c8 A9 i.jS.length P)
 refine VE (kq d rfl (fun f8 n d => Wa (Wa (Wa (lr (Wa (Wa (lr (Wa ?_)))))))))
 refine ln (tE (kX (mT (fun m E W => ∃ t a4 N u a5 Q H a9 b9, jR (hp w) a9 ∧ ST false kK w W a9 ((n, Ol a0 25) :: ((p, Ol q 25) :: (Q ++ (N ++ b9)))) ∧ E 2 = (.pointer (some ⟨p, 0, none⟩)) ∧ E 3 = (.pointer (some ⟨n, 0, none⟩)) ∧ E 7 = t ∧ E 8 = u ∧ E 9 = (.int .i64 H) ∧ jM 49 jr 9 t a4 N ∧ jM 49 jr 9 u a5 Q ∧ nI g i m a4 a5 H = some r) jP ⟨(.slice none 0 0), ([]), [], (.slice none 0 0), ([]), [], 0, (hp w), _, (jR.refl _), (d.js St), rfl, rfl, rfl, rfl, rfl, (jM.nil _ _ _), (jM.nil _ _ _), hm⟩ ?_)))
 rintro m E W ⟨t, a4, N, u, a5, Q, H, a9, b9, j, d, T, U, Y, Z, c9, a2, a3, c⟩
 cases m with
 | zero => rw [nI] at c; cases c
 | succ e6 =>
  refine jI (kX (jI ?_))
  replace d := d.drew
  have h := d.has.js (Kb (Kb Sn))
  refine kN h ki (XH 0 rfl h (fun _ l => jt T (jA l (Mt Mh) q rfl fa dZ)) (X 1 rfl h (jx Z) (X 2 rfl h (jB Ax U) (XH 3 rfl h (fun _ l => jt rfl (jG l Mh rfl bU)) (XH 5 rfl h (fun _ l => jt U (jA l Mh a0 rfl fa dZ)) (X 6 rfl h (jx Y) (X 7 rfl h (jB Ax T) (XH 8 rfl h (fun _ l => jt rfl (jG l (Mt Mh) rfl bU)) (bS c fun e7 d7 c => XE 4 rfl (vE d call26 (xN g (.slice A1 g.jF.length c2) (.slice A3 g.jS.length c4) u a5 i.Name _ _ (x.mono kc.mono (j.trans d.jy)) (I.mono mn.mono (j.trans d.jy)) (a3.sl kj (fun b o O => d.at_ (Mt (Mt (Ml O))))) d7) (fun f4 d2 f7 c1 d k s b1 => ?_)))))))))))
  have h := d.has.zB k (Dr (Kb (Kb Sn)))
  refine ⟨h, (bS c fun e8 d8 c => XE 9 rfl (vE d call26 (xN i (.slice A7 i.jF.length c8) (.slice A9 i.jS.length P) t a4 g.Name _ _ (y.mono kc.mono ((j.trans k).trans d.jy)) (J.mono mn.mono ((j.trans k).trans d.jy)) (a2.sl kj (fun b o O => d.at_ (Ma (Mt (Mt (Ma (Ml O))))))) d8) (fun f5 d3 d4 c3 d R L b2 => ?_)))⟩
  have h := d.has.zB (k.trans R) (Dr (Dr (Kb (Kb Sn))))
  refine ⟨h, (X 10 rfl h (ma rfl) (X 11 rfl h (ma rfl) (kM kr (jH (jI (sg (Wm (V (oe aJ rfl b1) (Wh Y (V (oe aJ rfl a2) (Wi rfl (Wm (LJ c (fun d1 E W => ∃ c0, ST false kK w W d4 ((n, Ol a0 25) :: ((p, Ol q 25) :: (c3 ++ (c1 ++ (Q ++ (N ++ c0)))))) ∧ E 2 = (.pointer (some ⟨p, 0, none⟩)) ∧ E 3 = (.pointer (some ⟨n, 0, none⟩)) ∧ E 7 = t ∧ E 8 = u ∧ E 9 = (.int .i64 H) ∧ E 10 = d2 ∧ E 11 = d3 ∧ E 35 = (.bool d1)) 6 ?_ (fun d1 B a8 => ?_))))))))))))))⟩
  ·rintro f6 E W ⟨c0, d, d9, e0, e1, e2, d0, e3, e4, e5⟩ z
   refine ln (CI z e5 (fun d6 z => ?_) (fun d6 z => ?_))
   ·refine sg (Wh e1 (Wh e2 (Wh d0 (Wa (Wa (Wa (ln ?_)))))))
    replace d := d.js (Db (Db (Dr (Dr St))))
    refine kv (kI (nt (kI (kI (nt (kI ?_))))))
    obtain rfl := sj z
    exact OB (v0 := t) (v1 := u) (v2 := (.int .i64 H)) rfl rfl rfl rfl ⟨_, _, rfl, (d.EV (Sr (Qr Qz) (Kr Sn))), t, N, u, Q, rfl, rfl, a2, a3⟩
   refine kn ?_
   replace d := d.js (Kb (Kb (Kr (Kr (Dr (Dr St))))))
   exact jC (Wh e3 (Wh e4 (Wa (Wa (jU (kz (jH (jC (Wh d0 (Wi rfl (Wa (ln ⟨e6, bn _, d2, e7, c1, d3, e8, c3, (wi0 .i64 (H + 1)), d4, _, ((j.trans k).trans R), (d.js St), d9, e0, rfl, rfl, rfl, b1, b2, z⟩))))))))))))
  refine bC B (fun a B => ?_) (fun a B => ?_)
  ·refine ug a (jx rfl) (ug a (oe aJ rfl b2) (ug a (jx Z) (ug a (oe aJ rfl a3) (ug a (ko rfl rfl rfl) (V (jO (cB a) rfl) ?_)))))
   obtain rfl := sj B
   exact a8 _ _ ⟨_, (d.js (Sb (Pr (Pr Pz)) (Sb (Pr (Pr Pz)) St))), T, U, Y, Z, c9, rfl, rfl, rfl⟩
  refine un a (un a (un a (un a (un a (V (jQ (cB a) rfl) ?_)))))
  obtain rfl := sj B
  exact a8 _ _ ⟨_, (d.js (Sb (Pr (Pr Pz)) (Sb (Pr (Pr Pz)) St))), T, U, Y, Z, c9, rfl, rfl, rfl⟩
theorem AP (a0 : Int) (G : kf) (u x : Value) (y : Nat) (j : Value) (B : List jm) (c : LO) (a : Value) (D : List jm) (g : LO) (z : Nat) (M : Int) (r : (Bool × (List jm) × (List jm) × Int)) (w : World) {μ0 : jN} (s : nT μ0 ((y, Ob #[j, a] 43) :: ((z, Ob #[(.int .i64 M)] 3) :: (c ++ (g ++ [])))) w) (k : Sl (Pl jr) 9 μ0 u G.og) (t : Sl (Pl jr) 9 μ0 x G.nB) (H : jM 49 jr 9 j B c) (I : jM 49 jr 9 a D g) (hm : nX a0 G B D M = some r) :
  kA true pg0 13 [(.int .i64 a0), (.agg #[u, x]), (.pointer (some ⟨y, 0, none⟩)), (.pointer (some ⟨z, 0, none⟩))] w ((y, Ob #[j, a] 43) :: ((z, Ob #[(.int .i64 M)] 3) :: (c ++ (g ++ [])))) (fun v L1 W' => ∃ h S2 l S5, v = (.bool (r.1)) ∧ L1 = ((y, Ob #[h, l] 43) :: ((z, Ob #[(.int .i64 (r.2.2.2))] 3) :: (S2 ++ (S5 ++ [])))) ∧ jM 49 jr 9 h r.2.1 S2 ∧ jM 49 jr 9 l r.2.2.1 S5) := by
 refine xL s 21 func13 rfl (fun b => sg ?_)
 obtain ⟨A1, c2, rfl⟩ := k.form
 obtain ⟨A3, q, rfl⟩ := t.form
 refine VE (kq b rfl (fun W6 E b => Wa (lr (V (ml (i := 0) dp dw rfl rfl dc dc) (VB b (Mt Mh) rfl rfl dY (V (ml (i := 0) dp dw rfl rfl dc dc) (VB b Mh rfl rfl dY ?_)))))))
 replace b := b.perm (Nr (Qb (Qb (Qb Qz))) Nz)
 refine bS hm fun Z p hm => VE (oC (enc := jr) (v := j) (vs := (.slice A1 G.og.length c2)) (R := c) b kj dc nw aJ lT.1 lT.2.1 rfl lT.2.2.1 lT.2.2.2 rfl rfl H (k.mono (Pl.mono _) b.jy) p (fun W9 c7 m b T => V (ml (i := 0) dp dw rfl rfl dc dc) ?_))
 obtain ⟨J, K, rfl⟩ := T.form
 let d : Value := (.slice J Z.length K)
 replace b := b.perm (Nb (Pr (Pb Pz)) Nz)
 refine VO (jL d (#[d, a]) b rfl rfl dw oc nb rfl (fun L b => lr (V (ml (i := 1) dp dw rfl rfl dc dc) (VB b Mh rfl rfl dY (V (ml (i := 1) dp dw rfl rfl dc dc) (VB b (Mt (Ma Mh)) rfl rfl dY ?_))))))
 replace b := b.perm (Nr (Qb (Qr (Qb (Qb Qz)))) Nz)
 refine bS hm fun Y a2 hm => VE (oC (enc := jr) (v := a) (vs := (.slice A3 G.nB.length q)) (R := g) b kj dc nw aJ lT.1 lT.2.1 rfl lT.2.2.1 lT.2.2.2 rfl rfl I (t.mono (Pl.mono _) b.jy) a2 (fun O c8 n b U => V (ml (i := 1) dp dw rfl rfl dc dc) ?_))
 obtain ⟨N, Q, rfl⟩ := U.form
 replace b := b.perm (Nb (Pr Pz) Nz)
 refine VO (jL (.slice N Y.length Q) (#[d, (.slice N Y.length Q)]) b rfl rfl dw oc nb rfl (fun P b => ln ?_))
 replace b := b.js (Kb (Kr (Kr (Db St))))
 refine sg (VB b (Mt (Ma (Ma Mh))) rfl rfl cJ (Wi rfl ?_))
 replace b := b.perm (Nb (Pb (Pr (Pr Pz))) Nz)
 refine VO (jL (.int .i64 (wi0 .i64 (M + 1))) (#[(.int .i64 (wi0 .i64 (M + 1)))]) b rfl rfl dR (wc _ (wi0 .i64 (M + 1))) nb rfl (fun W b => lr (Wa (lt ?_))))
 obtain rfl := sj hm
 exact li (v := (.bool true)) rfl rfl ⟨_, _, rfl, (b.mi (Sb (Pb Pz) (Kb (Sr (Qr Qz) (Kr Sn))))), d, m, (.slice N Y.length Q), n, rfl, rfl, T, U⟩
theorem wZ (M : ByteArray) (r : Bool) (w : World) (hm : qF M = some r) :
  ke true pg0 55 [(.string M)] w (.bool r) := by
 refine cG 49 func55 rfl (fun b => sg (Wa (lS (Wm (V (xd rfl rfl rfl) (Wm (LJ hm (fun c7 E W => ∃ L3, ST true kK w W (hp w) L3 ∧ E 0 = (.string M) ∧ E 11 = (.bool c7)) 4 ?_ (fun c7 K a5 => ?_))))))))
 ·rintro x2 E W ⟨L3, b, p, e6⟩ f7
  refine Wh e6 (LJ f7 (fun c6 E W => ∃ d3, ST true kK w W (hp w) d3 ∧ E 0 = (.string M) ∧ E 16 = (.bool c6)) 4 ?_ (fun c6 x a4 => ?_))
  ·rintro g4 E W ⟨d3, b, n, f4⟩ f0
   refine Wh f4 (LJ f0 (fun c5 E W => ∃ d4, ST true kK w W (hp w) d4 ∧ E 0 = (.string M) ∧ E 21 = (.bool c5)) 4 ?_ (fun c5 u a3 => ?_))
   ·rintro g7 E W ⟨d4, b, f5, f6⟩ Q
    refine ln (CI Q f6 (fun e9 Q => ?_) (fun e9 Q => ?_))
    ·refine sg (Wa (lt (kI ?_)))
     obtain rfl := sj Q
     exact rP b
    refine kS (Wa (ln (kX (mT (fun m E W => ∃ y L, ST true kK w W (hp w) L ∧ E 0 = (.string M) ∧ E 3 = (.int .i64 y) ∧ pP M m y = some r) jP ⟨0, _, (b.js St), f5, rfl, Q⟩ ?_))))
    rintro m E W ⟨y, L, b, T, U, c⟩
    cases m with
    | zero => rw [pP] at c; cases c
    | succ f1 =>
     refine jI (sg (Wh U (Wh T (V (ob bW rfl) (Wi rfl (ln (CI c rfl (fun c8 c => ?_) (fun c8 c => ?_))))))))
     ·refine kn (jI (bg (Wh T (Wh U (bS c fun d a9 c => V (zZ (i := y) bW rfl rfl (yT a9) (CF a9)) (Wa (lr ?_)))))))
      refine Wm (Wi rfl (Wm (LJ c (fun c4 E W => ∃ O, ST true kK w W (hp w) O ∧ E 0 = (.string M) ∧ E 3 = (.int .i64 y) ∧ E 4 = (.int .u8 (d.toNat : Int)) ∧ E 36 = (.bool c4)) 3 ?_ (fun c4 J a2 => ?_))))
      ·rintro f2 E W ⟨O, b, h, l, N, d5⟩ d0
       refine Wh d5 (LJ d0 (fun c2 E W => ∃ P, ST true kK w W (hp w) P ∧ E 0 = (.string M) ∧ E 3 = (.int .i64 y) ∧ E 4 = (.int .u8 (d.toNat : Int)) ∧ E 44 = (.bool c2)) 7 ?_ (fun c2 H Z => ?_))
       ·rintro g1 E W ⟨P, b, b9, c0, d6, d7⟩ d1
        refine Wh d7 (LJ d1 (fun c1 E W => ∃ R, ST true kK w W (hp w) R ∧ E 0 = (.string M) ∧ E 3 = (.int .i64 y) ∧ E 48 = (.bool c1)) 3 ?_ (fun c1 G Y => ?_))
        ·rintro g2 E W ⟨R, b, d8, d9, e0⟩ D
         refine ln (CI D e0 (fun c9 D => ?_) (fun c9 D => ?_))
         ·refine sg (Wa (lt (nt (kI (kI (nt (kI ?_)))))))
          obtain rfl := sj D
          exact rP b
         exact lJ (kz (jH (jC (Wh d9 (Wi rfl (Wa (ln ⟨f1, bn _, (wi0 .i64 (y + 1)), _, (b.js St), d8, rfl, D⟩)))))))
        refine bC G (fun k G => ?_) (fun k G => ?_)
        ·refine ug k (jx d6) (ug k (ko rfl rfl rfl) (V (jO (cB k) rfl) ?_))
         obtain rfl := sj G
         exact Y _ _ ⟨_, (b.js St), b9, c0, rfl⟩
        refine un k (un k (V (jQ (cB k) rfl) ?_))
        obtain rfl := sj G
        exact Y _ _ ⟨_, (b.js St), b9, c0, rfl⟩
       refine bC H (fun a H => ?_) (fun a H => ?_)
       ·refine ug a (jx N) (ug a (ko rfl rfl rfl) (ug a (jx rfl) (LJ H (fun c3 E W => ∃ b6, ST true kK w W (hp w) b6 ∧ E 0 = (.string M) ∧ E 3 = (.int .i64 y) ∧ E 4 = (.int .u8 (d.toNat : Int)) ∧ E 37 = (.bool f2) ∧ E 43 = (.bool c3)) 3 ?_ (fun c3 I q => ?_))))
        ·rintro g3 E W ⟨b6, b, e1, e2, e3, e4, e7⟩ d2
         refine V (jO (e4.trans (cB a)) e7) ?_
         obtain rfl := sj d2
         exact Z _ _ ⟨_, (b.js St), e1, e2, e3, rfl⟩
        refine bC I (fun t I => ?_) (fun t I => ?_)
        ·refine un t (un t (ug a (jO (cB t) rfl) ?_))
         obtain rfl := sj I
         exact q _ _ ⟨_, (b.js St), h, l, N, rfl, rfl⟩
        refine ug t (jx N) (ug t (ko rfl rfl rfl) (ug a (jQ (cB t) rfl) ?_))
        obtain rfl := sj I
        exact q _ _ ⟨_, (b.js St), h, l, N, rfl, rfl⟩
       refine un a (un a (un a (Vu rfl rfl (Vu rfl rfl (un a (V (jQ (cB a) rfl) ?_))))))
       obtain rfl := sj H
       exact Z _ _ ⟨_, (b.js St), h, l, N, rfl⟩
      refine bC J (fun j J => ?_) (fun j J => ?_)
      ·refine un j (un j (V (jO (cB j) rfl) ?_))
       obtain rfl := sj J
       exact a2 _ _ ⟨_, (b.js St), T, U, rfl, rfl⟩
      refine ug j (jx rfl) (ug j (ko rfl rfl rfl) (V (jQ (cB j) rfl) ?_))
      obtain rfl := sj J
      exact a2 _ _ ⟨_, (b.js St), T, U, rfl, rfl⟩
     exact ng (mI (mI (rC (jH (sg (Wa (lt (rQ c b))))))))
   refine bC u (fun g u => ?_) (fun g u => ?_)
   ·refine un g (un g (un g (V (jO (cB g) rfl) ?_)))
    obtain rfl := sj u
    exact a3 _ _ ⟨_, (b.js St), n, rfl⟩
   refine ug g (jx n) (bS u fun f8 s u => ug g (zZ (i := 0) bW rfl rfl (yT s) (CF s)) (ug g (ko rfl rfl rfl) (V (jQ (cB g) rfl) ?_)))
   obtain rfl := sj u
   exact a3 _ _ ⟨_, (b.js St), n, rfl⟩
  refine bC x (fun B x => ?_) (fun B x => ?_)
  ·refine un B (un B (un B (V (jO (cB B) rfl) ?_)))
   obtain rfl := sj x
   exact a4 _ _ ⟨_, (b.js St), p, rfl⟩
  refine ug B (jx p) (bS x fun f9 v x => ug B (zZ (i := 0) bW rfl rfl (yT v) (CF v)) (ug B (ko rfl rfl rfl) (V (jQ (cB B) rfl) ?_)))
  obtain rfl := sj x
  exact a4 _ _ ⟨_, (b.js St), p, rfl⟩
 refine bC K (fun z K => ?_) (fun z K => ?_)
 ·refine un z (un z (un z (V (jO (cB z) rfl) ?_)))
  obtain rfl := sj K
  exact a5 _ _ ⟨_, (b.js St), rfl, rfl⟩
 refine ug z (jx rfl) (ug z (ob bW rfl) (ug z (ko rfl rfl rfl) (V (jQ (cB z) rfl) ?_)))
 obtain rfl := sj K
 exact a5 _ _ ⟨_, (b.js St), rfl, rfl⟩
theorem zy (i : jl) (r : Bool) (w : World) (hm : rR i = some r) :
  ke true pg0 54 [(.agg (ju i).toArray)] w (.bool r) := by
 refine cG 11 func54 rfl (fun b => sg (VE (kq b rfl (fun H J b => Wa (lr (Wf pY (VB b Mh rfl rfl bU (bS hm fun K y hm => VE (Eg b call55 (wZ i.jq _ _  y) (fun I b => Wm (LJ hm (fun k E W => ∃ j, ST true kK w W (hp w) j ∧ E 2 = (.bool false) ∧ E 10 = (.bool k)) 4 ?_ (fun k a g => ?_))))))))))))
 ·rintro G E W ⟨j, b, B, x⟩ t
  exact Wg x (lt (rQ t b))
 refine bC a (fun c a => ?_) (fun c a => ?_)
 ·refine ug c (jB tL rfl) (ug c (jt rfl (jG b.has Mh rfl bU)) (bS a fun D u a => ue c (Eg b call55 (wZ i.jv _ _  u) (fun z b => V (jO (cB c) rfl) ?_))))
  obtain rfl := sj a
  exact g _ _ ⟨_, (b.js (Db St)), rfl, rfl⟩
 refine un c (un c (un c (V (jQ (cB c) rfl) ?_)))
 obtain rfl := sj a
 exact g _ _ ⟨_, (b.js (Db St)), rfl, rfl⟩
theorem Jb (t u : jl) (r : Bool) (w : World) (hm : vQ t u = some r) :
  ke true pg0 56 [(.agg (ju t).toArray), (.agg (ju u).toArray)] w (.bool r) := by
 refine cG 24 func56 rfl (fun b => sg (VE (kq b rfl (fun T Y b => VE (kq b rfl (fun U Z b => Wa (lr (Wf pY (VB b (Mt Mh) rfl rfl bU (Wf pY (VB b Mh rfl rfl bU (V (xd rfl rfl rfl) ?_))))))))))))
 refine Wm (LJ hm (fun z E W => ∃ x, ST true kK w W (hp w) x ∧ E 4 = (.bool false) ∧ E 23 = (.bool z)) 13 ?_ (fun z g j => ?_))
 ·rintro N E W ⟨x, b, M, H⟩ D
  exact Wg H (lt (rQ D b))
 refine bC g (fun a g => ?_) (fun a g => ?_)
 ·refine un a (un a (un a (un a (un a (un a (Vu rfl rfl (Vu rfl rfl (Vu rfl rfl (Vu rfl rfl (Vu rfl rfl (un a (V (jO (cB a) rfl) ?_))))))))))))
  obtain rfl := sj g
  exact j _ _ ⟨_, (b.js (Db (Db St))), rfl, rfl⟩
 refine ug a (jB pY rfl) (ug a (jt rfl (jG b.has (Mt Mh) rfl bU)) (ug a (jB pY rfl) (ug a (jt rfl (jG b.has Mh rfl bU)) (ug a (xd rfl rfl rfl) (ug a (jx rfl) (LJ g (fun B E W => ∃ y, ST true kK w W (hp w) y ∧ E 4 = (.bool false) ∧ E 10 = (.bool (pN t.jq u.jq)) ∧ E 22 = (.bool B)) 6 ?_ (fun B i k => ?_)))))))
 ·rintro Q E W ⟨y, b, I, J, K⟩ G
  refine V (jQ (J.trans (cB a)) K) ?_
  obtain rfl := sj G
  exact j _ _ ⟨_, (b.js St), I, rfl⟩
 refine bC i (fun c i => ?_) (fun c i => ?_)
 ·refine ug c (jB tL rfl) (ug c (jt rfl (jG b.has (Mt Mh) rfl bU)) (ug c (jB tL rfl) (ug c (jt rfl (jG b.has Mh rfl bU)) (ug c (xd rfl rfl rfl) (ug a (jO (cB c) rfl) ?_)))))
  obtain rfl := sj i
  exact k _ _ ⟨_, (b.js (Db (Db St))), rfl, rfl, rfl⟩
 refine un c (un c (un c (un c (un c (ug a (jQ (cB c) rfl) ?_)))))
 obtain rfl := sj i
 exact k _ _ ⟨_, (b.js (Db (Db St))), rfl, rfl, rfl⟩
theorem Dp (g : jm) (r : Bool) (w : World) (hm : ve g = some r) :
  ke true pg0 31 [(.agg (jr g).toArray)] w (.bool r) := by
 refine cG 93 func31 rfl (fun b => sg (VE (kq b rfl (fun W2 M b => Wa (lr (VE (kx b fg (fun W4 h b => lS ?_))))))))
 refine Wf rW (VA b (Mt Mh) (ju g.Head) bQ aT (bS hm fun r5 h4 hm => VE (Eg b call54 (zy g.Head _ _  h4) (fun W7 b => V (pa rfl) (ln (CI hm rfl (fun h2 hm => ?_) (fun h2 hm => ?_)))))))
 ·refine sg (Wa (ln ?_))
  replace b := b.js (Db (Db St))
  refine kv (kI ?_)
  obtain rfl := sj hm
  exact rP b
 refine kS (Wf rG (VB b (Mt Mh) rfl rfl cJ (Wi rfl (ln (CI hm rfl (fun h3 hm => ?_) (fun h3 hm => ?_))))))
 ·refine sg (Wf ya (VB b (Mt Mh) rfl rfl bU (bS hm fun i6 f7 hm => VE (Eg b call55 (wZ g.km _ _  f7) (fun i3 b => Wm (LJ hm (fun e1 E W => ∃ c8, ST true kK w W (hp w) ((h, Ol (ju K0) 27) :: ((M, Ol (jr g) 49) :: c8)) ∧ E 1 = (.pointer (some ⟨M, 0, none⟩)) ∧ E 2 = (.bool false) ∧ E 3 = (.pointer (some ⟨h, 0, none⟩)) ∧ E 19 = (.bool e1)) 5 ?_ (fun e1 T p => ?_)))))))
  ·rintro i8 E W ⟨c8, b, l, d6, f9, g0⟩ f0
   refine Wh g0 (LJ f0 (fun e0 E W => ∃ c9, ST true kK w W (hp w) ((M, Ol (jr g) 49) :: c9) ∧ E 1 = (.pointer (some ⟨M, 0, none⟩)) ∧ E 2 = (.bool false) ∧ E 25 = (.bool e0)) 5 ?_ (fun e0 Q a5 => ?_))
   ·rintro i9 E W ⟨c9, b, g1, d7, g2⟩ f1
    refine Wh g2 (LJ f1 (fun d9 E W => ∃ d0, ST true kK w W (hp w) d0 ∧ E 2 = (.bool false) ∧ E 30 = (.bool d9)) 4 ?_ (fun d9 N a4 => ?_))
    ·rintro j0 E W ⟨d0, b, i5, g3⟩ f2
     refine Wg g3 (lt (kI ?_))
     obtain rfl := sj f2
     exact rP b
    refine bC N (fun x N => ?_) (fun x N => ?_)
    ·refine ug x (jB um g1) (ug x (jt rfl (jG b.has Mh rfl bU)) (ug x (xd rfl rfl rfl) (V (jO (cB x) rfl) ?_)))
     obtain rfl := sj N
     exact a4 _ _ ⟨_, (b.js (Db St)), d7, rfl⟩
    refine un x (un x (un x (V (jQ (cB x) rfl) ?_)))
    obtain rfl := sj N
    exact a4 _ _ ⟨_, (b.js (Db St)), d7, rfl⟩
   refine bC Q (fun k Q => ?_) (fun k Q => ?_)
   ·refine ug k (jB sW l) (ug k (jt rfl (jA b.has (Mt Mh) (ju g.C) rfl bQ aT)) (ug k (jt f9 (jA b.has Mh (ju K0) rfl bQ aT)) (ug k (wU rfl rfl (pu fC) (tH (sN _ g.C K0))) (V (jO (cB k) rfl) ?_))))
    obtain rfl := sj Q
    exact a5 _ _ ⟨_, (b.js (Db St)), l, d6, rfl⟩
   refine un k (un k (un k (un k (V (jQ (cB k) rfl) ?_))))
   obtain rfl := sj Q
   exact a5 _ _ ⟨_, (b.js (Db St)), l, d6, rfl⟩
  refine bC T (fun j T => ?_) (fun j T => ?_)
  ·refine ug j (jB nV rfl) (ug j (jt rfl (jA b.has (Mt Mh) (ju g.B) rfl bQ aT)) (ug j (jt rfl (jA b.has Mh (ju K0) rfl bQ aT)) (ug j (wU rfl rfl (pu fC) (tH (sN _ g.B K0))) (V (jO (cB j) rfl) ?_))))
   obtain rfl := sj T
   exact p _ _ ⟨_, (b.js St), rfl, rfl, rfl, rfl⟩
  refine un j (un j (un j (un j (V (jQ (cB j) rfl) ?_))))
  obtain rfl := sj T
  exact p _ _ ⟨_, (b.js St), rfl, rfl, rfl, rfl⟩
 let a0 := ((jr g).toArray : Array Value)
 let d : Value := (.pointer (some ⟨M, 0, none⟩))
 refine kS (Wf ya (VB b (Mt Mh) rfl rfl bU (V (xd rfl rfl rfl) (Wm (LJ hm (fun c1 E W => ∃ d1, ST true kK w W (hp w) ((h, Ol (ju K0) 27) :: ((M, Obj.cells a0 49 (0, 0)) :: d1)) ∧ E 1 = d ∧ E 3 = (.pointer (some ⟨h, 0, none⟩)) ∧ E 39 = (.bool c1)) 5 ?_ (fun c1 I a3 => ?_))))))
 ·rintro j3 E W ⟨d1, b, u, d8, g4⟩ i
  refine ln (CI i g4 (fun e7 i => ?_) (fun e7 i => ?_))
  ·refine sg (Wa (ln ?_))
   replace b := b.js (Db (Db St))
   refine kv (kI ?_)
   obtain rfl := sj i
   exact rP b
  refine kS (V (jB rG u) (VB b (Mt Mh) rfl rfl cJ (Wi rfl (ln (CI i rfl (fun e8 i => ?_) (fun e8 i => ?_))))))
  ·refine sg (V (jB sW u) (VA b (Mt Mh) (ju g.C) bQ aT (V (jt d8 (jA b.has Mh (ju K0) rfl bQ aT)) (V (wU rfl rfl (pu fC) (tH (sN _ g.C K0))) (Wm (LJ i (fun e2 E W => ∃ d2, ST true kK w W (hp w) d2 ∧ E 51 = (.bool e2)) 4 ?_ (fun e2 U q => ?_)))))))
   ·rintro j4 E W ⟨d2, b, g7⟩ f3
    refine Wg g7 (lt (kI ?_))
    obtain rfl := sj f3
    exact rP b
   refine bC U (fun y U => ?_) (fun y U => ?_)
   ·refine ug y (jB um u) (ug y (jt rfl (jG b.has (Mt Mh) rfl bU)) (ug y (xd rfl rfl rfl) (V (jO (cB y) rfl) ?_)))
    obtain rfl := sj U
    exact q _ _ ⟨_, (b.js (Db (Db St))), rfl⟩
   refine un y (un y (un y (V (jQ (cB y) rfl) ?_)))
   obtain rfl := sj U
   exact q _ _ ⟨_, (b.js (Db (Db St))), rfl⟩
  refine kS (V (jB rG u) (VB b (Mt Mh) rfl rfl cJ (Wi rfl (ln (CI i rfl (fun e9 i => ?_) (fun e9 i => ?_))))))
  ·refine sg (V (jB sW u) (VA b (Mt Mh) (ju g.C) bQ aT (V (jt d8 (jA b.has Mh (ju K0) rfl bQ aT)) (V (wU rfl rfl (pu fC) (tH (sN _ g.C K0))) (Wm (LJ i (fun e4 E W => ∃ d3, ST true kK w W (hp w) ((M, Obj.cells a0 49 (0, 0)) :: d3) ∧ E 1 = d ∧ E 67 = (.bool e4)) 8 ?_ (fun e4 Y a9 => ?_)))))))
   ·rintro j5 E W ⟨d3, b, g8, g9⟩ f4
    refine Wh g9 (LJ f4 (fun e3 E W => ∃ d4, ST true kK w W (hp w) d4 ∧ E 72 = (.bool e3)) 4 ?_ (fun e3 J s => ?_))
    ·rintro j6 E W ⟨d4, b, h0⟩ f5
     refine Wg h0 (lt (kI ?_))
     obtain rfl := sj f5
     exact rP b
    refine bC J (fun z J => ?_) (fun z J => ?_)
    ·refine ug z (jB um g8) (ug z (jt rfl (jG b.has Mh rfl bU)) (bS J fun i7 f8 J => ue z (Eg b call55 (wZ g.kC _ _  f8) (fun i4 b => V (jO (cB z) rfl) ?_))))
     obtain rfl := sj J
     exact s _ _ ⟨_, (b.js (Db St)), rfl⟩
    refine un z (un z (un z (V (jQ (cB z) rfl) ?_)))
    obtain rfl := sj J
    exact s _ _ ⟨_, (b.js (Db St)), rfl⟩
   refine bC Y (fun a Y => ?_) (fun a Y => ?_)
   ·refine ug a (jB nV u) (ug a (jB pY rfl) (ug a (jt rfl (jG b.has (Mt Mh) rfl bU)) (ug a (jB rW u) (ug a (jB pY rfl) (ug a (jt rfl (jG b.has (Mt Mh) rfl bU)) (ug a (xd rfl rfl rfl) (V (jO (cB a) rfl) ?_)))))))
    obtain rfl := sj Y
    exact a9 _ _ ⟨_, (b.js (Db St)), u, rfl⟩
   refine un a (un a (un a (un a (un a (un a (un a (V (jQ (cB a) rfl) ?_)))))))
   obtain rfl := sj Y
   exact a9 _ _ ⟨_, (b.js (Db St)), u, rfl⟩
  refine kn ?_
  replace b := b.js (Db St)
  refine sg (V (jB rG u) (VB b Mh rfl rfl cJ (Wi rfl (Wm (LJ i (fun c0 E W => ∃ d5, ST true kK w W (hp w) ((M, Obj.cells a0 49 (0, 0)) :: d5) ∧ E 1 = d ∧ E 80 = (.bool c0)) 4 ?_ (fun c0 K a2 => ?_))))))
  ·rintro j7 E W ⟨d5, b, m, h1⟩ f6
   refine Wh h1 (LJ f6 (fun R E W => ∃ v, ST true kK w W (hp w) ((M, Obj.cells a0 49 (0, 0)) :: v) ∧ E 1 = d ∧ E 85 = (.bool R)) 4 ?_ (fun R H n => ?_))
   ·rintro i1 E W ⟨v, b, O, e5⟩ c3
    refine Wh e5 (LJ c3 (fun P E W => ∃ L, ST true kK w W (hp w) L ∧ E 92 = (.bool P)) 6 ?_ (fun P G Z => ?_))
    ·rintro i2 E W ⟨L, b, e6⟩ c4
     exact Wg e6 (lt (rQ c4 b))
    refine bC G (fun c G => ?_) (fun c G => ?_)
    ·refine ug c (jB nV O) (ug c (jt rfl (jA b.has Mh (ju g.B) rfl bQ aT)) (ug c (jB sW O) (ug c (jt rfl (jA b.has Mh (ju g.C) rfl bQ aT)) (bS G fun h8 c5 G => ue c (Eg b call56 (Jb g.B g.C _ _  c5) (fun h5 b => V (jO (cB c) rfl) ?_))))))
     obtain rfl := sj G
     exact Z _ _ ⟨_, (b.js (Db St)), rfl⟩
    refine un c (un c (un c (un c (un c (V (jQ (cB c) rfl) ?_)))))
    obtain rfl := sj G
    exact Z _ _ ⟨_, (b.js (Db St)), rfl⟩
   refine bC H (fun D H => ?_) (fun D H => ?_)
   ·refine ug D (jB sW m) (ug D (jt rfl (jA b.has Mh (ju g.C) rfl bQ aT)) (bS H fun h9 c6 H => ue D (Eg b call54 (zy g.C _ _  c6) (fun h6 b => V (jO (cB D) rfl) ?_))))
    obtain rfl := sj H
    exact n _ _ ⟨_, (b.js St), m, rfl⟩
   refine un D (un D (un D (V (jQ (cB D) rfl) ?_)))
   obtain rfl := sj H
   exact n _ _ ⟨_, (b.js St), m, rfl⟩
  refine bC K (fun B K => ?_) (fun B K => ?_)
  ·refine ug B (jB um u) (ug B (jt rfl (jG b.has Mh rfl bU)) (ug B (xd rfl rfl rfl) (V (jO (cB B) rfl) ?_)))
   obtain rfl := sj K
   exact a2 _ _ ⟨_, (b.js St), u, rfl⟩
  refine un B (un B (un B (V (jQ (cB B) rfl) ?_)))
  obtain rfl := sj K
  exact a2 _ _ ⟨_, (b.js St), u, rfl⟩
 refine bC I (fun t I => ?_) (fun t I => ?_)
 ·refine un t (un t (un t (un t (V (jO (cB t) rfl) ?_))))
  obtain rfl := sj I
  exact a3 _ _ ⟨_, (b.js St), rfl, rfl, rfl⟩
 refine ug t (jB nV rfl) (ug t (jt rfl (jA b.has (Mt Mh) (ju g.B) rfl bQ aT)) (bS I fun i0 c7 I => ue t (Eg b call54 (zy g.B _ _  c7) (fun h7 b => ug t (pa rfl) (V (jQ (cB t) rfl) ?_)))))
 obtain rfl := sj I
 exact a3 _ _ ⟨_, (b.js St), rfl, rfl, rfl⟩
theorem BW (x : Int) (r : ByteArray) (w : World) (hm : qc x = some r) :
  ke true pg0 117 [(.int .i64 x)] w (.string r) := by
 refine cG 22 func117 rfl (fun d => sg (Wa (lr (Wa (ln (jI (kX (mT (fun m E W => ∃ c j t, ST true kK w W (hp w) t ∧ E 0 = (.int .i64 c) ∧ E 3 = (.string j) ∧ sd m c j = some r) jP ⟨x, zS, _, (d.js St), rfl, rfl, hm⟩ ?_))))))))
 rintro m E W ⟨c, j, t, d, i, u, g⟩
 let N := (Int.tmod c 128)
 cases m with
 | zero => rw [sd] at g; cases g
 | succ D =>
  refine jI (sg (Wh i (Wi rfl (ln (CI g rfl (fun y g => ?_) (fun y g => ?_))))))
  ·refine kn (bg (Wh u (Wh i (V (Is (k := .i64) (a := c) (b := 128) (v := (.int .i64 N)) rfl rfl dc rfl) (Wi rfl (V (qI (k' := .i64) (a := (wi0 .i64 (128 + N))) dK fK rfl) (VE (kp (cs := [(.int .u8 (IntKind.u8.wrap (wi0 .i64 (128 + N))))].toArray) d (mD rfl) (mN cQ sizeOf5 iX) (fun H J d => V (Kz cQ fK bW rfl (Sl.lit (enc := (kP .u8)) (l := [(IntKind.u8.wrap (wi0 .i64 (128 + N)))]) (fun _ => rfl) rfl nb rfl (d.at_ Mh))) (bS g fun G z g => V (zQ rfl rfl z) (Wa ?_)))))))))))
   refine ln ?_
   replace d := d.js (Db St)
   exact jC (Wh i (V (Is (k := .i64) (a := c) (b := 128) (v := (.int .i64 (wi0 .i64 (Int.tdiv c 128)))) rfl rfl dc rfl) (Wa (jU (kz (jH ⟨D, bn _, (wi0 .i64 (Int.tdiv c 128)), G, _, (d.js St), rfl, rfl, g⟩))))))
  refine ng (mI (mI (rC (jH (sg (Wh u (Wh i (V (qI (k' := .i64) (a := c) dK fK rfl) (VE (kp (cs := [(.int .u8 (IntKind.u8.wrap c))].toArray) d (mD rfl) (mN cQ sizeOf5 iX) (fun I K d => V (Kz cQ fK bW rfl (Sl.lit (enc := (kP .u8)) (l := [(IntKind.u8.wrap c)]) (fun _ => rfl) rfl nb rfl (d.at_ Mh))) (bS g fun M B g => V (zQ rfl rfl B) (Wa (ln ?_))))))))))))))
  exact kv (rQ g d)
theorem yn (a r : ByteArray) (w : World) (hm : ta a = some r) :
  ke true pg0 119 [(.string a)] w (.string r) := by
 refine cG 8 func119 rfl (fun b => sg (Wa (lr (Wm (V (ob bW rfl) (bS hm fun j c hm => VE (Eg b call117 (BW (a.size : Int) _ _  c) (fun i b => Wm (bS hm fun k g hm => V (zQ rfl rfl g) ?_)))))))))
 exact Wa (lt (rQ hm b))
theorem zt (a : jl) (r : ByteArray) (w : World) (hm : rT a = some r) :
  ke true pg0 118 [(.agg (ju a).toArray)] w (.string r) := by
 refine cG 10 func118 rfl (fun b => sg (VE (kq b rfl (fun y z b => Wa (ln (jI ?_))))))
 replace b := b.drew
 have d := b.has.js (Kb Sn)
 refine kN d ki (X 0 rfl d (jB pY rfl) (XH 1 rfl d (fun _ h => jt rfl (jG h Mh rfl bU)) (X 3 rfl d (jB tL rfl) (XH 4 rfl d (fun _ h => jt rfl (jG h Mh rfl bU)) (bS hm fun t c hm => XE 2 rfl (Eg b call119 (yn a.jq _ _  c) (fun j b => ?_)))))))
 have d := b.has.js (Kb Sn)
 refine ⟨d, (bS hm fun u g hm => XE 5 rfl (Eg b call119 (yn a.jv _ _  g) (fun k b => ?_)))⟩
 have d := b.has.js (Kb Sn)
 refine ⟨d, (bS hm fun x i hm => X 6 rfl d (zQ rfl rfl i) (X 7 rfl d (ma rfl) (kM kr (jH ?_))))⟩
 exact kv (rQ hm b)
theorem H7 (g : jm) (r : ByteArray) (w : World) (hm : zw g = some r) :
  ke true pg0 83 [(.agg (jr g).toArray)] w (.string r) := by
 refine cG 41 func83 rfl (fun b => sg (VE (kq b rfl (fun W2 l b => Wa (ln (jI ?_))))))
 replace b := b.drew
 have d := b.has.js (Kb Sn)
 refine kN d ki (X 0 rfl d (jB rG rfl) (XH 1 rfl d (fun _ h => jt rfl (jG h Mh rfl cJ)) (X 3 rfl d (jB rW rfl) (XH 4 rfl d (fun _ h => jt rfl (jA h Mh (ju g.Head) rfl bQ aT)) (bS hm fun a9 H hm => XE 2 rfl (Eg b call117 (BW g.Kind _ _  H) (fun a3 b => ?_)))))))
 have d := b.has.js (Kb Sn)
 refine ⟨d, (bS hm fun q I hm => XE 5 rfl (Eg b call118 (zt g.Head _ _  I) (fun a4 b => ?_)))⟩
 have d := b.has.js (Kb Sn)
 refine ⟨d, (bS hm fun P Q hm => X 6 rfl d (zQ rfl rfl Q) (X 7 rfl d (ma rfl) (kM kr (jH (jI (sg (Wf rG (VB b Mh rfl rfl cJ (Wi rfl (ln (CI hm rfl (fun y hm => ?_) (fun y hm => ?_))))))))))))⟩
 ·refine sg (Wm (Wf ya (VB b Mh rfl rfl bU (bS hm fun s J hm => VE (Eg b call119 (yn g.km _ _  J) (fun a5 b => bS hm fun R T hm => V (zQ rfl rfl T) (Wa (ln ?_))))))))
  replace b := b.js (Db St)
  refine kv (kI ?_)
  obtain rfl := sj hm
  exact rP b
 refine kg (Wm (Wf nV (VA b Mh (ju g.B) bQ aT (bS hm fun v K hm => VE (Eg b call118 (zt g.B _ _  K) (fun m b => bS hm fun b9 U hm => V (zQ rfl rfl U) (Wa (ln (jI ?_)))))))))
 refine CJ hm (fun x E W => ∃ i, ST true kK w W (hp w) ((l, Ol (jr g) 49) :: i) ∧ E 1 = (.pointer (some ⟨l, 0, none⟩)) ∧ E 3 = (.string x)) (fun x c => ?_) ?_
 ·refine sg (Wf rG (VB b Mh rfl rfl cJ (Wi rfl (ln (CI c rfl (fun B c => ?_) (fun B c => ?_))))))
  ·refine jC (Wm (Wf um (VB b Mh rfl rfl bU (bS c fun O N c => VE (Eg b call119 (yn g.kC _ _  N) (fun p b => bS c fun c1 Z c => V (zQ rfl rfl Z) (Wa (ln ?_))))))))
   obtain rfl := sj c
   exact ⟨_, (b.js St), rfl, rfl⟩
  refine kn ?_
  obtain rfl := sj c
  exact ⟨_, (b.js St), rfl, rfl⟩
 rintro c2 E W ⟨i, b, k, t⟩ D
 refine jI (CJ D (fun u E W => ∃ j, ST true kK w W (hp w) j ∧ E 3 = (.string u)) (fun u a => ?_) ?_)
 ·refine sg (V (jB rG k) (VB b Mh rfl rfl cJ (Wi rfl (ln (CI a rfl (fun z a => ?_) (fun z a => ?_))))))
  ·refine jC (Wh t (V (jB sW k) (VA b Mh (ju g.C) bQ aT (bS a fun L M a => VE (Eg b call118 (zt g.C _ _  M) (fun n b => bS a fun c0 Y a => V (zQ rfl rfl Y) (Wa (ln ?_))))))))
   obtain rfl := sj a
   exact ⟨_, (b.js (Db St)), rfl⟩
  refine kn ?_
  obtain rfl := sj a
  exact ⟨_, (b.js (Db St)), t⟩
 rintro c3 E W ⟨j, b, a2⟩ G
 exact sg (Wh a2 (Wa (lt (rQ G b))))
theorem Dk (a : jm) (r : ByteArray) (w : World) (hm : uV a = some r) :
  ke true pg0 57 [(.agg (jr a).toArray)] w (.string r) := by
 refine cG 8 func57 rfl (fun b => sg (VE (kq b rfl (fun j u b => Wa (lS (VA b Mh (jr a) bX aQ (bS hm fun x g hm => VE (Eg b call31 (Dp a _ _  g) (fun k b => V (pa rfl) (jU ?_))))))))))
 refine jH (CI hm rfl (fun c hm => ?_) (fun c hm => ?_))
 ·refine sg (Wa (ln ?_))
  replace b := b.js (Db St)
  refine kv (kI ?_)
  obtain rfl := sj hm
  exact rP b
 refine kg (VA b Mh (jr a) bX aQ (bS hm fun y i hm => VE (Eg b call83 (H7 a _ _  i) (fun t b => Wa (ln ?_)))))
 exact kv (rQ hm b)
theorem A8 (a c : jm) (r : Int) (w : World) (hm : rL a c = some r) :
  ke true pg0 32 [(.agg (jr a).toArray), (.agg (jr c).toArray)] w (.int .i64 r) := by
 refine cG 17 func32 rfl (fun b => sg (VE (kq b rfl (fun u z b => VE (kq b rfl (fun x B b => Wa (lr (VA b (Mt Mh) (jr a) bX aQ (bS hm fun D j hm => VE (Eg b call57 (Dk a _ _  j) (fun y b => Wa (jU ?_))))))))))))
 refine jH ?_
 replace b := b.js (Kb (Db St))
 refine sg (VA b Mh (jr c) bX aQ (bS hm fun G k hm => VE (Eg b call57 (Dk c _ _  k) (fun t b => Wa (ln ?_)))))
 replace b := b.js (Db St)
 refine jI (sg (Wm (Wm (V (xd rfl rfl rfl) (ln (CI hm rfl (fun g hm => ?_) (fun g hm => ?_)))))))
 ·refine sg (Wa (lt (kI ?_)))
  obtain rfl := sj hm
  exact rP b
 refine kS (Wm (Wm (V (xd rfl rfl rfl) (ln (CI hm rfl (fun i hm => ?_) (fun i hm => ?_))))))
 ·refine sg (Wa (lt (kI ?_)))
  obtain rfl := sj hm
  exact rP b
 exact kg (Wa (lt (rQ hm b)))
theorem EM (D : Value) (a0 r : List jm) (w : World) (e3 : Sl (Pl jr) 9 (hp w) D a0) (hm : sF a0 = some r) :
  mH true pg0 15 [D] w 49 jr 9 r := by
 refine yc 51 func15 rfl (fun d => sg (Wa (lr (Wa (ln (tE (kX (mT (fun m E W => ∃ x a3 u c5, ST true kK w W (hp w) (u ++ c5) ∧ E 0 = D ∧ E 3 = x ∧ jM 49 jr 9 x a3 u ∧ sK a0 m a3 = some r) jP ⟨(.slice none 0 0), ([]), [], _, (d.js St), rfl, rfl, (jM.nil _ _ _), hm⟩ ?_))))))))
 rintro m E W ⟨x, a3, u, c5, d, d1, g2, J, a5⟩
 cases m with
 | zero => rw [sK] at a5; cases a5
 | succ j5 =>
  refine bg (VE (kx d dn (fun k0 t d => lr (Wa (lS (Wh d1 ?_))))))
  let b8 : Value := (.pointer (some ⟨t, 0, none⟩))
  refine V (lU aJ rfl e3) (Wm (ln (CJ a5 (fun a9 E W => ∃ c6, ST true kK w W (hp w) ((t, Ol (jr a9.2) 49) :: (u ++ c6)) ∧ E 0 = D ∧ E 3 = x ∧ E 4 = b8 ∧ E 5 = (.bool a9.1)) (fun a9 e9 => ?_) ?_)))
  ·refine lQ (fun i E W => ∃ G y b1, (E 10 = .int .i64 (i : Nat) ∧ E 9 = .int .i64 (a0.length : Nat)) ∧ ST true kK w W (hp w) ((t, Ol (jr y) 49) :: (u ++ b1)) ∧ E 0 = D ∧ E 3 = x ∧ E 4 = b8 ∧ E 5 = (.bool G) ∧ E 8 = D ∧ rc a3 (a0.drop i) G y = some a9) a0.length e3.len ⟨false, OV, _, ⟨rfl, rfl⟩, (d.js St), d1, g2, rfl, rfl, rfl, e9⟩ dc dc dc (fun _ _ _ h => by obtain ⟨_, _, _, aa, _⟩ := h; exact aa) ?_ ?_
   ·rintro a2 E W e8 ⟨G, y, b1, ⟨s, eN⟩, d, U, M, Y, Z, q, z⟩
    let g5 := ((jr y).toArray : Array Value)
    obtain ⟨c, j9, f9, f8, c4⟩ := lz e8
    let c3 := ((jr c).toArray : Array Value)
    rw [f9] at z
    refine bg (VQ (qU (enc := jr) (i := (a2 : Int)) (x0 := c) aJ aQ q s e3 (aX _) f8) (fun k9 f3 => V (jt rfl (kl d.has f3 bX aQ)) (VE (kx d dn (fun k3 K d => VO (jL (.agg (jr c).toArray) ((jr c).toArray) d rfl rfl aQ (nw c) nb rfl (fun k4 d => ln (jI ?_))))))))
    let j2 : Value := (.int .i64 (a2 : Int))
    let j1 : Value := (.int .i64 (a0.length : Int))
    let g6 : Value := (.pointer (some ⟨K, 0, none⟩))
    replace d := d.drew
    have b := d.has.js (Kb (Kb (Kr Sn)))
    refine kN b ki (XH 0 rfl b (fun _ n => jt rfl (jA n Mh (jr c) rfl bX aQ)) (bS z fun j6 f5 z => XE 1 rfl (Eg d call31 (Dp c _ _  f5) (fun k5 d => ?_))))
    have b := d.has.js (Kb (Kb (Kr Sn)))
    refine ⟨b, (X 2 rfl b (jx rfl) (PJ z (fun e0 E W => ∃ c7, ST true kK w W (hp w) ((K, Obj.cells c3 49 (0, 0)) :: ((t, Obj.cells g5 49 (0, 0)) :: (u ++ c7))) ∧ E 0 = D ∧ E 3 = x ∧ E 4 = b8 ∧ E 5 = (.bool G) ∧ E 7 = g6 ∧ E 8 = D ∧ E 9 = j1 ∧ E 10 = j2 ∧ E 31 = (.bool e0)) (bm 28 262143) 10 ?_ (fun e0 T c1 => ?_)))⟩
    ·rintro j8 E W ⟨c7, d, b2, b3, L, O, P, b4, b5, b6, g8⟩ f0
     have b := d.has.js (Kb (Kb (Kr Sn)))
     refine X 18 rfl b (jx g8) (PJ f0 (fun d8 E W => ∃ c8, ST true kK w W (hp w) ((K, Obj.cells c3 49 (0, 0)) :: ((t, Obj.cells g5 49 (0, 0)) :: (u ++ c8))) ∧ E 0 = D ∧ E 3 = x ∧ E 4 = b8 ∧ E 5 = (.bool G) ∧ E 7 = g6 ∧ E 8 = D ∧ E 9 = j1 ∧ E 10 = j2 ∧ E 41 = (.bool d8)) (bm 28 268435455) 0 ?_ (fun d8 Q b9 => ?_))
     ·rintro l4 E W ⟨c8, d, d3, d4, b7, g9, h0, d5, d6, d7, h1⟩ N
      refine kM kr (jH (CI N h1 (fun e7 N => ?_) (fun e7 N => ?_)))
      ·refine sg (V (jt h0 (jA d.has Mh (jr c) rfl bX aQ)) ?_)
       replace d := d.perm (Nb (Pb Pz) Nz)
       refine VO (jL (.agg (jr c).toArray) ((jr c).toArray) d b7 rfl aQ (nw c) nb rfl (fun k6 d => ln ?_))
       replace d := d.js (Kb (Db St))
       exact jC (Wa (jU (kz (jH ⟨d7, true, c, _, ⟨rfl, d6⟩, (d.js St), d3, d4, b7, rfl, d5, (by rw [c4]; exact N)⟩))))
      refine lJ (kz (jH ?_))
      replace d := d.js (Db St)
      exact ⟨d7, G, y, _, ⟨rfl, d6⟩, (d.js St), d3, d4, b7, g9, d5, (by rw [c4]; exact N)⟩
     refine bC Q (fun j Q => ?_) (fun j Q => ?_)
     ·refine Xg 19 rfl rfl (cB j) b (jx O) (Xg 20 rfl rfl (cB j) b (pa rfl) (Xg 21 rfl rfl (cB j) b (jx rfl) (PJ Q (fun d9 E W => ∃ c9, ST true kK w W (hp w) ((K, Obj.cells c3 49 (0, 0)) :: ((t, Obj.cells g5 49 (0, 0)) :: (u ++ c9))) ∧ E 0 = D ∧ E 3 = x ∧ E 4 = b8 ∧ E 5 = (.bool G) ∧ E 7 = g6 ∧ E 8 = D ∧ E 9 = j1 ∧ E 10 = j2 ∧ E 32 = (.bool j8) ∧ E 40 = (.bool d9)) (bm 28 134217727) 1 ?_ (fun d9 I c0 => ?_))))
      ·rintro l5 E W ⟨c9, d, h2, h3, h4, h5, h6, h7, h8, h9, i0, i1⟩ f1
       have b := d.has.js (Kb (Kb (Kr Sn)))
       refine X 27 rfl b (jO (i0.trans (cB j)) i1) ?_
       obtain rfl := sj f1
       refine oF kr (b9 _ _ ⟨_, (d.js St), h2, h3, h4, h5, h6, h7, h8, h9, rfl⟩)
      refine bC I (fun k I => ?_) (fun k I => ?_)
      ·refine Xn 22 rfl rfl (cB k) b (Xn 23 rfl rfl (cB k) b (Xn 24 rfl rfl (cB k) b (Xn 25 rfl rfl (cB k) b (Xg 26 rfl rfl (cB j) b (jO (cB k) rfl) ?_))))
       obtain rfl := sj I
       refine oF kr (c0 _ _ ⟨_, (d.js St), b2, b3, L, O, P, b4, b5, b6, rfl, rfl⟩)
      refine uW 22 rfl rfl (cB k) b (fun _ n => jt P (jA n Mh (jr c) rfl bX aQ)) (uW 23 rfl rfl (cB k) b (fun _ n => jt L (jA n (Mt Mh) (jr y) rfl bX aQ)) (bS I fun l1 f6 I => HS 24 rfl rfl (cB k) (Eg d call32 (A8 c y _ _  f6) (fun k7 d => ?_))))
      have b := d.has.js (Kb (Kb (Kr Sn)))
      refine ⟨b, (Xg 25 rfl rfl (cB k) b (ko rfl rfl rfl) (Xg 26 rfl rfl (cB j) b (jQ (cB k) rfl) ?_))⟩
      obtain rfl := sj I
      refine oF kr (c0 _ _ ⟨_, (d.js St), b2, b3, L, O, P, b4, b5, b6, rfl, rfl⟩)
     refine Xn 19 rfl rfl (cB j) b (Xn 20 rfl rfl (cB j) b (Xn 21 rfl rfl (cB j) b (Xu 22 rfl rfl rfl b (Xu 23 rfl rfl rfl b (Xu 24 rfl rfl rfl b (Xu 25 rfl rfl rfl b (Xn 26 rfl rfl (cB j) b (X 27 rfl b (jQ (cB j) rfl) ?_))))))))
     obtain rfl := sj Q
     refine oF kr (b9 _ _ ⟨_, (d.js St), b2, b3, L, O, P, b4, b5, b6, rfl⟩)
    refine bC T (fun g T => ?_) (fun g T => ?_)
    ·refine Xg 3 rfl rfl (cB g) b (jx M) (Xg 4 rfl rfl (cB g) b (oe aJ rfl J) (Xg 5 rfl rfl (cB g) b (ko rfl rfl rfl) (Xg 6 rfl rfl (cB g) b (jx rfl) (PJ T (fun e1 E W => ∃ d0, ST true kK w W (hp w) ((K, Obj.cells c3 49 (0, 0)) :: ((t, Obj.cells g5 49 (0, 0)) :: (u ++ d0))) ∧ E 0 = D ∧ E 3 = x ∧ E 4 = b8 ∧ E 5 = (.bool G) ∧ E 7 = g6 ∧ E 8 = D ∧ E 9 = j1 ∧ E 10 = j2 ∧ E 16 = (.bool j6) ∧ E 30 = (.bool e1)) (bm 28 131071) 11 ?_ (fun e1 B c2 => ?_)))))
     ·rintro l6 E W ⟨d0, d, i2, i3, i4, i5, i6, i7, i8, i9, j0, j3⟩ f2
      have b := d.has.js (Kb (Kb (Kr Sn)))
      refine X 17 rfl b (jO (j0.trans (cB g)) j3) ?_
      obtain rfl := sj f2
      refine oF kr (c1 _ _ ⟨_, (d.js St), i2, i3, i4, i5, i6, i7, i8, i9, rfl⟩)
     refine bC B (fun a B => ?_) (fun a B => ?_)
     ·refine Xn 7 rfl rfl (cB a) b (Xn 8 rfl rfl (cB a) b (Xn 9 rfl rfl (cB a) b (Xn 10 rfl rfl (cB a) b (Xn 11 rfl rfl (cB a) b (Xn 12 rfl rfl (cB a) b (Xn 13 rfl rfl (cB a) b (Xn 14 rfl rfl (cB a) b (Xn 15 rfl rfl (cB a) b (Xg 16 rfl rfl (cB g) b (jO (cB a) rfl) ?_)))))))))
      obtain rfl := sj B
      refine oF kr (c2 _ _ ⟨_, (d.js St), U, M, Y, Z, rfl, q, eN, s, rfl, rfl⟩)
     refine Xg 7 rfl rfl (cB a) b (jx M) (Xg 8 rfl rfl (cB a) b (jx M) (Xg 9 rfl rfl (cB a) b (oe aJ rfl J) (Xg 10 rfl rfl (cB a) b (ko rfl rfl rfl) (bS B fun e2 b0 B => ua 11 rfl kr (.inr ⟨6, false, 20, rfl, rfl, by decide, (cB a)⟩) rfl dc (fun _ _ h => h) b (rr (i := (wi0 .i64 ((a3.length : Int) - 1))) (x0 := e2) aJ aQ rfl rfl J (kh b0) (jY b0)) (fun l0 f4 => uW 12 rfl rfl (cB a) b (fun _ n => jt rfl (vS n (fun p hq => (Mt (Mt (Ml hq)))) J kj f4 (jY b0) bX aQ)) (uW 13 rfl rfl (cB a) b (fun _ n => jt rfl (jA n Mh (jr c) rfl bX aQ)) (bS B fun l2 f7 B => HS 14 rfl rfl (cB a) (Eg d call32 (A8 e2 c _ _  f7) (fun k8 d => ?_)))))))))
     have b := d.has.js (Kb (Kb (Kr Sn)))
     refine ⟨b, (Xg 15 rfl rfl (cB a) b (ko rfl rfl rfl) (Xg 16 rfl rfl (cB g) b (jQ (cB a) rfl) ?_))⟩
     obtain rfl := sj B
     refine oF kr (c2 _ _ ⟨_, (d.js St), U, M, Y, Z, rfl, q, eN, s, rfl, rfl⟩)
    refine Xn 3 rfl rfl (cB g) b (Xn 4 rfl rfl (cB g) b (Xn 5 rfl rfl (cB g) b (Xn 6 rfl rfl (cB g) b (Xu 7 rfl rfl rfl b (Xu 8 rfl rfl rfl b (Xu 9 rfl rfl rfl b (Xu 10 rfl rfl rfl b (Xu 11 rfl rfl rfl b (Xu 12 rfl rfl rfl b (Xu 13 rfl rfl rfl b (Xu 14 rfl rfl rfl b (Xu 15 rfl rfl rfl b (Xn 16 rfl rfl (cB g) b (X 17 rfl b (jQ (cB g) rfl) ?_))))))))))))))
    obtain rfl := sj T
    refine oF kr (c1 _ _ ⟨_, (d.js St), U, M, Y, Z, rfl, q, eN, s, rfl⟩)
   rintro E W ⟨G, y, b1, ⟨s, eN⟩, d, U, M, Y, Z, q, z⟩
   rw [bE] at z
   refine jH ?_
   obtain rfl := sj z
   exact ⟨_, (d.js St), U, M, Y, Z⟩
  rintro ⟨l3, a4⟩ E W ⟨c6, d, g3, d2, g4, g7⟩ H
  refine jI (sg (Wh g7 (V (pa rfl) (ln (CI H rfl (fun e5 H => ?_) (fun e5 H => ?_))))))
  ·refine sg (Wh d2 (Wa (ln ?_)))
   replace d := d.js (Db St)
   refine kv (kI (nt (kI (nt (kI ?_)))))
   obtain rfl := sj H
   exact li (v := x) rfl rfl ⟨_, u, rfl, d.qz (fun p hq => (Ml hq)) J.nd, J⟩
  refine kn (jC (Wh d2 (V (jt g4 (jA d.has Mh (jr a4) rfl bX aQ)) (VE (kp (cs := (jr a4).toArray) d (mD rfl) (mN aJ aQ dn) (fun k1 g1 d => ?_))))))
  replace d := d.perm (Nr (Qb (Qb Qz)) Nz)
  refine bS H fun j4 e6 H => VE (oC (enc := jr) (v := x) (vs := (.slice (some ⟨g1, 0, none⟩) 1 1)) (R := u) d kj dc nw aJ lT.1 lT.2.1 rfl lT.2.2.1 lT.2.2.2 rfl rfl J (Sl.lit (enc := jr) (l := [a4]) kj rfl nb rfl (d.at_ (Ma Mh))) e6 (fun k2 j7 g0 d e4 => Wa (jU (kz (jH ?_)))))
  replace d := d.js (Kr (Db (Db St)))
  exact ⟨j5, bn _, j7, j4, g0, _, (d.js St), g3, rfl, e4, H⟩
theorem Ec (t : Value) (y : List jm) (u : Value) (K : List jm) (r : Bool) (w : World) (c : Sl (Pl jr) 9 (hp w) t y) (z : Sl (Pl jr) 9 (hp w) u K) (hm : pF y K = some r) :
  ke true pg0 10 [t, u] w (.bool r) := by
 refine cG 26 func10 rfl (fun d => sg (Wa (lS (Wm (V (lU aJ rfl c) (Wm (V (lU aJ rfl z) (Wi rfl (jU ?_)))))))))
 refine jH (CI hm rfl (fun U hm => ?_) (fun U hm => ?_))
 ·refine sg (Wa (lt (kI ?_)))
  obtain rfl := sj hm
  exact rP d
 refine kS (Wm (V (lU aJ rfl c) (Wm (ln (lQ (fun i E W => ∃ g, (E 13 = .int .i64 (i : Nat) ∧ E 12 = .int .i64 (y.length : Nat)) ∧ ST true kK w W (hp w) g ∧ E 0 = t ∧ E 1 = u ∧ pv K (y.drop i) i = some r) y.length c.len ⟨_, ⟨rfl, rfl⟩, (d.js St), rfl, rfl, hm⟩ dc dc dc (fun _ _ _ h => by obtain ⟨_, m, _⟩ := h; exact m) ?_ ?_)))))
 ·rintro I E W M ⟨g, ⟨l, p⟩, d, j, k, a⟩
  obtain ⟨J, a3, Q, N, T⟩ := lz M
  rw [Q] at a
  refine bg (Wh l (Wa (ln (jI ?_))))
  replace d := d.drew
  have b := d.has.js Sn
  refine kN b ki (X 0 rfl b (jx j) (X 1 rfl b (jx rfl) (XQ 2 rfl b (qU (enc := jr) (i := (I : Int)) (x0 := J) aJ aQ rfl rfl c (aX _) N) (fun Y G => XH 3 rfl b (fun _ n => jt rfl (kl n G bX aQ)) (X 4 rfl b (jx k) (X 5 rfl b (jx rfl) (bS a fun B x a => XQ 6 rfl b (qU (enc := jr) (i := (I : Int)) (x0 := B) aJ aQ rfl rfl z (kh x) (jY x)) (fun Z H => XH 7 rfl b (fun _ n => jt rfl (kl n H bX aQ)) (X 8 rfl b (O9 rfl rfl (pu fW) (Kf (yN _ J B))) (kM kr (jH (CI a rfl (fun D a => ?_) (fun D a => ?_)))))))))))))
  ·refine sg (Wa (lt (nt (kI (nt (kI ?_))))))
   obtain rfl := sj a
   exact rP d
  exact lJ (kz (jH ⟨l, _, ⟨rfl, p⟩, (d.js St), j, k, (by rw [T]; exact a)⟩))
 rintro E W ⟨g, ⟨l, p⟩, d, j, k, a⟩
 rw [bE] at a
 exact jH (sg (Wa (lt (rQ a d))))
theorem Ik (k : jX) (j B : Value) (t : jX) (a c : Value) (r : ((List jm) × (List (jl × (List (ByteArray × Bool)))) × (List jm) × (List (jl × (List jm))) × (List (ByteArray × (List jm))) × (List jE) × Int × ByteArray)) (w : World) (g : Sl jW 15 (hp w) j k.jF) (y : Sl kQ 8 (hp w) B k.jS) (i : Sl jW 15 (hp w) a t.jF) (z : Sl kQ 8 (hp w) c t.jS) (hm : zr k t = some r) :
  kA false pg0 33 [(.agg #[(.string k.Name), j, B]), (.agg #[(.string t.Name), a, c])] w [] (fun v L1 W' => ∃ E S2 m l L S7 O M a2 N a3 Q a4 T Y, v = (.tuple #[E, (.func (.func 59) #[] #[(.pointer (some ⟨m, 0, none⟩)), (.pointer (some ⟨Y, 0, none⟩))])]) ∧ L1 = ((m, Ob #[(.pointer (some ⟨l, 0, none⟩))] 106) :: ((l, Ob #[L, O, a2, a3, a4, (.int .i64 (r.2.2.2.2.2.2.1))] 135) :: ((Y, Ob #[(.string (r.2.2.2.2.2.2.2)), a, c] 25) :: (S2 ++ (S7 ++ (M ++ (N ++ (Q ++ (T ++ []))))))))) ∧ jM 49 jr 9 E r.1 S2 ∧ lm (fun (x : jl) => (.agg (ju x).toArray)) (kZ Value.string (fun (x : Bool) => (Value.bool x))) L r.2.1 S7 ∧ jM 49 jr 9 O r.2.2.1 M ∧ lm (fun (x : jl) => (.agg (ju x).toArray)) (jM 49 jr 9) a2 r.2.2.2.1 N ∧ lm Value.string (jM 49 jr 9) a3 r.2.2.2.2.1 Q ∧ pq 111 lh 3 a4 r.2.2.2.2.2.1 T) := by
 refine yc 21 func33 rfl (fun d => sg ?_)
 obtain ⟨A1, c2, rfl⟩ := g.form
 obtain ⟨A3, n, rfl⟩ := y.form
 refine VE (kq d rfl (fun W6 l d => ?_))
 obtain ⟨A7, p, rfl⟩ := i.form
 obtain ⟨A9, I, rfl⟩ := z.form
 refine VE (kq d rfl (fun f4 U d => Wa (Wa (lr (VA d (Mt Mh) (C6 k.Name A1 k.jF.length c2 A3 k.jS.length n) fa dZ (VA d Mh (C6 t.Name A7 t.jF.length p A9 t.jS.length I) fa dZ (bS hm fun d7 W hm => ?_)))))))
 refine VE (yb d (bR _) call12 (fun _ _ _ _ => (EY k (.slice A1 k.jF.length c2) (.slice A3 k.jS.length n) t (.slice A7 t.jF.length p) (.slice A9 t.jS.length I) _ _ (g.mono kc.mono d.jy) (y.mono mn.mono d.jy) (i.mono kc.mono d.jy) (z.mono mn.mono d.jy) W)) (fun f5 g0 g3 f1 d e6 q h P => ?_) (L0 := []))
 obtain ⟨g2, f3, K, c9, D, rfl, f0, J⟩ := P
 replace D := D.symm; subst D
 replace d := d.perm (Tr (Tr Tn))
 refine Wm (Wx rfl (Wx rfl (Wx rfl (Wa (Wa (Wa (ln ?_)))))))
 replace d := d.js (Dr (Kr (Kb (Db St))))
 refine sg (Wm (bS hm fun f9 b9 hm => ?_))
 refine VE (yb d (bR _) call58 (fun _ _ _ _ => (CV K d7.2.1 _ _ (J.sl kj (fun b o hq => d.at_ (Ml hq))) b9)) (fun f6 g1 g4 f2 d e7 s h R => ?_) (L0 := []))
 obtain ⟨H, d9, d0, e0, d1, e1, d2, e2, d3, e3, d4, G, rfl, c0, c1, c3, c5, c6⟩ := R
 replace G := G.symm; subst G
 replace d := d.perm (Tb (Tr (Tr (Tr (Tr (Tr Tn))))))
 refine VE (kx d zeroValue106 (fun f7 Z d => VO (jL (.pointer (some ⟨H, 0, none⟩)) (#[(.pointer (some ⟨H, 0, none⟩))]) d rfl rfl sizeOf106 oc nb rfl (fun f8 d => lr (Wm (V (pG (by exact uk rfl rfl) rfl) (Wa (Wa (lt ?_)))))))))
 obtain rfl := sj hm
 exact Aq (v := K) (u := (.func (.func 59) #[] #[(.pointer (some ⟨Z, 0, none⟩)), (.pointer (some ⟨U, 0, none⟩))])) rfl rfl rfl ⟨_, _, rfl, (d.EV (Kb (Kb (Sb (Pr (Pr (Pr (Pr (Pr (Pr Pz)))))) (Sr (Qr (Qr (Qr (Qr (Qr Qz))))) (Kr (Kr (Kr (Kr (Kr Sn)))))))))), K, c9, Z, H, d9, d0, e0, d1, e1, d2, e2, d3, e3, d4, U, rfl, rfl, J, c0, c1, c3, c5, c6⟩
theorem Ff (Z : jl) (d I : Nat) (u : Value) (G : List (jl × (List (ByteArray × Bool)))) (a : Value) (k : List jm) (j : Value) (B : List (jl × (List jm))) (c : Value) (t : List (ByteArray × (List jm))) (i : Value) (z : List jE) (Q : Int) (a2 : Nat) (g : ByteArray) (D : Value) (J : List kd) (H : Value) (N : List nf) (r : Bool) (w : World) (Y : ou (fun (x : jl) => (.agg (ju x).toArray)) (kZ Value.string (fun (x : Bool) => (Value.bool x))) (hp w) u G) (K : Sl (Pl jr) 9 (hp w) a k) (U : ou (fun (x : jl) => (.agg (ju x).toArray)) (jM 49 jr 9) (hp w) j B) (M : ou Value.string (jM 49 jr 9) (hp w) c t) (T : Sl (Pl lh) 3 (hp w) i z) (a3 : At (hp w) (.pointer (some ⟨I, 0, none⟩)) [u, a, j, c, i, (.int .i64 Q)]) (a4 : At (hp w) (.pointer (some ⟨d, 0, none⟩)) [(.pointer (some ⟨I, 0, none⟩))]) (l : Sl jW 15 (hp w) D J) (m : Sl kQ 8 (hp w) H N) (a5 : At (hp w) (.pointer (some ⟨a2, 0, none⟩)) [(.string g), D, H]) (hm : uQ Z G k B t z Q g J N = some r) :
  ke true pg0 59 [(.agg (ju Z).toArray), (.pointer (some ⟨d, 0, none⟩)), (.pointer (some ⟨a2, 0, none⟩))] w (.bool r) := by
 refine cG 10 func59 rfl (fun b => sg (VE (kq b rfl (fun W2 n b => Wa (lr (V (jt rfl (oO b.has (y := (.pointer (some ⟨I, 0, none⟩))) a4 isAgg106)) (VA b Mh (ju Z) bQ aT (VQ (qH [(.string g)] Ax rfl a5 rfl) (fun p h => V (jt rfl (oO b.has (y := (.string g)) h bU)) (bS hm fun q a9 hm => VE (Eg b call60 (xq I u G a k j B c t i z Q Z g _ _ (Y.mono b.jy) (K.mono (Pl.mono _) b.jy) (U.mono b.jy) (M.mono b.jy) (T.mono (Pl.mono _) b.jy) (a3.mono b.jy) a9) (fun W8 b => ?_))))))))))))
 refine Wa (ln ?_)
 exact kv (rQ hm b)
theorem Gk (y : jX) (t D : Value) (c : jX) (u G : Value) (i : Formula) (H : Value) (r : Bool) (w : World) (k : Sl jW 15 (hp w) t y.jF) (z : Sl kQ 8 (hp w) D y.jS) (g : Sl jW 15 (hp w) u c.jF) (j : Sl kQ 8 (hp w) G c.jS) (B : Sl jo 5 (hp w) H i.Kids) (hm : vC y c i = some r) :
  ke false pg0 16 [(.agg #[(.string y.Name), t, D]), (.agg #[(.string c.Name), u, G]), (.agg #[(.int .i64 i.Op), (.int .i64 i.K), (.string i.jl.jq), (.string i.jl.jv), H])] w (.bool r) := by
 refine cG 18 func16 rfl (fun d => sg ?_)
 obtain ⟨A1, c2, rfl⟩ := k.form
 obtain ⟨A3, n, rfl⟩ := z.form
 refine VE (kq d rfl (fun W6 b5 d => ?_))
 obtain ⟨U, Z, rfl⟩ := g.form
 obtain ⟨Y, K, rfl⟩ := j.form
 refine VE (kq d rfl (fun d4 d8 d => ?_))
 obtain ⟨M, T, rfl⟩ := B.form
 refine VE (kq d rfl (fun d5 d9 d => Wa (lr (VA d (Mt (Mt Mh)) (C6 y.Name A1 y.jF.length c2 A3 y.jS.length n) fa dZ (VA d (Mt Mh) (C6 c.Name U c.jF.length Z Y c.jS.length K) fa dZ (bS hm fun a s hm => ?_))))))
 refine VE (yb d (bR _) call33 (fun _ _ _ _ => (Ik y (.slice A1 y.jF.length c2) (.slice A3 y.jS.length n) c (.slice U c.jF.length Z) (.slice Y c.jS.length K) _ _ (k.mono kc.mono d.jy) (z.mono mn.mono d.jy) (g.mono kc.mono d.jy) (j.mono mn.mono d.jy) s)) (fun d6 e1 e3 c6 d I p m q => ?_) (L0 := []))
 obtain ⟨e2, c7, N, R, b7, c9, b9, d0, c0, d1, c1, d2, c3, d3, Q, J, rfl, c5, v, E, L, O, P⟩ := q
 replace J := J.symm; subst J
 replace d := d.perm (Tb (Tb (Tb (Tr (Tr (Tr (Tr (Tr (Tr Tn)))))))))
 refine Wm (Wx rfl (Wx rfl (Wa (Wa (ln ?_)))))
 replace d := d.js (Kb (Kb (Kb (Dr (Kr (Kr (Kr (Kr (Kr (Kb (Db (Db St))))))))))))
 refine sg (VA d (Mt (Mt (Mt (Ma (Ma (Ma (Ma (Ma Mh)))))))) (C1 i.Op i.K i.jl.jq i.jl.jv M i.Kids.length T) bB aC (Wm (bS hm fun e0 a9 hm => VE (Eg d call34 (yy i (.slice M i.Kids.length T) (.func (.func 59) #[] #[(.pointer (some ⟨N, 0, none⟩)), (.pointer (some ⟨Q, 0, none⟩))]) (fun (x : jl) => uQ x a.2.1 a.2.2.1 a.2.2.2.1 a.2.2.2.2.1 a.2.2.2.2.2.1 a.2.2.2.2.2.2.1 a.2.2.2.2.2.2.2 c.jF c.jS) _ _ (B.mono jD.mono (I.trans d.jy)) ⟨59, #[], #[(.pointer (some ⟨N, 0, none⟩)), (.pointer (some ⟨Q, 0, none⟩))], rfl, call59, fun W x r l hm => (Ff x N R b7 a.2.1 b9 a.2.2.1 c0 a.2.2.2.1 c1 a.2.2.2.2.1 c3 a.2.2.2.2.2.1 a.2.2.2.2.2.2.1 Q a.2.2.2.2.2.2.2 (.slice U c.jF.length Z) c.jF (.slice Y c.jS.length K) c.jS r W (v.at (fun b o h => l _ _ ((fun b o h => d.at_ (Mt (Mt (Mt (Ml h))))) b o h))) (E.sl kj (fun b o h => l _ _ ((fun b o h => d.at_ (Mt (Mt (Mt (Ma (Ml h)))))) b o h))) (L.at (fun b o h => l _ _ ((fun b o h => d.at_ (Mt (Mt (Mt (Ma (Ma (Ml h))))))) b o h))) (O.at (fun b o h => l _ _ ((fun b o h => d.at_ (Mt (Mt (Mt (Ma (Ma (Ma (Ml h)))))))) b o h))) ((P.BV wo).mono (Pl.mono _) (lN (fun b o h => l _ _ ((fun b o h => d.at_ (Mt (Mt (Mt (Ma (Ma (Ma (Ma (Ml h))))))))) b o h)))) (At.of (l _ _ (d.at_ (Mt Mh))) _ rfl) (At.of (l _ _ (d.at_ Mh)) _ rfl) (g.mono kc.mono ((I.trans d.jy).trans l)) (j.mono mn.mono ((I.trans d.jy).trans l)) (At.of (l _ _ (d.at_ (Mt (Mt Mh)))) _ rfl) hm).lR⟩ a9) (fun d7 d => Wa (ln ?_))))))
 exact kv (rQ hm d)
set_option maxHeartbeats 4000000 in
theorem Ei (a : mM) (U Z K T M c1 : Value) (r : Bool) (w : World) (j : Sl jW 15 (hp w) U a.jq.jF) (k : Sl kQ 8 (hp w) Z a.jq.jS) (c : Sl jW 15 (hp w) K a.Client.jF) (g : Sl kQ 8 (hp w) T a.Client.jS) (u : Sl jo 5 (hp w) M a.Formula.Kids) (J : Sl qw 2 (hp w) c1 a.Keys) (hm : tK a = some r) :
  ke false pg0 4 [(.agg #[(.string a.jq.Name), U, Z, (.string a.Client.Name), K, T, (.int .i64 a.Formula.Op), (.int .i64 a.Formula.K), (.string a.Formula.jl.jq), (.string a.Formula.jl.jv), M, (.int .i64 a.vo), (.int .i64 a.nG.og), (.int .i64 a.nG.nB), (.int .i64 a.pC), (.int .i64 a.th), (.int .i64 a.qN), c1])] w (.bool r) := by
 refine cG 77 func4 rfl (fun d => sg ?_)
 obtain ⟨A1, c2, rfl⟩ := j.form
 let P : Value := (.slice A1 a.jq.jF.length c2)
 obtain ⟨A3, c4, rfl⟩ := k.form
 let b6 := (C6 a.jq.Name A1 a.jq.jF.length c2 A3 a.jq.jS.length c4)
 let b0 : Value := (.slice A3 a.jq.jS.length c4)
 obtain ⟨A5, c6, rfl⟩ := c.form
 let O : Value := (.slice A5 a.Client.jF.length c6)
 obtain ⟨A7, c8, rfl⟩ := g.form
 let b4 := (C6 a.Client.Name A5 a.Client.jF.length c6 A7 a.Client.jS.length c8)
 let a9 : Value := (.slice A7 a.Client.jS.length c8)
 obtain ⟨A9, Y, rfl⟩ := u.form
 let b1 : Value := (.slice A9 a.Formula.Kids.length Y)
 obtain ⟨a2, a3, rfl⟩ := J.form
 let b3 : Value := (.slice a2 a.Keys.length a3)
 let a0 := (C2 a.jq.Name A1 a.jq.jF.length c2 A3 a.jq.jS.length c4 a.Client.Name A5 a.Client.jF.length c6 A7 a.Client.jS.length c8 a.Formula.Op a.Formula.K a.Formula.jl.jq a.Formula.jl.jv A9 a.Formula.Kids.length Y a.vo a.nG.og a.nG.nB a.pC a.th a.qN a2 a.Keys.length a3)
 refine VE (kq d rfl (fun o8 c0 d => Wa (lS (bS hm fun p8 l2 hm => VE (Eg d call5 (H8  _ _  l2) (fun o9 d => V (pa rfl) (ln (CI hm rfl (fun k8 hm => ?_) (fun k8 hm => ?_)))))))))
 ·refine sg (Wa (ln ?_))
  replace d := d.js (Db St)
  refine kv (kI ?_)
  obtain rfl := sj hm
  exact rP d
 refine kS (VA d Mh a0 fI eO (bS hm fun p9 l3 hm => VE (Eg d call6 (Ij a P b0 O a9 b1 b3 _ _ (j.mono kc.mono d.jy) (k.mono mn.mono d.jy) (c.mono kc.mono d.jy) (g.mono mn.mono d.jy) (u.mono jD.mono d.jy) (J.mono yf.mono d.jy) l3) (fun p0 d => Wi rfl (ln (CI hm rfl (fun k9 hm => ?_) (fun k9 hm => ?_)))))))
 ·refine sg (Wa (ln ?_))
  replace d := d.js (Db St)
  refine kv (kI ?_)
  obtain rfl := sj hm
  exact rP d
 refine kg (Wf DX (VA d Mh b6 fa dZ (Wf Ap (VA d Mh b4 fa dZ (bS hm fun j5 l4 hm => ?_)))))
 refine VE (yb d (bR _) call12 (fun _ _ _ _ => (EY a.jq P b0 a.Client O a9 _ _ (j.mono kc.mono d.jy) (k.mono mn.mono d.jy) (c.mono kc.mono d.jy) (g.mono mn.mono d.jy) l4)) (fun p1 q0 q5 o4 d t au l k5 => ?_) (L0 := []))
 obtain ⟨g9, i2, d9, e6, d5, rfl, f8, f9⟩ := k5
 replace d5 := d5.symm; subst d5
 replace d := d.perm (Tr (Tr Tn))
 refine Wm (Wx rfl (Wx rfl (Wx rfl (Wa (Wa (Wa (lr (VE (kx d jh (fun p2 a4 d => ln (jI ?_)))))))))))
 refine jC (VE (kx d iV (fun p3 c7 d => VO (jL (.int .i64 0) (#[(.int .i64 0)]) d rfl rfl dR (wc _ 0) nb rfl (fun p4 d => lr (VA d (Mt (Mt (Ma (Ma Mh)))) a0 fI eO (bS hm fun n l5 hm => ?_)))))))
 refine VE (yb d (bR _) call8 (fun _ _ _ _ => kA.lR (vx a P b0 O a9 b1 b3 _ _ (j.mono kc.mono (t.trans d.jy)) (k.mono mn.mono (t.trans d.jy)) (c.mono kc.mono (t.trans d.jy)) (g.mono mn.mono (t.trans d.jy)) (u.mono jD.mono (t.trans d.jy)) (J.mono yf.mono (t.trans d.jy)) l5)) (fun p5 q1 q6 o5 d z av l k6 => ?_) (L0 := []))
 obtain ⟨i3, d6, rfl⟩ := k6
 replace d6 := d6.symm; subst d6
 replace d := d.perm (Tb Tn)
 refine V (pG (by exact uk rfl rfl) rfl) (bS hm fun j6 l6 hm => ?_)
 refine VE (Ez (args := [(.func (.func 13) #[] #[(.pointer (some ⟨a4, 0, none⟩)), (.pointer (some ⟨c7, 0, none⟩))])]) (caps := #[(.pointer (some ⟨i3, 0, none⟩))]) _ _ d (Cr (Cb (Pb (Pb Pz)) (Cb (Pb Pz) Cn)) Cn) rfl call24 (by exact tm rfl) (fun hH hN h ak => (sn (fun (s : ((List jm) × (List jm) × Int)) (R : LO) => ∃ ae ab ag ad, R = ((a4, Ob #[ae, ag] 43) :: ((c7, Ob #[(.int .i64 (s.2.2))] 3) :: (ab ++ (ad ++ [])))) ∧ jM 49 jr 9 ae s.1 ab ∧ jM 49 jr 9 ag s.2.1 ad) (.func (.func 13) #[] #[(.pointer (some ⟨a4, 0, none⟩)), (.pointer (some ⟨c7, 0, none⟩))]) (fun (s : ((List jm) × (List jm) × Int)) (x : (Int × kf)) => nX x.1 x.2 s.1 s.2.1 s.2.2) (([]), ([]), 0) ((a4, Ob #[(.slice none 0 0), (.slice none 0 0)] 43) :: ((c7, Ob #[(.int .i64 0)] 3) :: [])) i3 n.1 P a.jq.jF b0 a.jq.jS n.2.1 O a.Client.jF a9 a.Client.jS n.2.2.1 n.2.2.2.1 n.2.2.2.2.1 b1 a.Formula.Kids n.2.2.2.2.2.1 n.2.2.2.2.2.2.1 n.2.2.2.2.2.2.2.1 n.2.2.2.2.2.2.2.2.1 n.2.2.2.2.2.2.2.2.2 b3 a.Keys _ _ ⟨hH, hN, jR.refl _⟩ (zH.fn call13 (fun W s x vs r R hs hI hH hN ah hm => by
   obtain ⟨_, rfl, m8⟩ := ah
   obtain ⟨t0, t1, rfl, j0, j1⟩ := m8.out
   obtain ⟨ar, aq, af, aa, rfl, L, p⟩ := hI
   refine kA.mono (kA.lR <| AP x.1 x.2 t0 t1 a4 ar s.1 aq af s.2.1 aa c7 s.2.2 r W ⟨hH, hN, jR.refl _⟩ j0 j1 L p hm) ?_
   rintro v L1 W' ⟨ao, al, ap, an, rfl, rfl, k0, k1⟩
   exact ⟨rfl, ao, al, ap, an, rfl, k0, k1⟩)) ⟨(.slice none 0 0), [], (.slice none 0 0), [], rfl, (jM.nil _ _ _), (jM.nil _ _ _)⟩ (j.mono kc.mono ((t.trans z).trans h)) (k.mono mn.mono ((t.trans z).trans h)) (c.mono kc.mono ((t.trans z).trans h)) (g.mono mn.mono ((t.trans z).trans h)) (u.mono jD.mono ((t.trans z).trans h)) (J.mono yf.mono ((t.trans z).trans h)) (At.of (ak _ _ Mh) _ rfl) l6)) (fun p6 q2 e2 o6 d H aw l k7 => ?_))
 obtain ⟨o7, d7, rfl, l8⟩ := k7
 replace d7 := d7.symm; subst d7
 obtain ⟨e0, e7, e1, e8, rfl, g0, g1⟩ := l8
 let g5 := (#[e0, e1] : Array Value)
 simp only [aG, bA, aP] at d
 refine ln ?_
 replace d := d.js (Kb (Kb (Kr (Kr (Db St)))))
 refine sg (VA d (Mt (Mt (Ma (Ma (Ma (Ma Mh)))))) a0 fI eO (bS hm fun d8 l7 hm => VE (Eg d call14 (yL a P b0 O a9 b1 b3 _ _ (j.mono kc.mono (((t.trans z).trans H).trans d.jy)) (k.mono mn.mono (((t.trans z).trans H).trans d.jy)) (c.mono kc.mono (((t.trans z).trans H).trans d.jy)) (g.mono mn.mono (((t.trans z).trans H).trans d.jy)) (u.mono jD.mono (((t.trans z).trans H).trans d.jy)) (J.mono yf.mono (((t.trans z).trans H).trans d.jy)) l7) (fun p7 d => Wm (Wx rfl (Wx rfl (Wa (Wa (lr (VB d (Mt Mh) rfl rfl cJ ?_))))))))))
 let b2 : Value := (.pointer (some ⟨c0, 0, none⟩))
 let b8 : Value := (.pointer (some ⟨a4, 0, none⟩))
 refine Wm (Wi rfl (Wm (LJ hm (fun g8 E W => ∃ i0, ST false kK w W e2 ((a4, Obj.cells g5 43 (0, 0)) :: ((c0, Ol a0 34) :: (e7 ++ (e8 ++ (i2 ++ (e6 ++ i0)))))) ∧ E 1 = b2 ∧ E 2 = (.bool false) ∧ E 3 = g9 ∧ E 4 = d9 ∧ E 6 = b8 ∧ E 9 = (.bool d8.2) ∧ E 43 = (.bool g8)) 7 ?_ (fun g8 b9 d3 => ?_))))
 ·rintro q3 E W ⟨i0, d, i4, i5, i6, f3, f4, i7, m5⟩ l0
  refine Wh m5 (LJ l0 (fun g7 E W => ∃ i1, ST false kK w W e2 ((a4, Obj.cells g5 43 (0, 0)) :: ((c0, Ol a0 34) :: (e7 ++ (e8 ++ (i2 ++ (e6 ++ i1)))))) ∧ E 1 = b2 ∧ E 2 = (.bool false) ∧ E 3 = g9 ∧ E 4 = d9 ∧ E 6 = b8 ∧ E 9 = (.bool d8.2) ∧ E 51 = (.bool g7)) 7 ?_ (fun g7 b7 d2 => ?_))
  ·rintro q4 E W ⟨i1, d, i8, i9, m6, j3, f5, j4, m7⟩ l1
   refine Wh m7 (LJ l1 (fun g4 E W => ∃ c3 e3, jR e2 c3 ∧ ST false kK w W c3 ((a4, Obj.cells g5 43 (0, 0)) :: ((c0, Ol a0 34) :: (e7 ++ (e8 ++ (e6 ++ e3))))) ∧ E 1 = b2 ∧ E 2 = (.bool false) ∧ E 4 = d9 ∧ E 6 = b8 ∧ E 9 = (.bool d8.2) ∧ E 58 = (.bool g4)) 6 ?_ (fun g4 Q d1 => ?_))
   ·rintro o1 E W ⟨c3, e3, a5, d, e9, f0, j7, j8, f1, j9⟩ h2
    refine Wh j9 (LJ h2 (fun g3 E W => ∃ c5 e4, jR c3 c5 ∧ ST false kK w W c5 ((c0, Ol a0 34) :: e4) ∧ E 1 = b2 ∧ E 2 = (.bool false) ∧ E 9 = (.bool d8.2) ∧ E 65 = (.bool g3)) 6 ?_ (fun g3 N d0 => ?_))
    ·rintro o2 E W ⟨c5, e4, a6, d, d4, f2, k2, k3⟩ h3
     refine Wh k3 (LJ h3 (fun g2 E W => ∃ e5, ST false kK w W c5 e5 ∧ E 2 = (.bool false) ∧ E 76 = (.bool g2)) 10 ?_ (fun g2 q c9 => ?_))
     ·rintro o3 E W ⟨e5, d, n7, k4⟩ h4
      exact Wg k4 (lt (rQ h4 d))
     refine bC q (fun y q => ?_) (fun y q => ?_)
     ·refine ug y (jx k2) (ug y (jB DX d4) (ug y (jt rfl (jA d.has Mh b6 rfl fa dZ)) (ug y (jB Ap d4) (ug y (jt rfl (jA d.has Mh b4 rfl fa dZ)) (ug y (jB Gm d4) (ug y (jt rfl (jA d.has Mh (C1 a.Formula.Op a.Formula.K a.Formula.jl.jq a.Formula.jl.jv A9 a.Formula.Kids.length Y) rfl bB aC)) (bS q fun n8 h5 q => ue y (Eg d call16 (Gk a.jq P b0 a.Client O a9 a.Formula b1 _ _ (j.mono kc.mono (((((t.trans z).trans H).trans a5).trans a6).trans d.jy)) (k.mono mn.mono (((((t.trans z).trans H).trans a5).trans a6).trans d.jy)) (c.mono kc.mono (((((t.trans z).trans H).trans a5).trans a6).trans d.jy)) (g.mono mn.mono (((((t.trans z).trans H).trans a5).trans a6).trans d.jy)) (u.mono jD.mono (((((t.trans z).trans H).trans a5).trans a6).trans d.jy)) h5) (fun n2 d => ug y (PR underlying4 rfl rfl rfl) (V (jO (cB y) rfl) ?_))))))))))
      obtain rfl := sj q
      exact c9 _ _ ⟨_, (d.js (Db St)), f2, rfl⟩
     refine un y (un y (un y (un y (un y (un y (un y (un y (un y (V (jQ (cB y) rfl) ?_)))))))))
     obtain rfl := sj q
     exact c9 _ _ ⟨_, (d.js (Db St)), f2, rfl⟩
    refine bC N (fun B N => ?_) (fun B N => ?_)
    ·refine ug B (ml (i := 1) dp dw j8 rfl dc dc) (ug B (jt rfl (jG d.has Mh rfl dY)) (bS N fun l9 h6 N => ue B (vE d call15 (mH.lR (EM e1 j6.2.1 _ _ (g1.sl kj (fun b o m => d.at_ (Mt (Mt (Ma (Ml m)))))) h6)) (fun n3 m1 m3 n0 d f6 ai h0 => ug B (jx j7) (bS N fun n9 h7 N => ue B (Eg d call10 (ke.lR (Ec m1 l9 d9 j5.2.1 _ _ (h0.sl kj (fun b o m => d.at_ (Ml m))) (f9.sl kj (fun b o m => d.at_ (Ma (Mt (Mt (Ma (Ma (Ml m)))))))) h7)) (fun n4 d => V (jO (cB B) rfl) ?_)))))))
     obtain rfl := sj N
     exact d0 _ _ ⟨m3, _, f6, (d.js (Dr (Db (Kb (Dr (Dr (Dr St))))))), e9, f0, f1, rfl⟩
    refine un B (un B (un B (un B (un B (V (jQ (cB B) rfl) ?_)))))
    obtain rfl := sj N
    exact d0 _ _ ⟨c3, _, (jR.refl _), (d.js (Db (Kb (Dr (Dr (Dr St)))))), e9, f0, f1, rfl⟩
   refine bC Q (fun I Q => ?_) (fun I Q => ?_)
   ·refine ug I (ml (i := 0) dp dw f5 rfl dc dc) (ug I (jt rfl (jG d.has Mh rfl dY)) (bS Q fun m0 h8 Q => ue I (vE d call15 (mH.lR (EM e0 j6.1 _ _ (g0.sl kj (fun b o m => d.at_ (Mt (Mt (Ml m))))) h8)) (fun n5 m2 m4 n1 d f7 aj h1 => ug I (jx m6) (bS Q fun o0 h9 Q => ue I (Eg d call10 (ke.lR (Ec m2 m0 g9 j5.1 _ _ (h1.sl kj (fun b o m => d.at_ (Ml m))) (f8.sl kj (fun b o m => d.at_ (Ma (Mt (Mt (Ma (Ma (Ml m)))))))) h9)) (fun n6 d => V (jO (cB I) rfl) ?_)))))))
    obtain rfl := sj Q
    exact d1 _ _ ⟨m4, _, f7, (d.js (Dr (Kb (Kb (Kr (Kr (Dr St))))))), i8, i9, j3, f5, j4, rfl⟩
   refine un I (un I (un I (un I (un I (V (jQ (cB I) rfl) ?_)))))
   obtain rfl := sj Q
   exact d1 _ _ ⟨e2, _, (jR.refl _), (d.js (Kb (Kb (Kr (Kr (Dr St)))))), i8, i9, j3, f5, j4, rfl⟩
  refine bC b7 (fun G b7 => ?_) (fun G b7 => ?_)
  ·refine ug G (ml (i := 1) dp dw f4 rfl dc dc) (ug G (jt rfl (jG d.has Mh rfl dY)) (ug G (oe aJ rfl g1) (ug G (jx f3) (ug G (oe aJ rfl f9) (ug G (ko rfl rfl rfl) (V (jO (cB G) rfl) ?_))))))
   obtain rfl := sj b7
   exact d2 _ _ ⟨_, (d.js St), i4, i5, i6, f3, f4, i7, rfl⟩
  refine un G (un G (un G (un G (un G (un G (V (jQ (cB G) rfl) ?_))))))
  obtain rfl := sj b7
  exact d2 _ _ ⟨_, (d.js St), i4, i5, i6, f3, f4, i7, rfl⟩
 refine bC b9 (fun D b9 => ?_) (fun D b9 => ?_)
 ·refine ug D (ml (i := 0) dp dw rfl rfl dc dc) (ug D (jt rfl (jG d.has Mh rfl dY)) (ug D (oe aJ rfl g0) (ug D (jx rfl) (ug D (oe aJ rfl f8) (ug D (ko rfl rfl rfl) (V (jO (cB D) rfl) ?_))))))
  obtain rfl := sj b9
  exact d3 _ _ ⟨_, (d.js (Kb (Db (Sb (Pr (Pr (Pr (Pr Pz)))) St)))), rfl, rfl, rfl, rfl, rfl, rfl, rfl⟩
 refine un D (un D (un D (un D (un D (un D (V (jQ (cB D) rfl) ?_))))))
 obtain rfl := sj b9
 exact d3 _ _ ⟨_, (d.js (Kb (Db (Sb (Pr (Pr (Pr (Pr Pz)))) St)))), rfl, rfl, rfl, rfl, rfl, rfl, rfl⟩
end Go.Proofs.YtjjjihkifgdhgaaGreat
