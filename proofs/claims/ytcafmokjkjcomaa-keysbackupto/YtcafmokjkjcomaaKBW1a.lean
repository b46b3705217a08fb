/- a part of a proof of KeysBack -/
import Derived.Test.YtcafmokjkjcomaaKBMa
import Derived.Test.YtcafmokjkjcomaaRtZda
import Derived.Test.YtcafmokjkjcomaaProg
set_option linter.all false
namespace Go.Proofs.Ytcafmokjkjcomaa
open Go.IntKind renaming wrap → wi0
open Go.RowKit
set_option maxRecDepth 10000
open Try
def az := @underlying34
def aC := @sizeOf26
def aK := @underlying39
def aY := @sizeOf24
def aZ := @underlying9
def bh := @sizeOf36
def bj := @isAgg26
def bl := @underlying26
def bA := @zeroValue26
def bF := @isAgg9
def bI := @underlying5
def bJ := @zeroValue36
def bQ := @underlying36
def bT := @isAgg24
def bU := @isAgg34
def ck := @underlying53
def cv := @underlying24
def cz := @isAgg36
def cM := @zeroValue53
def cN := @underlying43
def cO := @call31
def cX := @sizeOf5
def df := @sizeOf34
def dh := @underlying96
def di := @underlying22
def dj := @underlying41
def dl := @underlying57
def dE := @zeroValue5
def dF := @eqGuardType26
def dH := @sizeOf53
def dP := @underlying72
def ee := @sizeOf9
def ef := @underlying3
def eu := @isAgg3
def ev := @underlying60
def ew := @underlying47
def ey := @call51
abbrev K0 : fg := ⟨zS, zS⟩
abbrev K1 : ByteArray := ⟨#[97]⟩
abbrev K2 : ByteArray := ⟨#[114]⟩
abbrev K3 : ByteArray := ⟨#[100]⟩
abbrev K4 : ByteArray := ⟨#[98]⟩
abbrev K5 : fg := ⟨K1, K2⟩
abbrev K6 : eH := ⟨0, K0, zS, K0, K0, zS⟩
abbrev K7 : eH := ⟨1, K5, K3, K0, K0, zS⟩
abbrev C1 (d : Int) (g h i j k n o p : ByteArray) (q : Option Addr) (a c : Nat) : List Value := [(.int .i64 d), (.string g), (.string h), (.string i), (.string j), (.string k), (.string n), (.string o), (.string p), (.slice q a c)]
abbrev C2 : List Value := [(.int .i64 0), (.string (K0.eJ)), (.string (K0.eK)), (.string zS), (.string (K0.eJ)), (.string (K0.eK)), (.string (K0.eJ)), (.string (K0.eK)), (.string zS), (.slice none 0 0)]
abbrev C3 : List Value := [(.int .i64 1), (.string (K5.eJ)), (.string (K5.eK)), (.string K3), (.string (K0.eJ)), (.string (K0.eK)), (.string (K0.eJ)), (.string (K0.eK)), (.string zS), (.slice none 0 0)]
abbrev C4 (a : Nat) : List Value := [(.string K1), (.slice (some ⟨a, 0, none⟩) 1 1)]
theorem gW : Try.prog.follows .mixedOrders = true := by rfl
theorem iy : Try.prog.info? 5 = some Try.t5 ∧ Try.t5.zero = some (.int .u8 0) ∧ Try.t5.size = 1 ∧ Try.t5.bytes = 1 := ⟨by kernel_rfl, by kernel_rfl, by kernel_rfl, by kernel_rfl⟩
theorem nv : Try.prog.info? 26 = some Try.t26 ∧ Try.t26.zero = some (.agg #[(.int .i64 0), (.string ⟨#[]⟩), (.string ⟨#[]⟩), (.string ⟨#[]⟩), (.string ⟨#[]⟩), (.string ⟨#[]⟩), (.string ⟨#[]⟩), (.string ⟨#[]⟩), (.string ⟨#[]⟩)]) ∧ Try.t26.size = 9 ∧ Try.t26.bytes = 136 := ⟨by kernel_rfl, by kernel_rfl, by kernel_rfl, by kernel_rfl⟩
theorem mf : gA Try.prog 24 0 0 := fV cv rfl ee (by decide) rfl
theorem ob : gA Try.prog 24 1 1 := fV cv rfl ee (by decide) rfl
theorem xK : (Try.prog.fieldsOf 24).toList = (match Try.prog.underlying 24 with | some (.struct a) => a.toList | _ => []) := by rw [cv]; simp [Program.fieldsOf, cv]
theorem ra (d : Nat) (x y : fg) (W : World) : (Op.equalIn (d + 2) 24 (.agg (fz x).toArray) (.agg (fz y).toArray)).run Try.prog W = .ok (gB x y) W := by
 rw [run_equalIn_struct W (d + 1) 24 _ _ (by kernel_rfl) Try.stoodInHeld24, xK, cv]
 exact (iK (by decide) (ku bF rfl) (ku bF rfl) (yy aZ _ _ _ _) (iK (by decide) (ku bF rfl) (ku bF rfl) (yy aZ _ _ _ _) (qh _ _ _)))
theorem zA : ∀ a, Try.prog.underlying 24 = some (.struct a) → ∀ w, (a.mapM (fun (f : Field) => do pure (f.offset, ← sizeOf f.type)) : Sem (Array (Nat × Nat))).run Try.prog w = .ok #[(0, 1), (1, 1)] w := by
 intro a h w
 rw [cv] at h
 cases h
 kernel_rfl
theorem nZ : gA Try.prog 26 0 0 := fV bl rfl sizeOf3 (by decide) rfl
theorem nD : gA Try.prog 26 1 1 := fV bl rfl aY (by decide) rfl
theorem pg : gA Try.prog 26 2 3 := fV bl rfl ee (by decide) rfl
theorem iB : gA Try.prog 26 3 4 := fV bl rfl aY (by decide) rfl
theorem nC : gA Try.prog 26 4 6 := fV bl rfl aY (by decide) rfl
theorem px : gA Try.prog 26 5 8 := fV bl rfl ee (by decide) rfl
theorem xz : (Try.prog.fieldsOf 26).toList = (match Try.prog.underlying 26 with | some (.struct a) => a.toList | _ => []) := by rw [bl]; simp [Program.fieldsOf, bl]
theorem om (d : Nat) (x y : eH) (W : World) : (Op.equalIn (d + 3) 26 (.agg (eO x).toArray) (.agg (eO y).toArray)).run Try.prog W = .ok (iJ x y) W := by
 rw [run_equalIn_struct W (d + 2) 26 _ _ (by kernel_rfl) Try.stoodInHeld26, xz, bl]
 exact (iK (by decide) (ku eu rfl) (ku eu rfl) (A7 ef _ _ _ _) (iK (by decide) (nc bT aY rfl) (nc bT aY rfl) (ra _ x.Head y.Head W) (iK (by decide) (ku bF rfl) (ku bF rfl) (yy aZ _ _ _ _) (iK (by decide) (nc bT aY rfl) (nc bT aY rfl) (ra _ x.B y.B W) (iK (by decide) (nc bT aY rfl) (nc bT aY rfl) (ra _ x.C y.C W) (iK (by decide) (ku bF rfl) (ku bF rfl) (yy aZ _ _ _ _) (qh _ _ _)))))))
theorem vX : ∀ a, Try.prog.underlying 26 = some (.struct a) → ∀ w, (a.mapM (fun (f : Field) => do pure (f.offset, ← sizeOf f.type)) : Sem (Array (Nat × Nat))).run Try.prog w = .ok #[(0, 1), (1, 2), (3, 1), (4, 2), (6, 2), (8, 1)] w := by
 intro a h w
 rw [bl] at h
 cases h
 kernel_rfl
theorem rI : gA Try.prog 53 0 0 := fV ck rfl ee (by decide) rfl
theorem rX : gA Try.prog 53 1 1 := fV ck rfl df (by decide) rfl
theorem vK : ∀ a, Try.prog.underlying 53 = some (.struct a) → ∀ w, (a.mapM (fun (f : Field) => do pure (f.offset, ← sizeOf f.type)) : Sem (Array (Nat × Nat))).run Try.prog w = .ok #[(0, 1), (1, 1)] w := by
 intro a h w
 rw [ck] at h
 cases h
 kernel_rfl
theorem rF : gA Try.prog 60 0 0 := fV ev rfl sizeOf58 (by decide) rfl
theorem A3 : ∀ a, Try.prog.underlying 60 = some (.struct a) → ∀ w, (a.mapM (fun (f : Field) => do pure (f.offset, ← sizeOf f.type)) : Sem (Array (Nat × Nat))).run Try.prog w = .ok #[(0, 1)] w := by
 intro a h w
 rw [ev] at h
 cases h
 kernel_rfl
theorem mH : gA Try.prog 36 0 0 := fV bQ rfl aC (by decide) rfl
theorem nB : gA Try.prog 36 1 9 := fV bQ rfl df (by decide) rfl
theorem tX : ∀ a, Try.prog.underlying 36 = some (.struct a) → ∀ w, (a.mapM (fun (f : Field) => do pure (f.offset, ← sizeOf f.type)) : Sem (Array (Nat × Nat))).run Try.prog w = .ok #[(0, 9), (9, 1)] w := by
 intro a h w
 rw [bQ] at h
 cases h
 kernel_rfl
theorem mI : gA Try.prog 43 0 0 := fV cN rfl df (by decide) rfl
theorem yd : ∀ a, Try.prog.underlying 43 = some (.struct a) → ∀ w, (a.mapM (fun (f : Field) => do pure (f.offset, ← sizeOf f.type)) : Sem (Array (Nat × Nat))).run Try.prog w = .ok #[(0, 1)] w := by
 intro a h w
 rw [cN] at h
 cases h
 kernel_rfl
theorem mJ : gA Try.prog 72 0 0 := fV dP rfl df (by decide) rfl
theorem uB : gA Try.prog 72 1 1 := fV dP rfl sizeOf4 (by decide) rfl
theorem A2 : ∀ a, Try.prog.underlying 72 = some (.struct a) → ∀ w, (a.mapM (fun (f : Field) => do pure (f.offset, ← sizeOf f.type)) : Sem (Array (Nat × Nat))).run Try.prog w = .ok #[(0, 1), (1, 1)] w := by
 intro a h w
 rw [dP] at h
 cases h
 kernel_rfl
theorem zO : gA Try.prog 96 0 0 := fV dh rfl sizeOf47 (by decide) rfl
theorem zn : gA Try.prog 96 1 1 := fV dh rfl sizeOf31 (by decide) rfl
theorem AP : ∀ a, Try.prog.underlying 96 = some (.struct a) → ∀ w, (a.mapM (fun (f : Field) => do pure (f.offset, ← sizeOf f.type)) : Sem (Array (Nat × Nat))).run Try.prog w = .ok #[(0, 1), (1, 1)] w := by
 intro a h w
 rw [dh] at h
 cases h
 kernel_rfl
def js : jg Key := fun μ ys x => ∃ (v0 : Value), ys = [.string x.fa, v0] ∧ Sl (Pl (eQ .u8)) 1 μ v0 x.Key
theorem js.out {μ : eV} {ys : List Value} {x : Key} (h : js μ ys x) : ∃ (v0 : Value), ys = [.string x.fa, v0] ∧ Sl (Pl (eQ .u8)) 1 μ v0 x.Key := h
theorem js.mk {μ : eV} {ys : List Value} {x : Key} (h : ∃ (v0 : Value), ys = [.string x.fa, v0] ∧ Sl (Pl (eQ .u8)) 1 μ v0 x.Key) : js μ ys x := h
theorem nJ : Deep js 2 where
 mono := by rintro _ _ _ _ c ⟨v0, rfl, a⟩; exact ⟨v0, rfl, a.mono (Pl.mono _) c⟩
 len := by rintro _ _ _ ⟨v0, rfl, a⟩; rfl
 one := by
  rintro _ _ _ ⟨v0, rfl, a⟩
  intro u hu; simp only [aB, bc, cy] at hu; rcases hu with rfl | rfl
  ·rfl
  ·exact a.qI
def fN : jg fG := fun μ ys x => ∃ (v0 : Value), ys = [v0] ∧ ji Value.string (fp 5 (eQ .u8) 1) μ v0 x.m
theorem fN.out {μ : eV} {ys : List Value} {x : fG} (h : fN μ ys x) : ∃ (v0 : Value), ys = [v0] ∧ ji Value.string (fp 5 (eQ .u8) 1) μ v0 x.m := h
theorem fN.mk {μ : eV} {ys : List Value} {x : fG} (h : ∃ (v0 : Value), ys = [v0] ∧ ji Value.string (fp 5 (eQ .u8) 1) μ v0 x.m) : fN μ ys x := h
theorem gd : Deep fN 1 where
 mono := by rintro _ _ _ _ c ⟨v0, rfl, a⟩; exact ⟨v0, rfl, a.mono  c⟩
 len := by rintro _ _ _ ⟨v0, rfl, a⟩; rfl
 one := by
  rintro _ _ _ ⟨v0, rfl, a⟩
  intro u hu; simp only [aB, bc, cy] at hu; rcases hu with rfl
  ·exact a.qI
def gV : jg eY := fun μ ys x => ∃ (v0 : Value), ys = [.int .i64 x.eH.Kind, .string x.eH.Head.eJ, .string x.eH.Head.eK, .string x.eH.fa, .string x.eH.B.eJ, .string x.eH.B.eK, .string x.eH.C.eJ, .string x.eH.C.eK, .string x.eH.eX, v0] ∧ Sl (Pl (eQ .u8)) 1 μ v0 x.Tag
theorem gV.out {μ : eV} {ys : List Value} {x : eY} (h : gV μ ys x) : ∃ (v0 : Value), ys = [.int .i64 x.eH.Kind, .string x.eH.Head.eJ, .string x.eH.Head.eK, .string x.eH.fa, .string x.eH.B.eJ, .string x.eH.B.eK, .string x.eH.C.eJ, .string x.eH.C.eK, .string x.eH.eX, v0] ∧ Sl (Pl (eQ .u8)) 1 μ v0 x.Tag := h
theorem gV.mk {μ : eV} {ys : List Value} {x : eY} (h : ∃ (v0 : Value), ys = [.int .i64 x.eH.Kind, .string x.eH.Head.eJ, .string x.eH.Head.eK, .string x.eH.fa, .string x.eH.B.eJ, .string x.eH.B.eK, .string x.eH.C.eJ, .string x.eH.C.eK, .string x.eH.eX, v0] ∧ Sl (Pl (eQ .u8)) 1 μ v0 x.Tag) : gV μ ys x := h
theorem nS : Deep gV 10 where
 mono := by rintro _ _ _ _ c ⟨v0, rfl, a⟩; exact ⟨v0, rfl, a.mono (Pl.mono _) c⟩
 len := by rintro _ _ _ ⟨v0, rfl, a⟩; rfl
 one := by
  rintro _ _ _ ⟨v0, rfl, a⟩
  intro u hu; simp only [aB, bc, cy] at hu; rcases hu with rfl | rfl | rfl | rfl | rfl | rfl | rfl | rfl | rfl | rfl
  ·rfl
  ·rfl
  ·rfl
  ·rfl
  ·rfl
  ·rfl
  ·rfl
  ·rfl
  ·rfl
  ·exact a.qI
theorem zm : lL Try.prog 9 Value.string fF := lL.string aZ
theorem Aw (w : World) (s : ByteArray) (c : Int) : (callFunc 68 [Value.string s, .int .u8 c].toArray).run Try.prog w = .ok (.value (.int .i64 (lY s c))) w := si func68 (by kernel_rfl) (by kernel_rfl) (by kernel_rfl) (by kernel_rfl) s c w
theorem mA (a : ByteArray) (c r : Int) (w : World) (hm : gC a c = some r) :
  fQ true Try.prog 58 [(.string a), (.int .u8 c)] w (.int .i64 r) := by
 exact cG 8 func58 rfl (fun d => sg (Wa (lr (Wm (Wm (VE (vF (args := [(.string a), (.int .u8 c)]) (v := .int .i64 (lY a c)) rfl (by exact jC rfl rfl) (Aw _ a c) (Wa (lt (rQ hm d))))))))))
theorem mW (a : ByteArray) (c r : Int) (w : World) (hm : iQ a c = some r) :
  fQ true Try.prog 35 [(.string a), (.int .u8 c)] w (.int .i64 r) := by
 refine cG 8 func35 rfl (fun d => sg (Wa (lr (Wm (Wm (bS hm fun j g hm => VE (Eg d call58 (mA a c _ _  g) (fun i d => Wa (ln ?_)))))))))
 exact gq (rQ hm d)
theorem uS (I : ByteArray) (r : Bool) (w : World) (hm : oQ I = some r) :
  fQ true Try.prog 36 [(.string I)] w (.bool r) := by
 refine cG 16 func36 rfl (fun d => sg (Wa (lS (Wm (bS hm fun H J hm => VE (sY d aZ az bI rfl J (fun W3 N T d M q j Y => V (gX az rfl j) (Wm (fB ?_)))))))))
 refine fj (jN (fun i E W => ∃ c, (E 8 = .int .i64 (i : Nat) ∧ E 7 = .int .i64 (H.length : Nat)) ∧ ST true fY w W T c ∧ E 6 = N ∧ kx (H.drop i) = some r) H.length j.len ⟨_, ⟨rfl, rfl⟩, (d.eS St), rfl, hm⟩ dc dc dc (fun _ _ _ h => by obtain ⟨_, o, _⟩ := h; exact o) ?_ ?_)
 ·rintro K E W u ⟨c, ⟨n, p⟩, d, g, a⟩
  obtain ⟨k, Q, D, B, G⟩ := jf u
  rw [D] at a
  refine bg (VQ (mZ (enc := (eQ .u8)) (i := (K : Int)) (x0 := k) az cX g n j (bq _) B) (fun Z x => V (eU rfl (kP d.has (y := (.int .u8 k)) x isAgg5)) (Wa (lr (Wm (bS a fun s z a => VE (Eg d call35 (mW (⟨#[97, 98, 99, 100, 101, 102, 103, 104, 105, 106, 107, 108, 109, 110, 111, 112, 113, 114, 115, 116, 117, 118, 119, 120, 121, 122, 48, 49, 50, 51, 52, 53, 54, 55, 56, 57, 45]⟩ : ByteArray) k _ _  z) (fun U d => Wi rfl (fB ?_)))))))))
  refine fj (CI a rfl (fun t a => ?_) (fun t a => ?_))
  ·refine sg (Wa (lt (kI (ga (kI (ga ?_))))))
   obtain rfl := sj a
   exact rP d
  exact gH (gF (fj ⟨n, _, ⟨rfl, p⟩, (d.eS St), g, (by rw [G]; exact a)⟩))
 rintro E W ⟨c, ⟨n, p⟩, d, g, a⟩
 rw [bu] at a
 exact fj (sg (Wa (lt (rQ a d))))
theorem jI (z : ByteArray) (r : Bool) (w : World) (hm : ib z = some r) :
  fQ true Try.prog 19 [(.string z)] w (.bool r) := by
 refine cG 21 func19 rfl (fun d => sg (Wa (lr (Wm (V (jK aZ rfl) (Wi rfl (Wm (LJ hm (fun K E W => ∃ Y, ST true fY w W (hp w) Y ∧ E 0 = (.string z) ∧ E 2 = (.bool false) ∧ E 10 = (.bool K)) 4 ?_ (fun K t y => ?_)))))))))
 ·rintro x2 E W ⟨Y, d, M, h, o⟩ a5
  refine Wh o (LJ a5 (fun J E W => ∃ D, ST true fY w W (hp w) D ∧ E 0 = (.string z) ∧ E 2 = (.bool false) ∧ E 16 = (.bool J)) 5 ?_ (fun J a x => ?_))
  ·rintro A E W ⟨D, d, n, H, a2⟩ N
   refine Wh a2 (LJ N (fun I E W => ∃ G, ST true fY w W (hp w) G ∧ E 2 = (.bool false) ∧ E 20 = (.bool I)) 3 ?_ (fun I j u => ?_))
   ·rintro F E W ⟨G, d, a9, a3⟩ Q
    exact Wg a3 (lt (rQ Q d))
   refine bC j (fun g j => ?_) (fun g j => ?_)
   ·refine ug g (eZ n) (bS j fun s T j => lA g (Eg d call36 (uS z _ _  T) (fun p d => V (ft (cB g) rfl) ?_)))
    obtain rfl := sj j
    exact u _ _ ⟨_, (d.eS St), H, rfl⟩
   refine un g (un g (V (fq (cB g) rfl) ?_))
   obtain rfl := sj j
   exact u _ _ ⟨_, (d.eS St), H, rfl⟩
  refine bC a (fun c a => ?_) (fun c a => ?_)
  ·refine ug c (eZ M) (bS a fun Z B a => ug c (wA (i := 0) aZ rfl rfl (ve B) (xA B)) (bS a fun v U a => lA c (Eg d call35 (mW (⟨#[97, 98, 99, 100, 101, 102, 103, 104, 105, 106, 107, 108, 109, 110, 111, 112, 113, 114, 115, 116, 117, 118, 119, 120, 121, 122]⟩ : ByteArray) (Z.toNat : Int) _ _  U) (fun q d => ug c (gi rfl rfl rfl) (V (ft (cB c) rfl) ?_)))))
   obtain rfl := sj a
   exact x _ _ ⟨_, (d.eS St), M, h, rfl⟩
  refine un c (un c (un c (un c (V (fq (cB c) rfl) ?_))))
  obtain rfl := sj a
  exact x _ _ ⟨_, (d.eS St), M, h, rfl⟩
 refine bC t (fun k t => ?_) (fun k t => ?_)
 ·refine ug k (eZ rfl) (ug k (jK aZ rfl) (ug k (gi rfl rfl rfl) (V (ft (cB k) rfl) ?_)))
  obtain rfl := sj t
  exact y _ _ ⟨_, (d.eS St), rfl, rfl, rfl⟩
 refine un k (un k (un k (V (fq (cB k) rfl) ?_)))
 obtain rfl := sj t
 exact y _ _ ⟨_, (d.eS St), rfl, rfl, rfl⟩
theorem mm (g : Value) (i r : List Int) (w : World) (a : Sl (Pl (eQ .u8)) 1 (hp w) g i) (hm : gp i = some r) :
  gu true Try.prog 20 [g] w 5 (eQ .u8) 1 r := by
 unfold gp at hm
 refine sh 8 func20 rfl (fun d => sg (Wa (lS (Wm ?_))))
 obtain ⟨y, B, rfl⟩ := a.form
 refine V (sQ az rfl rfl) (ln ?_)
 rcases y with _ | z
 ·have u := a.isNil
  replace hm : some [] = some r := by rw [u] at hm; simpa [kN, maxLen] using hm
  refine nO (rfl) (sg (Wa (lt (ga ?_))))
  obtain rfl := sj hm
  exact fL (v := (.slice none 0 0)) rfl rfl ⟨_, [], rfl, d.jF (fun p h => by cases h) (by simp), fp.nil _ _ _⟩
 ·refine jD (rfl) (kg (VE (fJ (cs := #[]) d nz (lj [] az cX dE dc rfl (by simp) rfl rfl) (fun G k d => Wm (bS hm fun H t hm => VE (mx (enc := (eQ .u8)) (v := (.slice (some ⟨k, 0, none⟩) 0 0)) (vs := (.slice (some z) i.length B)) (R := [(k, Ob #[] 5)]) d (fun _ => rfl) dc (sL _) az iy.1 iy.2.1 rfl iy.2.2.1 iy.2.2.2 rfl rfl (fp.lit (l := []) (enc := (eQ .u8)) rfl dc rfl rfl) (a.mono (Pl.mono _) d.fw) t (fun D x j d c => Wa (lt ?_))))))))
  obtain rfl := sj hm
  exact fL (v := x) rfl rfl ⟨_, j, rfl, d.jF (fun p h => (Ml h)) c.nd, c⟩
theorem nR (T : Value) (a0 : List Key) (r : ((Option fG) × Int)) (w : World) {μ0 : eV} (h0 : jL μ0 [] w) (a3 : Sl js 2 μ0 T a0) (hm : lR a0 = some r) :
  gm true Try.prog 7 [T] w μ0 [] (fun v L1 μ1 => ∃ y1, v = (.tuple #[y1, (.int .i64 (r.2))]) ∧ L1 = [] ∧ kp fN μ1 y1 r.1) := by
 refine zF h0 57 func7 rfl (fun d => sg (Wa (Wa (lr (VE (vM (P := Try.prog) Value.string (fp 5 (eQ .u8) 1) d (fun W1 v4 R2 d d0 => ?_)))))))
 obtain ⟨Z, rfl⟩ := d0.form
 refine V (gI (v := (.agg #[(.map (some Z))])) (jc rfl) (fT zeroValue60 ev (A3 _ ev) kr)) (VE (iM d rfl (fun W7 s d => Wa (lS (Wm (V (gX di rfl a3) (Wm (ln (jN (fun i E W => ∃ I D y a1, (E 14 = .int .i64 (i : Nat) ∧ E 13 = .int .i64 (a0.length : Nat)) ∧ eT μ0 y ∧ Lo (keys []) w μ0 y ∧ ST true (keys []) w W y ((s, Ob #[(.map (some Z))] 60) :: (D ++ a1)) ∧ E 4 = (.pointer (some ⟨s, 0, none⟩)) ∧ E 12 = T ∧ nl Value.string (fp 5 (eQ .u8) 1) (.map (some Z)) I D ∧ jY (a0.drop i) I = some r) a0.length a3.len ⟨([]), R2, μ0, _, ⟨rfl, rfl⟩, (eT.refl _), Lo.refl, (d.eS St), rfl, rfl, d0, hm⟩ dc dc dc (fun _ _ _ h => by obtain ⟨_, _, _, _, aa, _⟩ := h; exact aa) ?_ ?_)))))))))
 ·rintro b1 E W c0 ⟨I, D, y, a1, ⟨O, eN⟩, t, p, d, G, M, Q, a⟩
  obtain ⟨j, e4, c8, c7, c9⟩ := jf c0
  rw [c8] at a
  refine bg (VQ (pL (i := (b1 : Int)) (x0 := j) js.out di dH M O (a3.mono nJ.mono t) (bq _) c7) (fun f5 ⟨_, ⟨f7, rfl, B⟩, c1⟩ => V (eU rfl (ng d.has c1 isAgg53 dH)) (VE (gN d cM (fun e9 a7 d => ?_)))))
  obtain ⟨J, K, rfl⟩ := B.form
  let a2 : Value := (.slice J j.Key.length K)
  refine VO (fD (.agg #[(.string j.fa), a2]) (#[(.string j.fa), a2]) d rfl rfl dH oc nb rfl (fun f0 d => ln (fm ?_)))
  replace d := d.drew
  have n := d.has.eS (Kb (Kb (Kr Sn)))
  refine gU n gW (X 0 rfl n (eZ G) (X 1 rfl n (kK rfl) (X 2 rfl n (fe rF rfl) (XH 3 rfl n (fun _ q => eU rfl (fx q (Mt Mh) rfl isAgg58)) (X 4 rfl n (fe rI rfl) (XH 5 rfl n (fun _ q => eU rfl (fx q Mh rfl bF)) ?_))))))
  obtain ⟨e3, N⟩ := Q
  obtain ⟨e7, e1, e2⟩ := gY.rowAt gr.1 N j.fa
  refine XH 6 rfl n (fun _ q => pq (k := j.fa) (z := (.slice none 0 0)) zm underlying58 zeroValue34 rfl rfl N (fun b o hq => q.2 b o (Mt (Mt (Ml hq))))) (X 7 rfl n (eZ rfl) (X 8 rfl n (iv rfl rfl) (X 9 rfl n (iv rfl rfl) (X 10 rfl n (fO rfl) (X 11 rfl n (fO rfl) (jo kr (fj (fm (bg (Wf rI (VB d Mh rfl rfl bF (bS a fun f6 c4 a => ?_))))))))))))
  refine VE (Eg d call19 (jI j.fa _ _  c4) (fun f1 d => V (ly rfl) (Wa (ln (CI a rfl (fun b5 a => ?_) (fun b5 a => ?_))))))
  ·refine sg (Wa (Wa (ln ?_)))
   replace d := d.eS (Db (Db (Dr St)))
   refine gq (kI (ga (kI (ga (kI (ga ?_))))))
   obtain rfl := sj a
   exact ny (v := (.pointer none)) (u := (.int .i64 30)) rfl rfl rfl ⟨_, _, _, rfl, (d.fR Sn), t, p, (ST.fl d (fM.mem Sn)), (.pointer none), rfl, rfl, kp.nil⟩
  refine sg (Wf rX (VB d Mh rfl rfl bU (V (gX az rfl B) (Wi rfl (Wm (LJ a (fun b2 E W => ∃ a6, ST true (keys []) w W y ((a7, Ob #[(.string j.fa), a2] 53) :: ((s, Ob #[(.map (some Z))] 60) :: (D ++ a6))) ∧ E 4 = (.pointer (some ⟨s, 0, none⟩)) ∧ E 6 = (.pointer (some ⟨a7, 0, none⟩)) ∧ E 8 = (.bool ((gL fF I j.fa).isSome)) ∧ E 12 = T ∧ E 13 = (.int .i64 (a0.length : Int)) ∧ E 14 = (.int .i64 (b1 : Int)) ∧ E 43 = (.bool b2)) 5 ?_ (fun b2 x Y => ?_)))))))
  ·rintro f9 E W ⟨a6, d, a8, a9, d2, d3, d4, d5, d6⟩ c
   refine Wg d6 (ln (CI c rfl (fun b7 c => ?_) (fun b7 c => ?_)))
   ·refine sg (Wa (Wa (ln ?_)))
    replace d := d.eS (Db (Db (Dr St)))
    refine gq (kI (ga (kI (ga (kI (ga ?_))))))
    obtain rfl := sj c
    exact ny (v := (.pointer none)) (u := (.int .i64 21)) rfl rfl rfl ⟨_, _, _, rfl, (d.fR Sn), t, p, (ST.fl d (fM.mem Sn)), (.pointer none), rfl, rfl, kp.nil⟩
   refine sg (Wh d2 (Wa (ln (CI c rfl (fun b9 c => ?_) (fun b9 c => ?_)))))
   ·refine sg (Wa (Wa (ln ?_)))
    replace d := d.eS (Db (Db (Dr St)))
    refine gq (kI (ga (kI (ga (kI (ga ?_))))))
    obtain rfl := sj c
    exact ny (v := (.pointer none)) (u := (.int .i64 41)) rfl rfl rfl ⟨_, _, _, rfl, (d.fR Sn), t, p, (ST.fl d (fM.mem Sn)), (.pointer none), rfl, rfl, kp.nil⟩
   refine gH (gF (fj ?_))
   replace d := d.drew
   have n := d.has.eS (Kb (Kb Sn))
   refine gU n gW (X 0 rfl n (eZ a8) (X 1 rfl n (kK rfl) (X 2 rfl n (fe rF rfl) (XH 3 rfl n (fun _ q => eU rfl (fx q (Mt Mh) rfl isAgg58)) (X 4 rfl n (fe rI a9) (XH 5 rfl n (fun _ q => eU rfl (fx q Mh rfl bF)) (X 6 rfl n (fe rX a9) (XH 7 rfl n (fun _ q => eU rfl (fx q Mh rfl bU)) (bS c fun d8 c5 c => XE 8 rfl (mh d call20 (mm a2 j.Key _ _ (B.mono (Pl.mono _) d.fw) c5) (fun f2 f8 d9 e8 d H A b3 => ?_)))))))))))
   have n := d.has.oT H (Dr (Kb (Kb Sn)))
   refine ⟨n, ?_⟩
   replace d := d.perm (Nr (Qr (Qb (Qb Qz))) Nz)
   refine bS c fun d7 c6 c => XO 9 rfl (xv (k := j.fa) (z := d8)  zm underlying58 d N rfl rfl rfl b3 c6 (fun f3 d1 d b4 => ?_))
   have n := d.has.oT H (Dr (Kb (Kb Sn)))
   refine ⟨n, (jo kr (gF (fj ?_)))⟩
   replace d := d.eS (Kr (Db St))
   exact ⟨d5, d7, d1, d9, _, ⟨rfl, d4⟩, (t.trans H), (p.trans A), (d.eS (Sb (Pr Pz) St)), a8, d3, b4.e, (by rw [c9]; exact c)⟩
  refine bC x (fun g x => ?_) (fun g x => ?_)
  ·refine un g (un g (un g (un g (V (ft (cB g) rfl) ?_))))
   obtain rfl := sj x
   exact Y _ _ ⟨_, (d.eS St), G, rfl, rfl, M, eN, O, rfl⟩
  refine ug g (fe rX rfl) (ug g (eU rfl (fx d.has Mh rfl bU)) (ug g (gX az rfl B) (ug g (gi rfl rfl rfl) (V (fq (cB g) rfl) ?_))))
  obtain rfl := sj x
  exact Y _ _ ⟨_, (d.eS St), G, rfl, rfl, M, eN, O, rfl⟩
 rintro E W ⟨I, D, y, a1, ⟨O, eN⟩, t, p, d, G, M, Q, a⟩
 rw [bu] at a
 refine fj (sg (Wh G (Wa (Wa (lt ?_)))))
 obtain rfl := sj a
 refine ny (v := (.pointer (some ⟨s, 0, none⟩))) (u := (.int .i64 0)) rfl rfl rfl ?_
 replace d := d.perm (Nr (Qb Qz) Nz)
 obtain ⟨g1, d, b0, F, c2⟩ := ST.rN d
 obtain ⟨g2, d, U, L, c3⟩ := ST.rN (R := [(s, Ob #[(.map (some Z))] 60)]) d
 exact ⟨_, _, _, rfl, (d.fR Sn), ((t.trans b0).trans U), ((p.trans F).trans L), (ST.fl d (fM.mem Sn)), (.pointer (some ⟨s, 0, none⟩)), rfl, rfl, (kp.some (At.of (c3 _ _ (.head _)) _ rfl) (fN.mk ⟨(.map (some Z)), rfl, ((Q.at c2).mono U)⟩))⟩
theorem kE (i : fg) (r : Bool) (w : World) (hm : iA i = some r) :
  fQ true Try.prog 48 [(.agg (fz i).toArray)] w (.bool r) := by
 refine cG 11 func48 rfl (fun d => sg (VE (iM d rfl (fun H J d => Wa (lr (Wf mf (VB d Mh rfl rfl bF (bS hm fun K y hm => VE (Eg d call19 (jI i.eJ _ _  y) (fun I d => Wm (LJ hm (fun k E W => ∃ j, ST true fY w W (hp w) j ∧ E 2 = (.bool false) ∧ E 10 = (.bool k)) 4 ?_ (fun k a g => ?_))))))))))))
 ·rintro G E W ⟨j, d, B, x⟩ t
  exact Wg x (lt (rQ t d))
 refine bC a (fun c a => ?_) (fun c a => ?_)
 ·refine ug c (fe ob rfl) (ug c (eU rfl (fx d.has Mh rfl bF)) (bS a fun D u a => lA c (Eg d call19 (jI i.eK _ _  u) (fun z d => V (ft (cB c) rfl) ?_))))
  obtain rfl := sj a
  exact g _ _ ⟨_, (d.eS (Db St)), rfl, rfl⟩
 refine un c (un c (un c (V (fq (cB c) rfl) ?_)))
 obtain rfl := sj a
 exact g _ _ ⟨_, (d.eS (Db St)), rfl, rfl⟩
theorem Aq (w : World) (a b : ByteArray) : (callFunc 95 [Value.string a, .string b].toArray).run Try.prog w = .ok (.value (.int .i64 (kk a b))) w := xw func95 (by kernel_rfl) (by kernel_rfl) (by kernel_rfl) (by kernel_rfl) a b w
theorem mu (a c : ByteArray) (r : Int) (w : World) (hm : ir a c = some r) :
  fQ true Try.prog 80 [(.string a), (.string c)] w (.int .i64 r) := by
 exact cG 8 func80 rfl (fun d => sg (Wa (lr (Wm (Wm (VE (vF (args := [(.string a), (.string c)]) (v := .int .i64 (kk a c)) rfl (by exact jC rfl rfl) (Aq _ a c) (Wa (lt (rQ hm d))))))))))
theorem nK (a c : ByteArray) (r : Int) (w : World) (hm : kw a c = some r) :
  fQ true Try.prog 64 [(.string a), (.string c)] w (.int .i64 r) := by
 refine cG 8 func64 rfl (fun d => sg (Wa (lr (Wm (Wm (bS hm fun j g hm => VE (Eg d call80 (mu a c _ _  g) (fun i d => Wa (ln ?_)))))))))
 exact gq (rQ hm d)
theorem ue (g : Value) (t : List Int) (r : Int) (w : World) (c : Sl (Pl (eQ .i64)) 1 (hp w) g t) (hm : od t = some r) :
  fQ true Try.prog 63 [g] w (.int .i64 r) := by
 refine cG 18 func63 rfl (fun d => sg (Wa (lr (Wa (lS (Wm ?_))))))
 refine V (gX underlying125 rfl c) (Wm (ln (jN (fun i E W => ∃ k, (E 8 = .int .i64 (i : Nat) ∧ E 7 = .int .i64 (t.length : Nat)) ∧ ST true fY w W (hp w) k ∧ E 3 = (.int .i64 0) ∧ E 6 = g ∧ lu (t.drop i) = some r) t.length c.len ⟨_, ⟨rfl, rfl⟩, (d.eS St), rfl, rfl, hm⟩ dc dc dc (fun _ _ _ h => by obtain ⟨_, o, _⟩ := h; exact o) ?_ ?_)))
 ·rintro J E W B ⟨k, ⟨n, p⟩, d, j, u, a⟩
  obtain ⟨x, K, H, G, I⟩ := jf B
  rw [H] at a
  refine bg (VQ (mZ (enc := (eQ .i64)) (i := (J : Int)) (x0 := x) underlying125 sizeOf3 u n c (bq _) G) (fun M D => V (eU rfl (kP d.has (y := (.int .i64 x)) D eu)) (Wa (lr (Wm (Wh j (Wi rfl (ln ?_))))))))
  refine CI a rfl (fun z a => ?_) (fun z a => ?_)
  ·refine sg (Wm (Wa (lt (kI (ga (kI (ga ?_)))))))
   obtain rfl := sj a
   exact rP d
  exact gH (gF (fj ⟨n, _, ⟨rfl, p⟩, (d.eS St), j, u, (by rw [I]; exact a)⟩))
 rintro E W ⟨k, ⟨n, p⟩, d, j, u, a⟩
 rw [bu] at a
 exact fj (sg (Wh j (Wa (lt (rQ a d)))))
theorem sn (g i : fg) (r : Int) (w : World) (hm : lQ g i = some r) :
  fQ true Try.prog 49 [(.agg (fz g).toArray), (.agg (fz i).toArray)] w (.int .i64 r) := by
 refine cG 17 func49 rfl (fun d => sg (VE (iM d rfl (fun G I d => VE (iM d rfl (fun H J d => Wa (ln (fm ?_))))))))
 replace d := d.drew
 have h := d.has.eS (Kb (Kb Sn))
 refine gU h gW (X 0 rfl h (fe mf rfl) (XH 1 rfl h (fun _ n => eU rfl (fx n (Mt Mh) rfl bF)) (X 2 rfl h (fe mf rfl) (XH 3 rfl h (fun _ n => eU rfl (fx n Mh rfl bF)) (X 5 rfl h (fe ob rfl) (XH 6 rfl h (fun _ n => eU rfl (fx n (Mt Mh) rfl bF)) (X 7 rfl h (fe ob rfl) (XH 8 rfl h (fun _ n => eU rfl (fx n Mh rfl bF)) (bS hm fun a j hm => XE 4 rfl (Eg d call64 (nK g.eJ i.eJ _ _  j) (fun x d => ?_)))))))))))
 have h := d.has.eS (Kb (Kb Sn))
 refine ⟨h, (bS hm fun c k hm => XE 9 rfl (Eg d call64 (nK g.eK i.eK _ _  k) (fun y d => ?_)))⟩
 have h := d.has.eS (Kb (Kb Sn))
 refine ⟨h, (XE 10 rfl (fJ (cs := #[(.int .i64 a), (.int .i64 c)]) d (kB rfl rfl) (mj underlying125 sizeOf3 zeroValue3) (fun z u d => ?_)))⟩
 have h := d.has.eS (Db (Kb (Kb Sn)))
 refine ⟨h, (bS hm fun D t hm => XE 11 rfl (Eg d call63 (ue (.slice (some ⟨u, 0, none⟩) 2 2) ([a, c]) _ _ (Sl.lit (enc := (eQ .i64)) (l := [a, c]) (fun _ => rfl) rfl nb rfl (d.at_ Mh)) t) (fun B d => ?_)))⟩
 have h := d.has.eS (Db (Kb (Kb Sn)))
 refine ⟨h, (X 12 rfl h (fO rfl) (jo kr (fj ?_)))⟩
 exact gq (rQ hm d)
set_option maxHeartbeats 4000000 in
theorem lI (a : eH) (r : Bool) (w : World) (hm : iC a = some r) :
  fQ true Try.prog 25 [(.agg (eO a).toArray)] w (.bool r) := by
 let m9 := (⟨a.Kind, a.Head, zS, a.B, a.C, zS⟩ : eH)
 let m8 := (⟨a.Kind, a.Head, zS, a.B, K0, a.eX⟩ : eH)
 let m7 : Value := (.agg (fz a.B).toArray)
 let j2 := ((eO (⟨a.Kind, a.Head, zS, a.B, K0, zS⟩ : eH)).toArray)
 let s := (⟨a.Kind, a.Head, zS, K0, K0, zS⟩ : eH)
 refine cG 98 func25 rfl (fun d => sg (VE (iM d rfl (fun W2 N d => Wa (lr (Wf nZ (VB d Mh rfl rfl eu (Wf nD (VA d Mh (fz a.Head) bT aY (V (gI (v := (.agg (eO s).toArray)) (kB rfl rfl) (fT bA bl (vX _ bl) kr)) (VE (gN d bA (fun W4 B d => ?_)))))))))))))
 refine VO (fD (.agg (eO s).toArray) ((eO s).toArray) d rfl rfl aC (iT s) nb rfl (fun W5 d => lr (Wf nD (VA d (Mt Mh) (fz a.Head) bT aY (bS hm fun q j0 hm => VE (Eg d call48 (kE a.Head _ _  j0) (fun W8 d => Wa (ln (fm (sV hm (fun L E W => ∃ b6, ST true fY w W (hp w) ((B, Ol (eO L.2) 26) :: ((N, Ol (eO a) 26) :: b6)) ∧ E 1 = (.pointer (some ⟨N, 0, none⟩)) ∧ E 3 = (.pointer (some ⟨B, 0, none⟩)) ∧ E 4 = (.bool L.1)) (fun L g Z => ?_) ?_))))))))))
 ·let j1 := ((eO m9).toArray : Array Value)
  let b8 := ((eO m8).toArray : Array Value)
  let p : Value := (.pointer (some ⟨B, 0, none⟩))
  let o : Value := (.pointer (some ⟨N, 0, none⟩))
  let a0 := ((eO a).toArray : Array Value)
  refine sg (Wf nZ (VB d (Mt Mh) rfl rfl eu (ln (bg (Wi rfl (Wa (ln (CI g rfl (fun e5 g => ?_) (fun e5 g => ?_)))))))))
  ·replace d := d.drew
   have h := d.has.eS (Db (Kb Sn))
   refine gU h gW (X 0 rfl h (fe pg rfl) (XH 1 rfl h (fun _ n => eU rfl (fx n Mh rfl bF)) (X 2 rfl h (eZ rfl) (X 3 rfl h (eZ rfl) (X 8 rfl h (fe pg rfl) (PJ g (fun d6 E W => ∃ b9, ST true fY w W (hp w) ((B, Ol (eO s) 26) :: ((N, Obj.cells a0 26 (0, 0)) :: b9)) ∧ E 1 = o ∧ E 3 = p ∧ E 4 = (.bool q) ∧ E 18 = (.string a.fa) ∧ E 24 = (.bool d6) ∧ E 25 = (.pointer (some ⟨B, 3, none⟩))) (bm 11 511) 2 ?_ (fun d6 D a2 => ?_)))))))
   ·rintro l9 E W ⟨b9, d, h0, h1, k6, h2, h3, h4⟩ f1
    refine XO 9 rfl (fD (.string a.fa) ((eO (⟨a.Kind, a.Head, a.fa, K0, K0, zS⟩ : eH)).toArray) d h4 h2 ee (vO a.fa) nb rfl (fun j3 d => ?_))
    have h := d.has.eS (Db (Kb Sn))
    refine ⟨h, (X 10 rfl h (fO h3) (jo kr (gF (fj ?_))))⟩
    obtain rfl := sj f1
    exact ⟨_, rfl, _, (d.eS St), h0, h1, rfl⟩
   refine bC D (fun k D => ?_) (fun k D => ?_)
   ·refine Xg 4 rfl rfl (cB k) h (fe pg rfl) (yn 5 rfl rfl (cB k) h (fun _ n => eU rfl (fx n Mh rfl bF)) (bS D fun l0 f9 D => ym 6 rfl rfl (cB k) (Eg d call19 (jI a.fa _ _  f9) (fun j4 d => ?_))))
    have h := d.has.eS (Db (Kb Sn))
    refine ⟨h, (X 7 rfl h (ft (cB k) rfl) ?_)⟩
    obtain rfl := sj D
    refine qJ kr (a2 _ _ ⟨_, (d.eS St), rfl, rfl, rfl, rfl, rfl, rfl⟩)
   refine Xn 4 rfl rfl (cB k) h (Xn 5 rfl rfl (cB k) h (Xn 6 rfl rfl (cB k) h (X 7 rfl h (fq (cB k) rfl) ?_)))
   obtain rfl := sj D
   refine qJ kr (a2 _ _ ⟨_, (d.eS St), rfl, rfl, rfl, rfl, rfl, rfl⟩)
  refine sg (Wi rfl (Wa (ln (CI g rfl (fun e6 g => ?_) (fun e6 g => ?_)))))
  ·replace d := d.drew
   have h := d.has.eS (Db (Kb Sn))
   refine gU h gW (X 0 rfl h (fe iB rfl) (XH 1 rfl h (fun _ n => eU rfl (fh n Mh (fz a.B) rfl bT aY)) (X 2 rfl h (eZ rfl) (X 3 rfl h (eZ rfl) (X 8 rfl h (fe iB rfl) (PJ g (fun d7 E W => ∃ c0, ST true fY w W (hp w) ((B, Ol (eO s) 26) :: ((N, Obj.cells a0 26 (0, 0)) :: c0)) ∧ E 1 = o ∧ E 3 = p ∧ E 4 = (.bool q) ∧ E 29 = m7 ∧ E 35 = (.bool d7) ∧ E 36 = (.pointer (some ⟨B, 4, none⟩))) (bm 11 511) 2 ?_ (fun d7 G a3 => ?_)))))))
   ·rintro m0 E W ⟨c0, d, h5, h6, k7, h7, h8, h9⟩ f2
    refine XO 9 rfl (fD m7 j2 d h9 h7 aY (lh a.B) nb rfl (fun j5 d => ?_))
    have h := d.has.eS (Db (Kb Sn))
    refine ⟨h, (X 10 rfl h (fO h8) (jo kr (gF (fj ?_))))⟩
    obtain rfl := sj f2
    exact ⟨_, rfl, _, (d.eS St), h5, h6, rfl⟩
   refine bC G (fun t G => ?_) (fun t G => ?_)
   ·refine Xg 4 rfl rfl (cB t) h (fe iB rfl) (yn 5 rfl rfl (cB t) h (fun _ n => eU rfl (fh n Mh (fz a.B) rfl bT aY)) (bS G fun l1 g0 G => ym 6 rfl rfl (cB t) (Eg d call48 (kE a.B _ _  g0) (fun j6 d => ?_))))
    have h := d.has.eS (Db (Kb Sn))
    refine ⟨h, (X 7 rfl h (ft (cB t) rfl) ?_)⟩
    obtain rfl := sj G
    refine qJ kr (a3 _ _ ⟨_, (d.eS St), rfl, rfl, rfl, rfl, rfl, rfl⟩)
   refine Xn 4 rfl rfl (cB t) h (Xn 5 rfl rfl (cB t) h (Xn 6 rfl rfl (cB t) h (X 7 rfl h (fq (cB t) rfl) ?_)))
   obtain rfl := sj G
   refine qJ kr (a3 _ _ ⟨_, (d.eS St), rfl, rfl, rfl, rfl, rfl, rfl⟩)
  refine sg (Wi rfl (Wa (ln (CI g rfl (fun e7 g => ?_) (fun e7 g => ?_)))))
  ·refine fm ?_
   replace d := d.drew
   have h := d.has.eS (Db (Kb Sn))
   refine gU h gW (X 0 rfl h (fe iB rfl) (XH 1 rfl h (fun _ n => eU rfl (fh n Mh (fz a.B) rfl bT aY)) (X 2 rfl h (fe px rfl) (XH 3 rfl h (fun _ n => eU rfl (fx n Mh rfl bF)) (X 4 rfl h (fe iB rfl) (XO 5 rfl (fD m7 j2 d rfl rfl aY (lh a.B) nb rfl (fun j7 d => ?_))))))))
   have h := d.has.eS (Db (Kb Sn))
   refine ⟨h, (X 6 rfl h (fe px rfl) (XO 7 rfl (fD (.string a.eX) ((eO m8).toArray) d rfl rfl ee (vO a.eX) nb rfl (fun j8 d => ?_))))⟩
   have h := d.has.eS (Db (Kb Sn))
   refine ⟨h, (jo kr (fj (eW (Wm (Wm (LJ g (fun e0 E W => ∃ c1, ST true fY w W (hp w) ((B, Obj.cells b8 26 (0, 0)) :: ((N, Obj.cells a0 26 (0, 0)) :: c1)) ∧ E 1 = o ∧ E 3 = p ∧ E 4 = (.bool q) ∧ E 50 = (.bool e0)) 4 ?_ (fun e0 I P => ?_)))))))⟩
   ·rintro m1 E W ⟨c1, d, U, c7, c8, i0⟩ f3
    refine Wh i0 (LJ f3 (fun d9 E W => ∃ c2, ST true fY w W (hp w) ((B, Obj.cells b8 26 (0, 0)) :: ((N, Obj.cells a0 26 (0, 0)) :: c2)) ∧ E 1 = o ∧ E 3 = p ∧ E 4 = (.bool q) ∧ E 59 = (.bool d9)) 8 ?_ (fun d9 T a5 => ?_))
    ·rintro m2 E W ⟨c2, d, A, c9, d0, i1⟩ f4
     refine Wh i1 (LJ f4 (fun d8 E W => ∃ c3, ST true fY w W (hp w) ((B, Obj.cells b8 26 (0, 0)) :: ((N, Obj.cells a0 26 (0, 0)) :: c3)) ∧ E 1 = o ∧ E 3 = p ∧ E 4 = (.bool q) ∧ E 64 = (.bool d8)) 4 ?_ (fun d8 H a4 => ?_))
     ·rintro m3 E W ⟨c3, d, i2, i3, k8, i4⟩ f5
      refine Wg i4 (fB (gF (fj ?_)))
      obtain rfl := sj f5
      exact ⟨_, rfl, _, (d.eS St), i2, i3, rfl⟩
     refine bC H (fun x H => ?_) (fun x H => ?_)
     ·refine ug x (fe px A) (ug x (eU rfl (fx d.has (Mt Mh) rfl bF)) (bS H fun l2 g1 H => lA x (Eg d call19 (jI a.eX _ _  g1) (fun j9 d => V (ft (cB x) rfl) ?_))))
      obtain rfl := sj H
      exact a4 _ _ ⟨_, (d.eS St), A, c9, d0, rfl⟩
     refine un x (un x (un x (V (fq (cB x) rfl) ?_)))
     obtain rfl := sj H
     exact a4 _ _ ⟨_, (d.eS St), A, c9, d0, rfl⟩
    refine bC T (fun c T => ?_) (fun c T => ?_)
    ·refine ug c (fe iB U) (ug c (fe mf rfl) (ug c (eU rfl (fx d.has (Mt Mh) rfl bF)) (ug c (fe nD U) (ug c (fe mf rfl) (ug c (eU rfl (fx d.has (Mt Mh) rfl bF)) (ug c (wi rfl rfl rfl) (V (ft (cB c) rfl) ?_)))))))
     obtain rfl := sj T
     exact a5 _ _ ⟨_, (d.eS St), U, c7, c8, rfl⟩
    refine un c (un c (un c (un c (un c (un c (un c (V (fq (cB c) rfl) ?_)))))))
    obtain rfl := sj T
    exact a5 _ _ ⟨_, (d.eS St), U, c7, c8, rfl⟩
   refine bC I (fun u I => ?_) (fun u I => ?_)
   ·refine ug u (fe iB rfl) (ug u (eU rfl (fh d.has (Mt Mh) (fz a.B) rfl bT aY)) (bS I fun l3 g2 I => lA u (Eg d call48 (kE a.B _ _  g2) (fun k0 d => V (ft (cB u) rfl) ?_))))
    obtain rfl := sj I
    exact P _ _ ⟨_, (d.eS St), rfl, rfl, rfl, rfl⟩
   refine un u (un u (un u (V (fq (cB u) rfl) ?_)))
   obtain rfl := sj I
   exact P _ _ ⟨_, (d.eS St), rfl, rfl, rfl, rfl⟩
  refine sg (Wi rfl (Wa (ln (CI g rfl (fun e8 g => ?_) (fun e8 g => ?_)))))
  ·refine fm ?_
   replace d := d.drew
   have h := d.has.eS (Db (Kb Sn))
   refine gU h gW (X 0 rfl h (fe iB rfl) (XH 1 rfl h (fun _ n => eU rfl (fh n Mh (fz a.B) rfl bT aY)) (X 2 rfl h (fe nC rfl) (XH 3 rfl h (fun _ n => eU rfl (fh n Mh (fz a.C) rfl bT aY)) (X 4 rfl h (fe iB rfl) (XO 5 rfl (fD m7 j2 d rfl rfl aY (lh a.B) nb rfl (fun k1 d => ?_))))))))
   have h := d.has.eS (Db (Kb Sn))
   refine ⟨h, (X 6 rfl h (fe nC rfl) (XO 7 rfl (fD (.agg (fz a.C).toArray) ((eO m9).toArray) d rfl rfl aY (lh a.C) nb rfl (fun k2 d => ?_))))⟩
   have h := d.has.eS (Db (Kb Sn))
   refine ⟨h, (jo kr (fj (eW (Wm (Wm (LJ g (fun e3 E W => ∃ c4, ST true fY w W (hp w) ((B, Obj.cells j1 26 (0, 0)) :: ((N, Obj.cells a0 26 (0, 0)) :: c4)) ∧ E 1 = o ∧ E 3 = p ∧ E 4 = (.bool q) ∧ E 78 = (.bool e3)) 4 ?_ (fun e3 M a9 => ?_)))))))⟩
   ·rintro m4 E W ⟨c4, d, F, d1, d2, i5⟩ f6
    refine Wh i5 (LJ f6 (fun e2 E W => ∃ c5, ST true fY w W (hp w) ((B, Obj.cells j1 26 (0, 0)) :: ((N, Obj.cells a0 26 (0, 0)) :: c5)) ∧ E 1 = o ∧ E 3 = p ∧ E 4 = (.bool q) ∧ E 83 = (.bool e2)) 4 ?_ (fun e2 K a8 => ?_))
    ·rintro m5 E W ⟨c5, d, Y, d3, d4, i6⟩ f7
     refine Wh i6 (LJ f7 (fun e1 E W => ∃ c6, ST true fY w W (hp w) ((B, Obj.cells j1 26 (0, 0)) :: ((N, Obj.cells a0 26 (0, 0)) :: c6)) ∧ E 1 = o ∧ E 3 = p ∧ E 4 = (.bool q) ∧ E 91 = (.bool e1)) 7 ?_ (fun e1 J R => ?_))
     ·rintro m6 E W ⟨c6, d, i7, i8, k9, i9⟩ f8
      refine Wg i9 (fB (gF (fj ?_)))
      obtain rfl := sj f8
      exact ⟨_, rfl, _, (d.eS St), i7, i8, rfl⟩
     refine bC J (fun i J => ?_) (fun i J => ?_)
     ·refine ug i (fe iB Y) (ug i (eU rfl (fh d.has (Mt Mh) (fz a.B) rfl bT aY)) (ug i (fe nC Y) (ug i (eU rfl (fh d.has (Mt Mh) (fz a.C) rfl bT aY)) (bS J fun l4 g3 J => lA i (Eg d call49 (sn a.B a.C _ _  g3) (fun k3 d => ug i (gi rfl rfl rfl) (V (ft (cB i) rfl) ?_)))))))
      obtain rfl := sj J
      exact R _ _ ⟨_, (d.eS St), Y, d3, d4, rfl⟩
     refine un i (un i (un i (un i (un i (un i (V (fq (cB i) rfl) ?_))))))
     obtain rfl := sj J
     exact R _ _ ⟨_, (d.eS St), Y, d3, d4, rfl⟩
    refine bC K (fun z K => ?_) (fun z K => ?_)
    ·refine ug z (fe nC F) (ug z (eU rfl (fh d.has (Mt Mh) (fz a.C) rfl bT aY)) (bS K fun l5 g4 K => lA z (Eg d call48 (kE a.C _ _  g4) (fun k4 d => V (ft (cB z) rfl) ?_))))
     obtain rfl := sj K
     exact a8 _ _ ⟨_, (d.eS St), F, d1, d2, rfl⟩
    refine un z (un z (un z (V (fq (cB z) rfl) ?_)))
    obtain rfl := sj K
    exact a8 _ _ ⟨_, (d.eS St), F, d1, d2, rfl⟩
   refine bC M (fun y M => ?_) (fun y M => ?_)
   ·refine ug y (fe iB rfl) (ug y (eU rfl (fh d.has (Mt Mh) (fz a.B) rfl bT aY)) (bS M fun l6 g5 M => lA y (Eg d call48 (kE a.B _ _  g5) (fun k5 d => V (ft (cB y) rfl) ?_))))
    obtain rfl := sj M
    exact a9 _ _ ⟨_, (d.eS St), rfl, rfl, rfl, rfl⟩
   refine un y (un y (un y (V (fq (cB y) rfl) ?_)))
   obtain rfl := sj M
   exact a9 _ _ ⟨_, (d.eS St), rfl, rfl, rfl, rfl⟩
  refine sg (Wa (ln ?_))
  replace d := d.eS (Db (Db St))
  refine gq (kI (ga ?_))
  obtain rfl := sj g
  replace Z : some false = some r := Z
  obtain rfl := sj Z
  exact rP d
 rintro ⟨l7, e4⟩ E W ⟨b6, d, g6, g7, g8⟩ e9
 refine sg (Wh g8 (Wm (LJ e9 (fun d5 E W => ∃ b7, ST true fY w W (hp w) b7 ∧ E 97 = (.bool d5)) 4 ?_ (fun d5 Q O => ?_))))
 ·rintro l8 E W ⟨b7, d, g9⟩ f0
  exact Wg g9 (lt (rQ f0 d))
 refine bC Q (fun j Q => ?_) (fun j Q => ?_)
 ·refine ug j (eU g7 (fh d.has Mh (eO e4) rfl bj aC)) (ug j (eU g6 (fh d.has (Mt Mh) (eO a) rfl bj aC)) (ug j (tC rfl rfl (nq dF) (qD (om _ e4 a))) (V (ft (cB j) rfl) ?_)))
  obtain rfl := sj Q
  exact O _ _ ⟨_, (d.eS (Db (Db St))), rfl⟩
 refine un j (un j (un j (V (fq (cB j) rfl) ?_)))
 obtain rfl := sj Q
 exact O _ _ ⟨_, (d.eS (Db (Db St))), rfl⟩
theorem nr (t : Value) (K : Option fG) (a : eH) (r : ((List Int) × Int)) (w : World) {J : eV} (Y : jL J [] w) (c : kp fN J t K) (hm : jb K a = some r) :
  gm true Try.prog 21 [t, (.agg (eO a).toArray)] w J [] (fun v U Z => ∃ T, v = (.tuple #[T, (.int .i64 (r.2))]) ∧ U = [] ∧ Sl (Pl (eQ .u8)) 1 Z T (r.1)) := by
 refine zF Y 29 func21 rfl (fun d => sg (VE (iM d rfl (fun W2 s d => Wa (Wa (ln (fm (bg (Wm (V (pG underlying30 c rfl rfl) (Wa ?_)))))))))))
 refine ln (CI hm rfl (fun M hm => ?_) (fun M hm => ?_))
 ·refine sg (Wa (Wa (ln ?_)))
  replace d := d.eS (Db St)
  refine gq (kI (ga ?_))
  obtain rfl := sj hm
  exact ny (v := (.slice none 0 0)) (u := (.int .i64 1)) rfl rfl rfl ⟨_, _, _, rfl, (d.fR Sn), (eT.refl _), Lo.refl, (ST.fl d (fM.mem Sn)), (.slice none 0 0), rfl, rfl, (Sl.nil _ _ _)⟩
 refine sg (VA d Mh (eO a) bj aC (bS hm fun A Q hm => VE (Eg d call25 (lI a _ _  Q) (fun W6 d => V (ly rfl) (Wa (ln (CI hm rfl (fun N hm => ?_) (fun N hm => ?_))))))))
 ·refine sg (Wa (Wa (ln ?_)))
  replace d := d.eS (Db St)
  refine gq (kI (ga ?_))
  obtain rfl := sj hm
  exact ny (v := (.slice none 0 0)) (u := (.int .i64 11)) rfl rfl rfl ⟨_, _, _, rfl, (d.fR Sn), (eT.refl _), Lo.refl, (ST.fl d (fM.mem Sn)), (.slice none 0 0), rfl, rfl, (Sl.nil _ _ _)⟩
 refine gH (gF (fj (fm ?_)))
 replace d := d.drew
 have h := d.has.eS (Kb Sn)
 refine gU h gW (X 0 rfl h (eZ rfl) (bS hm fun a5 I hm => XQ 1 rfl h (pN fN.out c I rfl) (fun a3 ⟨_, ⟨x, rfl, H⟩, D⟩ => XQ 2 rfl h (oO [x] rF rfl D rfl) (fun a4 G => XH 3 rfl h (fun _ p => eU rfl (kP p (y := x) G isAgg58)) (X 4 rfl h (fe nD rfl) (X 5 rfl h (fe mf rfl) (XH 6 rfl h (fun _ p => eU rfl (fx p Mh rfl bF)) ?_)))))))
 obtain ⟨j, a2, g, i⟩ := H
 refine XH 7 rfl h (fun _ p => pq (k := a.Head.eJ) (z := (.slice none 0 0)) zm underlying58 zeroValue34 rfl rfl g (fun b o q => p.1 b o (i b o q))) (X 8 rfl h (eZ rfl) (X 9 rfl h (iv rfl rfl) (X 10 rfl h (iv rfl rfl) (X 11 rfl h (fO rfl) (X 12 rfl h (fO rfl) (jo kr (fj ?_)))))))
 replace d := d.eS (Db St)
 refine fm (sg (Wm (V (ly rfl) (ln (CI hm rfl (fun B hm => ?_) (fun B hm => ?_))))))
 ·refine sg (Wa (Wa (lt (ga ?_))))
  obtain rfl := sj hm
  exact ny (v := (.slice none 0 0)) (u := (.int .i64 21)) rfl rfl rfl ⟨_, _, _, rfl, (d.fR Sn), (eT.refl _), Lo.refl, (ST.fl d (fM.mem Sn)), (.slice none 0 0), rfl, rfl, (Sl.nil _ _ _)⟩
 refine kg (Wm (Wa (Wa (lt ?_))))
 obtain rfl := sj hm
 exact ny (v := (kM fF j a.Head.eJ (.slice none 0 0))) (u := (.int .i64 0)) rfl rfl rfl ⟨_, _, _, rfl, (d.fR Sn), (eT.refl _), Lo.refl, (ST.fl d (fM.mem Sn)), (kM fF j a.Head.eJ (.slice none 0 0)), rfl, rfl, (gY.AV (enc := (eQ .u8)) (n := 1) (fun _ => rfl) gr.1 g a.Head.eJ i)⟩
theorem mX (t : Nat) (j : Value) (G : List Int) (i : LO) (h : Int) (r : (Bool × (List Int))) (w : World) {μ0 : eV} (s : jL μ0 ((t, Ob #[j] 43) :: (i ++ [])) w) (y : fp 5 (eQ .u8) 1 j G i) (hm : iP G h = some r) :
  fX true Try.prog 39 [(.pointer (some ⟨t, 0, none⟩)), (.int .i64 h)] w ((t, Ob #[j] 43) :: (i ++ [])) (fun v L1 W' => ∃ n S2, v = (.bool (r.1)) ∧ L1 = ((t, Ob #[n] 43) :: (S2 ++ [])) ∧ fp 5 (eQ .u8) 1 n r.2 S2) := by
 refine sR s 38 func39 rfl (fun d => sg (Wa (lS (Wm (V (jB dj rfl rfl) (Wm (Vg rfl rfl (eZ rfl) (Vg rfl rfl (gi rfl rfl rfl) (V (fq rfl rfl) ?_)))))))))
 refine ln (CI hm rfl (fun a9 hm => ?_) (fun a9 hm => ?_))
 ·refine sg (Wa (lt (ga ?_)))
  obtain rfl := sj hm
  exact fL (v := (.bool false)) rfl rfl ⟨_, _, rfl, (d.fR (Kb (Kr Sn))), j, i, rfl, rfl, y⟩
 refine kn (fm (kq (nV (fun m E W => ∃ c z U u a0, ST true (keys ((t, Ob #[j] 43) :: (i ++ []))) w W μ0 ((t, Ob #[z] 43) :: (u ++ a0)) ∧ E 0 = (.pointer (some ⟨t, 0, none⟩)) ∧ E 1 = (.int .i64 c) ∧ fp 5 (eQ .u8) 1 z U u ∧ gZ m c U = some r) iu ⟨h, j, G, i, _, (d.eS St), rfl, rfl, y, hm⟩ ?_)))
 rintro m E W ⟨c, z, U, u, a0, d, x, K, T, g⟩
 cases m with
 | zero => rw [gZ] at g; cases g
 | succ q =>
  refine fm (sg (Wh K (Wi rfl (ln (CI g rfl (fun o g => ?_) (fun o g => ?_))))))
  ·refine kn (fm (kq (eW (Wh x (Wh x (Wn (Wf mI (VB d Mh rfl rfl bU (Wh K (V (mF (k' := .i64) (a := c) ef bI rfl) (V (yz (k := .u8) (a := (IntKind.u8.wrap c)) (b := 128) (v := (.int .u8 (IntKind.u8.wrap (BitVec.ofInt (IntKind.bits .u8) (IntKind.u8.wrap c) ||| BitVec.ofInt (IntKind.bits .u8) 128).toNat))) rfl rfl dc rfl) (VE (fJ (cs := [(.int .u8 (IntKind.u8.wrap (BitVec.ofInt (IntKind.bits .u8) (IntKind.u8.wrap c) ||| BitVec.ofInt (IntKind.bits .u8) 128).toNat))].toArray) d (jc rfl) (mj az cX dE) (fun c3 p d => ?_))))))))))))))
   replace d := d.perm (Nr (Qb (Qb Qz)) Nz)
   refine bS g fun Q Y g => VE (mx (enc := (eQ .u8)) (v := z) (vs := (.slice (some ⟨p, 0, none⟩) 1 1)) (R := u) d (fun _ => rfl) dc (sL _) az iy.1 iy.2.1 rfl iy.2.2.1 iy.2.2.2 rfl rfl T (Sl.lit (enc := (eQ .u8)) (l := [(IntKind.u8.wrap (BitVec.ofInt (IntKind.bits .u8) (IntKind.u8.wrap c) ||| BitVec.ofInt (IntKind.bits .u8) 128).toNat)]) (fun _ => rfl) rfl nb rfl (d.at_ (Ma Mh))) Y (fun A c1 a2 d M => Wn (Wf mI ?_)))
   obtain ⟨B, H, rfl⟩ := M.form
   replace d := d.perm (Nb (Pr (Pb Pz)) Nz)
   refine VO (fD (.slice B Q.length H) (#[(.slice B Q.length H)]) d rfl rfl df oc nb rfl (fun F d => fB (gF (fj ?_))))
   replace d := d.eS (Kb (Kr (Db St)))
   exact eW (Wh K (V (yt (a := c) (b := 7) rfl rfl dc) (Wa (ln ⟨q, cK _, (Int.fdiv c (2 ^ min (Int.toNat 7) (IntKind.bits .i64))), (.slice B Q.length H), Q, a2, _, (d.eS St), x, rfl, M, g⟩))))
  refine nU (nG (nG (st (fj (sg (Wh x (Wh x (Wn (Wf mI (VB d Mh rfl rfl bU (Wh K (V (mF (k' := .i64) (a := c) ef bI rfl) (VE (fJ (cs := [(.int .u8 (IntKind.u8.wrap c))].toArray) d (jc rfl) (mj az cX dE) (fun L a5 d => ?_)))))))))))))))
  replace d := d.perm (Nr (Qb (Qb Qz)) Nz)
  refine bS g fun J Z g => VE (mx (enc := (eQ .u8)) (v := z) (vs := (.slice (some ⟨a5, 0, none⟩) 1 1)) (R := u) d (fun _ => rfl) dc (sL _) az iy.1 iy.2.1 rfl iy.2.2.1 iy.2.2.2 rfl rfl T (Sl.lit (enc := (eQ .u8)) (l := [(IntKind.u8.wrap c)]) (fun _ => rfl) rfl nb rfl (d.at_ (Ma Mh))) Z (fun O c2 a3 d N => Wn (Wf mI ?_)))
  obtain ⟨D, I, rfl⟩ := N.form
  replace d := d.perm (Nb (Pr (Pb Pz)) Nz)
  refine VO (fD (.slice D J.length I) (#[(.slice D J.length I)]) d rfl rfl df oc nb rfl (fun P d => ln ?_))
  replace d := d.eS (Kb (Kr (Db St)))
  refine sg (Wa (lt ?_))
  obtain rfl := sj g
  exact fL (v := (.bool true)) rfl rfl ⟨_, _, rfl, (d.fR (Kb (Kr Sn))), (.slice D J.length I), a3, rfl, rfl, N⟩
theorem nN (g : Nat) (c : Value) (j : List Int) (a : LO) (u : Value) (D : List Int) (r : (Bool × (List Int))) (w : World) {Z : eV} (n : jL Z ((g, Ob #[c] 43) :: (a ++ [])) w) (i : fp 5 (eQ .u8) 1 c j a) (k : Sl (Pl (eQ .u8)) 1 Z u D) (hm : jw j D = some r) :
  fX true Try.prog 27 [(.pointer (some ⟨g, 0, none⟩)), u] w ((g, Ob #[c] 43) :: (a ++ [])) (fun v L1 W' => ∃ U M, v = (.bool (r.1)) ∧ L1 = ((g, Ob #[U] 43) :: (M ++ [])) ∧ fp 5 (eQ .u8) 1 U r.2 M) := by
 refine sR n 25 func27 rfl (fun d => sg (Wa (lS (Wm (V (jB dj rfl rfl) (Wm (Vg rfl rfl (eZ rfl) (Vg rfl rfl (gX az rfl k) (Vg rfl rfl (gi rfl rfl rfl) ?_)))))))))
 refine V (fq rfl rfl) (ln (CI hm rfl (fun Q hm => ?_) (fun Q hm => ?_)))
 ·refine sg (Wa (lt (ga ?_)))
  obtain rfl := sj hm
  exact fL (v := (.bool false)) rfl rfl ⟨_, _, rfl, (d.fR (Kb (Kr Sn))), c, a, rfl, rfl, i⟩
 refine kg (Wm (Wm (V (gX az rfl k) (bS hm fun A T hm => ?_))))
 refine VE (eM d (Cb Pz (Cr Qz Cn)) call39 (fun o _ => (mX g c j a (D.length : Int) _ _ o i T)) ?_)
 rintro _ E q a3 d H p h ⟨Y, K, t, rfl, I⟩
 obtain rfl := t.symm
 replace d := d.perm (Tb (Tr Tn))
 refine lr (Wm (Wm (Wn (Wf mI (VB d Mh rfl rfl bU (Wm ?_))))))
 replace d := d.perm (Nr (Qb Qz) Nz)
 refine bS hm fun B G hm => VE (mx (enc := (eQ .u8)) (v := Y) (vs := u) (R := K) d (fun _ => rfl) dc (sL _) az iy.1 iy.2.1 rfl iy.2.2.1 iy.2.2.2 rfl rfl I (k.mono (Pl.mono _) (H.trans d.fw)) G (fun a4 s J d z => Wn (Wf mI ?_)))
 obtain ⟨x, y, rfl⟩ := z.form
 replace d := d.perm (Nb (Pr Pz) Nz)
 refine VO (fD (.slice x B.length y) (#[(.slice x B.length y)]) d rfl rfl df oc nb rfl (fun a5 d => lr (Wa (lt ?_))))
 obtain rfl := sj hm
 exact fL (v := (.bool true)) rfl rfl ⟨_, _, rfl, (d.fR (Kb (Kr Sn))), (.slice x B.length y), J, rfl, rfl, z⟩
theorem mN (j : Nat) (c : Value) (t : List Int) (a : LO) (J : ByteArray) (r : (Bool × (List Int))) (w : World) {Z : eV} (K : jL Z ((j, Ob #[c] 43) :: (a ++ [])) w) (k : fp 5 (eQ .u8) 1 c t a) (hm : jM t J = some r) :
  fX true Try.prog 41 [(.pointer (some ⟨j, 0, none⟩)), (.string J)] w ((j, Ob #[c] 43) :: (a ++ [])) (fun v L1 W' => ∃ q S2, v = (.bool (r.1)) ∧ L1 = ((j, Ob #[q] 43) :: (S2 ++ [])) ∧ fp 5 (eQ .u8) 1 q r.2 S2) := by
 refine sR K 17 func41 rfl (fun d => sg (Wa (lr (Wm (V (pJ dj rfl rfl) (Wm (Vg rfl rfl (eZ rfl) (bS hm fun r1 a4 hm => qT rfl rfl (Eg d call19 (jI J _ _  a4) (fun W3 d => V (ft rfl rfl) ?_))))))))))
 refine Wm (LJ hm (fun B E W => ∃ z x D I, eT Z D ∧ ST true (keys ((j, Ob #[c] 43) :: (a ++ []))) w W D ((j, Ob #[z] 43) :: (x ++ I)) ∧ E 4 = (.bool false) ∧ E 16 = (.bool B.1) ∧ fp 5 (eQ .u8) 1 z B.2 x) 5 ?_ (fun B g y => ?_))
 ·rintro ⟨A, c0⟩ E W ⟨z, x, D, I, O, d, b9, a3, T⟩ M
  refine Wg a3 (lt ?_)
  obtain rfl := sj M
  exact fL (v := (.bool A)) rfl rfl ⟨_, _, rfl, (d.fR (Kb (Kr Sn))), z, x, rfl, rfl, T⟩
 refine bC g (fun i g => ?_) (fun i g => ?_)
 ·refine ug i (eZ rfl) (ug i (eZ rfl) (bS g fun a5 N g => lA i (sY d aZ az bI rfl N (fun b6 s c3 d G o U P => bS g fun c1 Q g => ?_))))
  refine lA i (eM d (Cb Pz (Cr Qz Cn)) call27 (fun L n => (nN j c t a s a5 _ _ L k (U.mono (Pl.mono _) n) Q)) ?_)
  rintro _ c2 F R d H p h ⟨a9, a2, u, rfl, Y⟩
  obtain rfl := u.symm
  replace d := d.perm (Tb (Tr Tn))
  refine V (ft (cB i) rfl) ?_
  obtain rfl := sj g
  exact y _ _ ⟨a9, a2, F, _, (G.trans H), (d.eS St), rfl, rfl, Y⟩
 refine un i (un i (un i (un i (V (fq (cB i) rfl) ?_))))
 obtain rfl := sj g
 exact y _ _ ⟨c, a, Z, _, (eT.refl _), (d.eS St), rfl, rfl, k⟩
theorem lH (c : Nat) (i : Value) (D : List Int) (a : LO) (x : fg) (r : (Bool × (List Int))) (w : World) {μ0 : eV} (h0 : jL μ0 ((c, Ob #[i] 43) :: (a ++ [])) w) (y : fp 5 (eQ .u8) 1 i D a) (hm : iz D x = some r) :
  fX true Try.prog 40 [(.pointer (some ⟨c, 0, none⟩)), (.agg (fz x).toArray)] w ((c, Ob #[i] 43) :: (a ++ [])) (fun v L1 W' => ∃ A S2, v = (.bool (r.1)) ∧ L1 = ((c, Ob #[A] 43) :: (S2 ++ [])) ∧ fp 5 (eQ .u8) 1 A r.2 S2) := by
 let o := ((c, Ob #[i] 43) :: (a ++ []))
 refine sR h0 23 func40 rfl (fun d => sg (VE (iM d rfl (fun W2 p d => Wa (lr (Wm (V (pJ dj rfl rfl) (Wm (Vg rfl rfl (eU rfl (fh d.has Mh (fz x) rfl bT aY)) (bS hm fun r3 c4 hm => qT rfl rfl (Eg d call48 (kE x _ _  c4) (fun W5 d => ?_))))))))))))
 refine V (ft rfl rfl) (Wm (LJ hm (fun T E W => ∃ z u B a0, eT μ0 B ∧ ST true (keys o) w W B ((p, Ol (fz x) 24) :: ((c, Ob #[z] 43) :: (u ++ a0))) ∧ E 0 = (.pointer (some ⟨c, 0, none⟩)) ∧ E 3 = (.pointer (some ⟨p, 0, none⟩)) ∧ E 4 = (.bool false) ∧ E 16 = (.bool T.1) ∧ fp 5 (eQ .u8) 1 z T.2 u) 5 ?_ (fun T t K => ?_)))
 ·rintro ⟨e6, c5⟩ E W ⟨z, u, B, a0, d2, d, c0, c1, a3, c2, N⟩ F
  refine Wh c2 (LJ F (fun Q E W => ∃ M I U a2, eT B U ∧ ST true (keys o) w W U ((c, Ob #[M] 43) :: (I ++ a2)) ∧ E 4 = (.bool false) ∧ E 22 = (.bool Q.1) ∧ fp 5 (eQ .u8) 1 M Q.2 I) 5 ?_ (fun Q k J => ?_))
  ·rintro ⟨c6, e1⟩ E W ⟨M, I, U, a2, d3, d, e0, c3, P⟩ L
   refine Wg c3 (lt ?_)
   obtain rfl := sj L
   exact fL (v := (.bool c6)) rfl rfl ⟨_, _, rfl, (d.fR (Kb (Kr Sn))), M, I, rfl, rfl, P⟩
  refine bC k (fun g k => ?_) (fun g k => ?_)
  ·refine ug g (eZ c0) (ug g (fe ob c1) (ug g (eU rfl (fx d.has Mh rfl bF)) (bS k fun e2 O k => ?_)))
   refine lA g (eM d (Cb (Pb Pz) (Cr (Qb Qz) Cn)) call41 (fun n _ => (mN c z c5 u x.eK _ _ n N O)) ?_)
   rintro _ e4 d0 d6 d Y q h ⟨c8, b6, G, rfl, R⟩
   obtain rfl := G.symm
   replace d := d.perm (Tb (Tr Tn))
   refine V (ft (cB g) rfl) ?_
   obtain rfl := sj k
   exact J _ _ ⟨c8, b6, d0, _, Y, (d.eS (Kb (Kr (Db St)))), a3, rfl, R⟩
  refine un g (un g (un g (un g (V (fq (cB g) rfl) ?_))))
  obtain rfl := sj k
  exact J _ _ ⟨z, u, B, _, (eT.refl _), (d.eS (Db St)), a3, rfl, N⟩
 refine bC t (fun j t => ?_) (fun j t => ?_)
 ·refine ug j (eZ rfl) (ug j (fe mf rfl) (ug j (eU rfl (fx d.has Mh rfl bF)) (bS t fun e3 a9 t => ?_)))
  refine lA j (eM d (Cb (Pb Pz) (Cr (Qb Qz) Cn)) call41 (fun n _ => (mN c i D a x.eJ _ _ n y a9)) ?_)
  rintro _ e5 d1 d7 d Z s h ⟨c9, b7, H, rfl, b3⟩
  obtain rfl := H.symm
  replace d := d.perm (Tb (Tr Tn))
  refine V (ft (cB j) rfl) ?_
  obtain rfl := sj t
  exact K _ _ ⟨c9, b7, d1, _, Z, (d.eS (Sb (Pb (Pr Pz)) St)), rfl, rfl, rfl, rfl, b3⟩
 refine un j (un j (un j (un j (V (fq (cB j) rfl) ?_))))
 obtain rfl := sj t
 exact K _ _ ⟨i, a, μ0, _, (eT.refl _), (d.eS St), rfl, rfl, rfl, rfl, y⟩
theorem mD (g : Nat) (a : Value) (c r : List Int) (w : World) (j : Sl (Pl (eQ .u8)) 1 (hp w) a c) (k : At (hp w) (.pointer (some ⟨g, 0, none⟩)) [a]) (hm : iq c = some r) :
  gu true Try.prog 12 [(.pointer (some ⟨g, 0, none⟩))] w 5 (eQ .u8) 1 r := by
 refine sh 10 func12 rfl (fun d => sg (Wa (lS (Wm (V (jB dj rfl rfl) (ln (jD rfl (gH ?_))))))))
 refine fj (sg (Wm (Wn (VQ (oO [a] mI rfl k rfl) (fun G u => V (eU rfl (kP d.has (y := a) u bU)) (bS hm fun H x hm => VE (mh d call20 (mm a c _ _ (j.mono (Pl.mono _) d.fw) x) (fun D z I t d B h i => Wa (lt ?_)))))))))
 obtain rfl := sj hm
 exact fL (v := z) rfl rfl ⟨_, t, rfl, d.jF (fun p n => (Ml n)) i.nd, i⟩
theorem lM (c : eH) (r : List Int) (w : World) (hm : ic c = some r) :
  gu true Try.prog 23 [(.agg (eO c).toArray)] w 5 (eQ .u8) 1 r := by
 refine sh 53 func23 rfl (fun d => sg (VE (iM d rfl (fun W2 b1 d => Wa (lS (VA d Mh (eO c) bj aC (bS hm fun r3 g3 hm => VE (Eg d call25 (lI c _ _  g3) (fun W5 d => V (ly rfl) (fB ?_))))))))))
 refine fj (CI hm rfl (fun g0 hm => ?_) (fun g0 hm => ?_))
 ·refine sg (Wa (ln ?_))
  replace d := d.eS (Db St)
  refine gq (ga ?_)
  obtain rfl := sj hm
  exact fL (v := (.slice none 0 0)) rfl rfl ⟨_, [], rfl, d.jF (fun p q => by cases q) (by simp), fp.nil _ _ _⟩
 refine kg (V (gI (v := (.agg #[(.slice none 0 0)])) nz (fT zeroValue43 cN (yd _ cN) kr)) (VE (iM d rfl (fun W8 g d => Wa (lr (Wm (Wf nZ (VB d (Mt Mh) rfl rfl eu (bS hm fun r9 e2 hm => ?_)))))))))
 refine VE (eM d (Cb Pz (C0 Cn)) call39 (fun n _ => (mX g (.slice none 0 0) ([]) [] c.Kind _ _ n (fp.nil _ _ _) e2)) ?_)
 rintro _ k1 k3 j7 d g5 a6 h ⟨g4, f9, I, rfl, e4⟩
 obtain rfl := I.symm
 replace d := d.perm (Tb (Tr Tn))
 refine lr (Wm (Wf nD (VA d (Mt (Ma Mh)) (fz c.Head) bT aY (bS hm fun N e3 hm => ?_))))
 refine VE (eM d (Cb Pz (Cr Qz Cn)) call40 (fun n _ => (lH g g4 r9.2 f9 c.Head _ _ n e4 e3)) ?_)
 rintro _ k2 d1 j8 d g6 a7 h ⟨G, D, J, rfl, i⟩
 obtain rfl := J.symm
 replace d := d.perm (Tb (Tr Tn))
 refine ln (fm (CJ hm (fun a3 E W => ∃ B H K Q, eT d1 K ∧ ST true fY w W K ((g, Ob #[B] 43) :: (H ++ Q)) ∧ E 3 = (.pointer (some ⟨g, 0, none⟩)) ∧ fp 5 (eQ .u8) 1 B a3 H) (fun a3 a => ?_) ?_))
 ·refine sg (Wf nZ (VB d (Mt (Ma Mh)) rfl rfl eu (ln (bg (Wi rfl (Wa (ln (CI a rfl (fun b0 a => ?_) (fun b0 a => ?_)))))))))
  ·refine eW (Wm (Wf pg (VB d (Mt (Ma Mh)) rfl rfl bF (bS a fun i1 b6 a => ?_))))
   refine VE (eM d (Cb Pz (Cr Qz Cn)) call41 (fun n _ => (mN g G N.2 D c.fa _ _ n i b6)) ?_)
   rintro _ i6 f5 g7 d T A h ⟨e9, d3, k, rfl, c5⟩
   obtain rfl := k.symm
   replace d := d.perm (Tb (Tr Tn))
   refine fB (gF (fj ?_))
   obtain rfl := sj a
   exact ⟨e9, d3, f5, _, T, (d.eS (Kb (Kr (Db St)))), rfl, c5⟩
  refine sg (Wi rfl (Wa (ln (CI a rfl (fun b2 a => ?_) (fun b2 a => ?_)))))
  ·refine eW (Wm (Wf iB (VA d (Mt (Ma Mh)) (fz c.B) bT aY (bS a fun i2 b9 a => ?_))))
   refine VE (eM d (Cb Pz (Cr Qz Cn)) call40 (fun n _ => (lH g G N.2 D c.B _ _ n i b9)) ?_)
   rintro _ i7 f6 g8 d U F h ⟨f0, d4, t, rfl, c6⟩
   obtain rfl := t.symm
   replace d := d.perm (Tb (Tr Tn))
   refine fB (gF (fj ?_))
   obtain rfl := sj a
   exact ⟨f0, d4, f6, _, U, (d.eS (Kb (Kr (Db St)))), rfl, c6⟩
  refine sg (Wi rfl (Wa (ln (CI a rfl (fun b3 a => ?_) (fun b3 a => ?_)))))
  ·refine sg (Wm (Wf iB (VA d (Mt (Ma Mh)) (fz c.B) bT aY (bS a fun e6 c0 a => ?_))))
   refine VE (eM d (Cb Pz (Cr Qz Cn)) call40 (fun n _ => (lH g G N.2 D c.B _ _ n i c0)) ?_)
   rintro _ i8 j5 g9 d Y L h ⟨f1, d5, u, rfl, c7⟩
   obtain rfl := u.symm
   replace d := d.perm (Tb (Tr Tn))
   refine ln (eW (Wm (Wf px (VB d (Mt (Ma Mh)) rfl rfl bF (bS a fun i3 c1 a => ?_)))))
   refine VE (eM d (Cb Pz (Cr Qz Cn)) call41 (fun n _ => (mN g f1 e6.2 d5 c.eX _ _ n c7 c1)) ?_)
   rintro _ i9 f7 h0 d Z O h ⟨f2, d6, x, rfl, c8⟩
   obtain rfl := x.symm
   replace d := d.perm (Tb (Tr Tn))
   refine fB (gF (fj ?_))
   obtain rfl := sj a
   exact ⟨f2, d6, f7, _, (Y.trans Z), (d.eS (Kb (Kr (Db St)))), rfl, c8⟩
  refine sg (Wi rfl (Wa (ln (CI a rfl (fun b4 a => ?_) (fun b4 a => ?_)))))
  ·refine sg (Wm (Wf iB (VA d (Mt (Ma Mh)) (fz c.B) bT aY (bS a fun e7 c2 a => ?_))))
   refine VE (eM d (Cb Pz (Cr Qz Cn)) call40 (fun n _ => (lH g G N.2 D c.B _ _ n i c2)) ?_)
   rintro _ j0 j6 h1 d a1 P h ⟨f3, d7, y, rfl, c9⟩
   obtain rfl := y.symm
   replace d := d.perm (Tb (Tr Tn))
   refine ln (eW (Wm (Wf nC (VA d (Mt (Ma Mh)) (fz c.C) bT aY (bS a fun i4 c3 a => ?_)))))
   refine VE (eM d (Cb Pz (Cr Qz Cn)) call40 (fun n _ => (lH g f3 e7.2 d7 c.C _ _ n c9 c3)) ?_)
   rintro _ j3 f8 h2 d a2 R h ⟨f4, d8, z, rfl, d0⟩
   obtain rfl := z.symm
   replace d := d.perm (Tb (Tr Tn))
   refine fB (gF (fj ?_))
   obtain rfl := sj a
   exact ⟨f4, d8, f8, _, (a1.trans a2), (d.eS (Kb (Kr (Db St)))), rfl, d0⟩
  refine gH (gF (fj ?_))
  obtain rfl := sj a
  exact ⟨G, D, d1, _, (eT.refl _), (d.eS (Kb (Kr (Db St)))), rfl, i⟩
 rintro e5 E W ⟨B, H, K, Q, g1, d, d9, c4⟩ j
 refine sg (Wh d9 (bS j fun i0 b5 j => VE (mh d call12 (mD g B e5 _ _ (c4.sl (fun _ => rfl) (fun b o q => d.at_ (Mt (Ml q)))) (At.of (d.at_ Mh) _ rfl) b5) (fun h3 e8 j4 d2 d g2 s M => Wa (ln ?_)))))
 replace d := d.eS (Kr (Db (Dr St)))
 refine gq ?_
 obtain rfl := sj j
 exact fL (v := e8) rfl rfl ⟨_, d2, rfl, d.jF (fun p q => (Ml q)) M.nd, M⟩
theorem qQ (j : Value) (t : List Int) (r : Bool) (w : World) (i : Sl (Pl (eQ .u8)) 1 (hp w) j t) (hm : iU t = some r) :
  fQ true Try.prog 37 [j] w (.bool r) := by
 refine cG 11 func37 rfl (fun d => sg (Wa (lr (Wm (V (gX az rfl i) (Wi rfl (Wm (LJ hm (fun x E W => ∃ k, ST true fY w W (hp w) k ∧ E 2 = (.bool false) ∧ E 10 = (.bool x)) 4 ?_ (fun x c g => ?_)))))))))
 ·rintro B E W ⟨k, d, z, y⟩ u
  exact Wg y (lt (rQ u d))
 refine bC c (fun a c => ?_) (fun a c => ?_)
 ·refine ug a (eZ rfl) (ug a (gX az rfl i) (ug a (gi rfl rfl rfl) (V (ft (cB a) rfl) ?_)))
  obtain rfl := sj c
  exact g _ _ ⟨_, (d.eS St), rfl, rfl⟩
 refine un a (un a (un a (V (fq (cB a) rfl) ?_)))
 obtain rfl := sj c
 exact g _ _ ⟨_, (d.eS St), rfl, rfl⟩
theorem wL (u : Value) (H : List (List Int)) (r : Int) (w : World) (U : Sl (uE (eQ .u8) 1) 1 (hp w) u H) (hm : qg H = some r) :
  fQ true Try.prog 38 [u] w (.int .u64 r) := by
 refine cG 28 func38 rfl (fun d => sg (Wa (lr (Wa (lS (Wm ?_))))))
 refine V (gX underlying103 rfl U) (Wm (ln (jN (fun i E W => ∃ x D, (E 10 = .int .i64 (i : Nat) ∧ E 9 = .int .i64 (H.length : Nat)) ∧ ST true fY w W (hp w) D ∧ E 3 = (.int .u64 x) ∧ E 8 = u ∧ lJ (H.drop i) x = some r) H.length U.len ⟨14695981039346656037, _, ⟨rfl, rfl⟩, (d.eS St), rfl, rfl, hm⟩ dc dc dc (fun _ _ _ h => by obtain ⟨_, _, o, _⟩ := h; exact o) ?_ ?_)))
 ·rintro Y E W a3 ⟨x, D, ⟨n, p⟩, d, I, J, c⟩
  obtain ⟨B, c2, L, a9, O⟩ := jf a3
  rw [L] at c
  refine bg (VQ (xx (enc := (eQ .u8)) (k2 := 1) (i := (Y : Int)) (x0 := B) underlying103 df J n U (bq _) a9) (fun c4 ⟨a2, A, z⟩ => V (eU rfl (kP d.has (y := a2) A bU)) (Wa (lr (Wm (V (gX az rfl z) (Wm (ln ?_))))))))
  refine yT (CJ c (fun Z E W => ∃ q, ST true fY w W (hp w) q ∧ E 3 = (.int .u64 Z) ∧ E 8 = u ∧ E 9 = (.int .i64 (H.length : Int)) ∧ E 10 = (.int .i64 (Y : Int))) (fun Z s => ?_) ?_)
  ·refine jN (fun i E W => ∃ j G, (E 16 = .int .i64 (i : Nat) ∧ E 15 = .int .i64 (B.length : Nat)) ∧ ST true fY w W (hp w) G ∧ E 3 = (.int .u64 j) ∧ E 8 = u ∧ E 9 = (.int .i64 (H.length : Int)) ∧ E 10 = (.int .i64 (Y : Int)) ∧ E 14 = a2 ∧ lF (B.drop i) j = some Z) B.length z.len ⟨x, _, ⟨rfl, rfl⟩, (d.eS St), I, J, p, n, rfl, s⟩ dc dc dc (fun _ _ _ h => by obtain ⟨_, _, o, _⟩ := h; exact o) ?_ ?_
   ·rintro c0 E W a4 ⟨j, G, ⟨n, p⟩, d, K, M, N, Q, T, g⟩
    obtain ⟨t, c3, R, P, b4⟩ := jf a4
    rw [R] at g
    refine bg (VQ (mZ (enc := (eQ .u8)) (i := (c0 : Int)) (x0 := t) az cX T n z (bq _) P) (fun c5 F => V (eU rfl (kP d.has (y := (.int .u8 t)) F isAgg5)) (Wa (ln (eW (Wh K (Wm (V (mF (k' := .u8) (a := t) bI underlying84 rfl) (V (xt (k := .u64) (a := j) (b := (IntKind.u64.wrap t)) (v := (.int .u64 (IntKind.u64.wrap (BitVec.ofInt (IntKind.bits .u64) j ^^^ BitVec.ofInt (IntKind.bits .u64) (IntKind.u64.wrap t)).toNat))) rfl rfl rfl) (Wi rfl (Wa ?_)))))))))))
    exact fB (gF (fj ⟨n, (IntKind.u64.wrap ((IntKind.u64.wrap (BitVec.ofInt (IntKind.bits .u64) j ^^^ BitVec.ofInt (IntKind.bits .u64) (IntKind.u64.wrap t)).toNat) * 1099511628211)), _, ⟨rfl, p⟩, (d.eS St), rfl, M, N, Q, T, (by rw [b4]; exact g)⟩))
   rintro E W ⟨j, G, ⟨n, p⟩, d, K, M, N, Q, T, g⟩
   rw [bu] at g
   refine fj ?_
   obtain rfl := sj g
   exact ⟨_, (d.eS St), K, M, N, Q⟩
  rintro c1 E W ⟨q, d, b5, b6, b7, b9⟩ a5
  exact gF (fj ⟨b9, c1, _, ⟨rfl, b7⟩, (d.eS St), b5, b6, (by rw [O]; exact a5)⟩)
 rintro E W ⟨x, D, ⟨n, p⟩, d, I, J, c⟩
 rw [bu] at c
 exact fj (sg (Wh I (Wa (lt (rQ c d)))))
theorem rG (Q : Value) (g : List Int) (a2 : Value) (H r : List Int) (w : World) (j : Sl (Pl (eQ .u8)) 1 (hp w) Q g) (Y : Sl (Pl (eQ .u8)) 1 (hp w) a2 H) (hm : lP g H = some r) :
  gu true Try.prog 22 [Q, a2] w 5 (eQ .u8) 1 r := by
 let a3 := (g.length : Int)
 refine sh 37 func22 rfl (fun d => sg (Wa (lS (Wm (bS hm fun r1 c0 hm => VE (Eg d call37 (qQ Q g _ _ (j.mono (Pl.mono _) d.fw) c0) (fun W3 d => V (ly rfl) (ln ?_))))))))
 refine CI hm rfl (fun b9 hm => ?_) (fun b9 hm => ?_)
 ·refine sg (Wa (lt (ga ?_)))
  obtain rfl := sj hm
  exact fL (v := (.slice none 0 0)) rfl rfl ⟨_, [], rfl, d.jF (fun p s => by cases s) (by simp), fp.nil _ _ _⟩
 refine kg (Wm (V (gX az rfl j) (V (mF (k' := .i64) (a := (g.length : Int)) ef bI rfl) (VE (fJ (cs := [(.int .u8 (IntKind.u8.wrap a3))].toArray) d (jc rfl) (mj az cX dE) (fun W6 A d => Wm (Wm (Wm ?_))))))))
 obtain ⟨D, I, rfl⟩ := j.form
 let n : Value := (.slice D g.length I)
 obtain ⟨A9, T, rfl⟩ := Y.form
 refine VE (fJ (cs := #[(.slice (some ⟨A, 0, none⟩) 1 1), n, (.slice A9 H.length T), n]) d (zf rfl rfl rfl rfl) (mj underlying103 df zeroValue34) (fun c5 b7 d => bS hm fun x b1 hm => VE (Eg d call38 (wL (.slice (some ⟨b7, 0, none⟩) 4 4) ([[(IntKind.u8.wrap a3)], g, H, g]) _ _ (uE.lit (l := [[(IntKind.u8.wrap a3)], g, H, g]) (vs := [(.slice (some ⟨A, 0, none⟩) 1 1), n, (.slice A9 H.length T), n]) rfl nb (d.at_ Mh) (.cons (Sl.lit (enc := (eQ .u8)) (l := [(IntKind.u8.wrap a3)]) (fun _ => rfl) rfl nb rfl (d.at_ (Mt Mh))) (.cons (j.mono (Pl.mono _) d.fw) (.cons (Y.mono (Pl.mono _) d.fw) (.cons (j.mono (Pl.mono _) d.fw) .nil))))) b1) (fun c6 d => Wa (ln ?_)))))
 replace d := d.eS (Db (Db St))
 refine sg (bS hm fun U a9 hm => VE (uP (enc := (eQ .u8)) (z := 0) d (fun _ => rfl) dc az iy.1 iy.2.1 iy.2.2.1 iy.2.2.2 rfl rfl rfl a9 (fun c7 Z b6 d N => Wa (lS (Wm (V (lB az rfl N) (Wm (ln ?_))))))))
 refine jN (fun i E W => ∃ J G K, (E 23 = .int .i64 (i : Nat) ∧ E 22 = .int .i64 (U.length : Nat)) ∧ ST true fY w W (hp w) (G ++ K) ∧ E 5 = (.int .u64 x) ∧ E 6 = Z ∧ fp 5 (eQ .u8) 1 Z J G ∧ jr x (U.drop i) i J = some r) U.length N.len ⟨U, b6, _, ⟨rfl, rfl⟩, (d.eS St), rfl, rfl, N, hm⟩ dc dc dc (fun _ _ _ h => by obtain ⟨_, _, _, q, _⟩ := h; exact q) ?_ ?_
 ·rintro t E W R ⟨J, G, K, ⟨o, F⟩, d, M, y, k, c⟩
  let a0 := (wi0 .i64 (8 * (wi0 .i64 (7 - (t : Int)))))
  obtain ⟨c9, c4, b2, c2, b3⟩ := jf R
  rw [b2] at c
  refine bg (Wh o (Wa (ln (eW (Wh y (Wm (Wh M (Wm (Wi rfl (Wi rfl (bS c fun _ L c => ?_)))))))))))
  exact V (yt (a := x) (b := a0) rfl rfl (zp L)) (V (mF (k' := .u64) (a := (Int.fdiv x (2 ^ min (Int.toNat a0) (IntKind.bits .u64)))) underlying84 bI rfl) (bS c fun b4 B c => VQ (lW (i := (t : Int)) (x0 := b4) az cX rfl rfl k (iV B) (gQ B)) (fun c3 O => VO (pB (u := (.int .u8 (IntKind.u8.wrap (Int.fdiv x (2 ^ min (Int.toNat a0) (IntKind.bits .u64)))))) (x1 := (IntKind.u8.wrap (Int.fdiv x (2 ^ min (Int.toNat a0) (IntKind.bits .u64)))))  d k (fun _ => rfl) (sL _) rfl rfl rfl O (gQ B) cX (fun c1 P d a5 => fB (gF (fj ⟨o, (J.set (Int.toNat (t : Int)) (IntKind.u8.wrap (Int.fdiv x (2 ^ min (Int.toNat a0) (IntKind.bits .u64))))), P, _, ⟨rfl, F⟩, (d.eS St), M, y, a5, (by rw [b3]; exact c)⟩)))))))
 rintro E W ⟨J, G, K, ⟨o, F⟩, d, M, y, k, c⟩
 rw [bu] at c
 refine fj (sg (Wh y (Wa (lt ?_))))
 obtain rfl := sj c
 exact fL (v := Z) rfl rfl ⟨_, G, rfl, d.jF (fun p s => (Ml s)) k.nd, k⟩
theorem mK (u : Value) (B : Option fG) (a : eH) (r : (eY × Int)) (w : World) {Q : eV} (F : jL Q [] w) (H : kp fN Q u B) (hm : gD B a = some r) :
  gm true Try.prog 8 [u, (.agg (eO a).toArray)] w Q [] (fun v L1 μ1 => ∃ E, v = (.tuple #[(.agg #[(.int .i64 (((r.1).eH).Kind)), (.string ((((r.1).eH).Head).eJ)), (.string ((((r.1).eH).Head).eK)), (.string (((r.1).eH).fa)), (.string ((((r.1).eH).B).eJ)), (.string ((((r.1).eH).B).eK)), (.string ((((r.1).eH).C).eJ)), (.string ((((r.1).eH).C).eK)), (.string (((r.1).eH).eX)), E]), (.int .i64 (r.2))]) ∧ L1 = [] ∧ Sl (Pl (eQ .u8)) 1 μ1 E ((r.1).Tag)) := by
 refine zF F 24 func8 rfl (fun d => sg (VE (iM d rfl (fun W2 W d => VE (gN d bJ (fun W4 b3 d => Wa (lr (Wm (VA d (Mt Mh) (eO a) bj aC (bS hm fun U T hm => ?_))))))))))
 refine VE (eD d (bW _) call21 (fun L => (nr u B a _ _ L (H.mono gd (eT.refl _)) T)) ?_ (L0 := []))
 rintro _ b9 P a9 d y n ⟨a3, t, rfl, N⟩
 obtain rfl := t.symm
 refine Wm (Wx rfl (Wx rfl (Wa (Wa (lS (Wm (Wi rfl (ln (CI hm rfl (fun I hm => ?_) (fun I hm => ?_))))))))))
 ·refine sg (V (gI (v := (.agg C2.toArray)) nz (fT bJ bQ (tX _ bQ) kr)) (Wm (VO (fD (.agg C2.toArray) (C2.toArray) d rfl rfl bh oc nb rfl (fun b4 d => Wa (ln ?_))))))
  replace d := d.eS (Kb (Db St))
  refine gq (ga ?_)
  obtain rfl := sj hm
  exact vt (v0 := (.agg C2.toArray)) (v1 := (.int .i64 U.2)) rfl rfl (fh d.has Mh C2 rfl cz bh) rfl ⟨_, _, _, rfl, (d.fR Sn), y, n, (ST.fl d (fM.mem Sn)), (.slice none 0 0), rfl, rfl, (Sl.nil _ _ _)⟩
 refine kn (fm ?_)
 replace d := d.drew
 have h := d.has.eS (Db (Kb Sn))
 refine gU h gW (XH 0 rfl h (fun _ A => eU rfl (fh A Mh (eO a) rfl bj aC)) (X 1 rfl h (eZ rfl) (XH 2 rfl h (fun _ A => eU rfl (fh A Mh (eO a) rfl bj aC)) (bS hm fun Y J hm => XE 3 rfl (mh d call23 (lM a _ _  J) (fun b5 Z c1 R d c p G => ?_))))))
 have h := d.has.oT c (Dr (Db (Kb Sn)))
 refine ⟨h, (bS hm fun j K hm => XE 4 rfl (mh d call22 (rG a3 U.1 Z Y _ _ (N.mono (Pl.mono _) (c.trans d.fw)) (G.sl (fun _ => rfl) (fun b o O => d.at_ (Ml O))) K) (fun b6 c0 c2 b2 d k q x => ?_)))⟩
 have h := d.has.oT (c.trans k) (Dr (Dr (Db (Kb Sn))))
 refine ⟨h, ?_⟩
 obtain ⟨g, i, rfl⟩ := x.form
 let D := (C1 a.Kind a.Head.eJ a.Head.eK a.fa a.B.eJ a.B.eK a.C.eJ a.C.eK a.eX g j.length i)
 refine X 5 rfl h (gI (v := (.agg D.toArray)) (kB rfl rfl) (fT bJ bQ (tX _ bQ) kr)) ?_
 replace d := d.perm (Nb (Pr (Pr Pz)) Nz)
 refine XO 6 rfl (fD (.agg D.toArray) (D.toArray) d rfl rfl bh oc nb rfl (fun b7 d => ?_))
 have h := d.has.oT (c.trans k) (Db (Dr (Dr (Kb Sn))))
 refine ⟨h, (X 7 rfl h (fO rfl) (jo kr (fj ?_)))⟩
 replace d := d.eS (Kb (Kr (Dr (Db St))))
 refine gq ?_
 obtain rfl := sj hm
 refine vt (v0 := (.agg D.toArray)) (v1 := (.int .i64 0)) rfl rfl (fh d.has Mh D rfl cz bh) rfl ?_
 replace d := d.perm (Nr (Qb Qz) Nz)
 obtain ⟨c3, d, z, s, M⟩ := ST.sG d x (fun _ => rfl)
 exact ⟨_, _, _, rfl, (d.fR Sn), (((y.trans c).trans k).trans z), (((n.trans p).trans q).trans s), (ST.fl d (fM.mem Sn)), (.slice g j.length i), rfl, rfl, M⟩
theorem rC (g : Nat) (c : Value) (j : List Int) (a : LO) (i : Value) (D : List Int) (r : (Bool × (List Int))) (w : World) {I : eV} (M : jL I ((g, Ob #[c] 43) :: (a ++ [])) w) (k : fp 5 (eQ .u8) 1 c j a) (y : Sl (Pl (eQ .u8)) 1 I i D) (hm : mz j D = some r) :
  fX true Try.prog 26 [(.pointer (some ⟨g, 0, none⟩)), i] w ((g, Ob #[c] 43) :: (a ++ [])) (fun v J W' => ∃ H B, v = (.bool (r.1)) ∧ J = ((g, Ob #[H] 43) :: (B ++ [])) ∧ fp 5 (eQ .u8) 1 H r.2 B) := by
 refine sR M 16 func26 rfl (fun d => sg (Wa (lS (Wm (V (jB dj rfl rfl) (ln (jD rfl (gH ?_))))))))
 refine fj (sg (Wm (Wm (Wn (Wf mI (VB d Mh rfl rfl bU (Wm ?_)))))))
 replace d := d.perm (Nr (Qb Qz) Nz)
 refine bS hm fun z G hm => VE (mx (enc := (eQ .u8)) (v := c) (vs := i) (R := a) d (fun _ => rfl) dc (sL _) az iy.1 iy.2.1 rfl iy.2.2.1 iy.2.2.2 rfl rfl k (y.mono (Pl.mono _) d.fw) G (fun N T K d t => Wn (Wf mI ?_)))
 obtain ⟨u, x, rfl⟩ := t.form
 replace d := d.perm (Nb (Pr Pz) Nz)
 refine VO (fD (.slice u z.length x) (#[(.slice u z.length x)]) d rfl rfl df oc nb rfl (fun Q d => lr (Wa (lt ?_))))
 obtain rfl := sj hm
 exact fL (v := (.bool true)) rfl rfl ⟨_, _, rfl, (d.fR (Kb (Kr Sn))), (.slice u z.length x), K, rfl, rfl, t⟩
theorem pZ (i : Nat) (g : Value) (D : List Int) (c : LO) (a : eY) (z : Value) (r : (Bool × (List Int))) (w : World) {μ0 : eV} (h0 : jL μ0 ((i, Ob #[g] 43) :: (c ++ [])) w) (B : fp 5 (eQ .u8) 1 g D c) (u : Sl (Pl (eQ .u8)) 1 μ0 z a.Tag) (hm : lD D a = some r) :
  fX true Try.prog 10 [(.pointer (some ⟨i, 0, none⟩)), (.agg #[(.int .i64 a.eH.Kind), (.string a.eH.Head.eJ), (.string a.eH.Head.eK), (.string a.eH.fa), (.string a.eH.B.eJ), (.string a.eH.B.eK), (.string a.eH.C.eJ), (.string a.eH.C.eK), (.string a.eH.eX), z])] w ((i, Ob #[g] 43) :: (c ++ [])) (fun v L1 W' => ∃ y1 S2, v = (.bool (r.1)) ∧ L1 = ((i, Ob #[y1] 43) :: (S2 ++ [])) ∧ fp 5 (eQ .u8) 1 y1 r.2 S2) := by
 let q := ((i, Ob #[g] 43) :: (c ++ []))
 refine sR h0 30 func10 rfl (fun d => sg ?_)
 obtain ⟨A1, c2, rfl⟩ := u.form
 refine VE (iM d rfl (fun W4 L d => Wa (lS (Wm (V (jB dj rfl rfl) (Wm (Vg rfl rfl (fe mH rfl) (Vg rfl rfl (eU rfl (fh d.has Mh (eO a.eH) rfl bj aC)) (bS hm fun r5 d0 hm => qT rfl rfl (Eg d call25 (lI a.eH _ _  d0) (fun W7 d => Vg rfl rfl (ly rfl) ?_)))))))))))
 refine V (fq rfl rfl) (Wm (LJ hm (fun s E W => ∃ a0, ST true (keys q) w W μ0 ((L, Ol (C1 a.eH.Kind a.eH.Head.eJ a.eH.Head.eK a.eH.fa a.eH.B.eJ a.eH.B.eK a.eH.C.eJ a.eH.C.eK a.eH.eX A1 a.Tag.length c2) 36) :: ((i, Ob #[g] 43) :: (c ++ a0))) ∧ E 0 = (.pointer (some ⟨i, 0, none⟩)) ∧ E 3 = (.pointer (some ⟨L, 0, none⟩)) ∧ E 18 = (.bool s)) 5 ?_ (fun s y K => ?_)))
 ·rintro x9 E W ⟨a0, d, a4, a5, c8⟩ k
  refine ln (CI k c8 (fun b5 k => ?_) (fun b5 k => ?_))
  ·refine sg (Wa (ln ?_))
   replace d := d.eS (Db St)
   refine gq (ga ?_)
   obtain rfl := sj k
   exact fL (v := (.bool false)) rfl rfl ⟨_, _, rfl, (d.fR (Kb (Kr Sn))), g, c, rfl, rfl, B⟩
  refine kg (Wh a4 (V (fe mH a5) (VA d Mh (eO a.eH) bj aC (bS k fun d1 b7 k => VE (mh d call23 (lM a.eH _ _  b7) (fun e4 d3 f1 e3 d U O b4 => bS k fun d2 b9 k => ?_))))))
  refine VE (yA d (Cb (Pr (Pb Pz)) (Cr (Qr (Qb Qz)) Cn)) call26 (fun hH hN n p => (rC i g D c d3 d1 _ _ ⟨hH, hN, eT.refl _⟩ B (b4.sl (fun _ => rfl) (fun b o hq => p b o (Ml hq))) b9)) (fun e5 e9 F e1 d Y P h b1 => ?_))
  obtain ⟨A, a3, G, rfl, N⟩ := b1
  replace G := G.symm; subst G
  replace d := d.perm (Tb (Tr Tn))
  refine Wm (LJ k (fun Q E W => ∃ M I T a2, eT F T ∧ ST true (keys q) w W T ((i, Ob #[M] 43) :: (I ++ a2)) ∧ E 29 = (.bool Q.1) ∧ fp 5 (eQ .u8) 1 M Q.2 I) 5 ?_ (fun Q x J => ?_))
  ·rintro ⟨d4, e7⟩ E W ⟨M, I, T, a2, d8, d, c9, c1⟩ b6
   refine Wg c9 (lt ?_)
   obtain rfl := sj b6
   exact fL (v := (.bool d4)) rfl rfl ⟨_, _, rfl, (d.fR (Kb (Kr Sn))), M, I, rfl, rfl, c1⟩
  refine bC x (fun j x => ?_) (fun j x => ?_)
  ·refine ug j (eZ a4) (ug j (fe nB a5) (ug j (eU rfl (fx d.has (Mt (Ma (Ma Mh))) rfl bU)) (bS x fun e8 c0 x => ?_)))
   refine lA j (eM d (Cb Pz (Cr Qz Cn)) call27 (fun hh n => (nN i A d2.2 a3 (.slice A1 a.Tag.length c2) a.Tag _ _ hh N (u.mono (Pl.mono _) ((U.trans Y).trans n)) c0)) ?_)
   rintro _ f0 d7 e2 d Z R h ⟨d6, c6, H, rfl, c3⟩
   obtain rfl := H.symm
   replace d := d.perm (Tb (Tr Tn))
   refine V (ft (cB j) rfl) ?_
   obtain rfl := sj x
   exact J _ _ ⟨d6, c6, d7, _, Z, (d.eS (Kb (Kr (Dr (Db St))))), rfl, c3⟩
  refine un j (un j (un j (un j (V (fq (cB j) rfl) ?_))))
  obtain rfl := sj x
  exact J _ _ ⟨A, a3, F, _, (eT.refl _), (d.eS (Kb (Kr (Dr (Db St))))), rfl, N⟩
 refine bC y (fun t y => ?_) (fun t y => ?_)
 ·refine un t (un t (un t (un t (V (ft (cB t) rfl) ?_))))
  obtain rfl := sj y
  exact K _ _ ⟨_, (d.eS St), rfl, rfl, rfl⟩
 refine ug t (fe nB rfl) (ug t (eU rfl (fx d.has Mh rfl bU)) (ug t (gX az rfl u) (ug t (gi rfl rfl rfl) (V (fq (cB t) rfl) ?_))))
 obtain rfl := sj y
 exact K _ _ ⟨_, (d.eS St), rfl, rfl, rfl⟩
theorem pQ {dd : Bool} {F : Nat → Prop} {w W : World} {μ : eV} {L : LO} (p x : Nat) (D J : Value) (c y : Int) (u : FrameMode) (o : ST dd F w W μ ((p, .cells #[D, J] 72 (0, 0)) :: (x, .cells #[.int .i64 c] 31 (0, 0)) :: L)) (hu : (u = .returning ∧ y = c) ∨ u = .panicking [{ v := kO 96 p y, recovered := false }]) :
  CallsD Try.prog 28 #[.pointer (some ⟨p, 0, none⟩), .pointer (some ⟨x, 0, none⟩)] u W fun e I W' => e = .returned (.tuple #[]) ∧ settle I = .returning ∧ ST dd F w W' μ ((p, .cells #[D, .bool true] 72 (0, 0)) :: (x, .cells #[.int .i64 y] 31 (0, 0)) :: L) := by
 refine callsD_of_wpS func28 rfl fun s G z => zX (n := 31) (eW (Wm (Wn (Wf uB (VO (nW [] (.bool true) #[D, .bool true] o rfl rfl sizeOf4 oc (aM 2) rfl (fun g o => fB ⟨rfl, fun a t => wpS_seq ?_⟩))))))) (uJ (args := [.pointer (some ⟨p, 0, none⟩), .pointer (some ⟨x, 0, none⟩)]) Try.ntmps28 nb)
 rcases hu with ⟨rfl, rfl⟩ | rfl
 ·refine qP (n := 31) (d := 10) (d2 := 4) (v := .nilIface) (cs' := { s with mode := .returning } :: G) dc dc rfl rfl rfl rfl (fun _ => rfl) (fun E h => fO h) (.inr ⟨?_, rfl, ?_⟩) t (fun a t => ?_)
  ·simp only [recoverD, z]
  ·rw [← z]
  exact vy (u := .returning) Try.results28 (fm (sg (Wm (V (yN underlying20 rfl rfl) (ln (nO rfl (gq (ga ⟨.inr rfl, rfl, rfl, o⟩)))))))) t
 refine qP (n := 31) (d := 10) (d2 := 4) (v := kO 96 p y) (cs' := { s with mode := .panicking [{ v := kO 96 p y, recovered := true }] } :: G) dc dc rfl rfl rfl rfl (fun _ => rfl) (fun E h => fO h) (.inl ?_) t (fun a t => ?_)
 ·simp only [recoverD, z]
 refine vy (u := .panicking [{ v := kO 96 p y, recovered := true }]) Try.results28 (fm (sg (Wm (V (zi underlying20 rfl rfl) (ln (jD rfl (kg (Wm (V (wm dh (by intro q h; cases h) rfl) ?_))))))))) t
 refine Wm (Wx rfl (Wx rfl (VE (gN o zeroValue96 (fun i K o => VO (nW [] (.agg #[.pointer (some ⟨p, 0, none⟩), .int .i64 y]) #[.pointer (some ⟨p, 0, none⟩), .int .i64 y] o rfl rfl sizeOf96 oc (aM 2) rfl (fun j o => Wa (lS (Wm (V (ly rfl) (Wm (Vg rfl rfl (fe zO rfl) ?_))))))))))))
 refine Vg rfl rfl (eU rfl (fx o.has Mh rfl isAgg47)) (Vg rfl rfl (eZ rfl) (Vg rfl rfl (uW ew sizeOf72 rfl rfl) (V (fq rfl rfl) (ln (jD rfl (kn (eW (Wm (Wf zn (VB o Mh rfl rfl isAgg31 (Wn (VO (nW [_, _] (.int .i64 y) #[.int .i64 y] o rfl rfl sizeOf31 oc (aM 1) rfl (fun k o => ?_))))))))))))))
 exact fB ⟨.inl rfl, rfl, rfl, ST.drop (A := []) o⟩
theorem qO {S : Type} (fk : Nat) (a : Array Value) (N : Value) (T b : List Int) (s : Int ⊕ S) (rd : S → List Int) (w : World) {Q : eV} {j : LO} (h0 : jL Q j w) (hb : Sl (Pl (eQ .u8)) 1 Q N T) (Y : gp T = some b) (K : S → LO → eV → Prop) (X : Int → LO → eV → Prop) (H : ∀ args w, (callFunc fk args).run Try.prog w = .ok (.enter fk args) w) (hf : ∀ (w' : World) (μ' : eV) (F : Nat) (G : Value), jL μ' ((F, Obj.cells #[G, .bool false] 72 (0, 0)) :: j) w' → eT Q μ' → Sl (Pl (eQ .u8)) 1 μ' G b →
   fc true Try.prog fk (.pointer (some ⟨F, 0, none⟩) :: a.toList) w' μ' ((F, Obj.cells #[G, .bool false] 72 (0, 0)) :: j) s (fun r v B u => ∃ y z L', B = (F, Obj.cells #[y, z] 72 (0, 0)) :: L' ∧ Sl (Pl (eQ .u8)) 1 u y (rd r) ∧ K r L' u)
    (fun x c B u => ∃ y z L', c = [{ v := kO 96 F x, recovered := false }] ∧ B = (F, Obj.cells #[y, z] 72 (0, 0)) :: L' ∧ X x L' u)) :
  gm true Try.prog 11 [N, .func (.func fk) #[] a] w Q j (fun v B u => v = .int .i64 (rM rd s) ∧ yg K X s B u) := by
 refine wJ ?_
 have o := ST.kG (dd := true) h0
 refine ux (n := 22) func11 rfl rfl nb (vA (eW (VE (gN o zeroValue31 (fun W1 O o => fB ⟨rfl, (vA (eW (Wm (VE (mh o call20 (mm N T _ _ (hb.mono (Pl.mono _) o.fw) Y) (fun W2 v2 a8 R2 o g W U => ?_))))))⟩)))))
 obtain ⟨aa, o, i, a1, J⟩ := ST.sG o U (fun _ => rfl)
 obtain ⟨A, c, rfl⟩ := J.form
 refine V (gI (v := (.agg #[.slice A b.length c, .bool false])) (jc rfl) (fT zeroValue72 dP (A2 _ dP) kr)) (VE (iM o rfl (fun W3 F o => Wa (fB ⟨rfl, (zL (wC (Au (.inl rfl) rfl dc (eZ rfl) (wT (d := ⟨.fn (.func 28) #[], #[.pointer (some ⟨F, 0, none⟩), .pointer (some ⟨O, 0, none⟩)]⟩) (.inl rfl) rfl (xp (args := [.pointer (some ⟨F, 0, none⟩), .pointer (some ⟨O, 0, none⟩)]) rfl (by exact jC rfl rfl)) (fj (nT (nT (mV (nj (.inl rfl) rfl dc (eZ rfl) (nj (.inl rfl) rfl dc (uQ underlying49 rfl rfl) (pn ?_)))))))))))⟩))))
 refine fj (uL rfl (mV (nj (.inl rfl) rfl dc (eZ rfl) (nj (.inl rfl) rfl dc (eZ rfl) ?_))))
 have hP : List.Perm ((F, Obj.cells (.agg #[.slice A b.length c, .bool false] : Value).cells 72 (0, 0)) :: (O, Obj.cells (Value.int IntKind.i64 0).cells 31 (0, 0)) :: j) (((F, Obj.cells #[.slice A b.length c, .bool false] 72 (0, 0)) :: j) ++ [(O, Obj.cells (Value.int IntKind.i64 0).cells 31 (0, 0))]) := List.Perm.cons _ (dA (l₁ := [_]))
 have hB : ∀ {M : LO} {p q : Nat × Obj}, ((p :: M) ++ [q]).Perm (p :: q :: M) := List.Perm.cons _ (dA (l₂ := [_]))
 rcases s with x | r
 ·refine Ar (.inl rfl) (gl (args := [(.pointer (some ⟨F, 0, none⟩))]) (caps := a) _ _ o hP rfl H (by exact jA rfl) (fun hH hN R a7 => fc.l (hf _ _ F _ ⟨hH, hN, R⟩ (g.trans i) J)) (fun W4 cc Z L4 o D P hX => ?_))
  obtain ⟨y, z, L', rfl, rfl, hX⟩ := hX
  replace o := o.perm hB
  intro E' a6
  refine gk (ud (by simp) call28 (pQ _ _ _ _ 0 x _ o (.inr rfl)) (fun I o => lK (v := .int .i64 x) rfl (a6 4) (fx o.has (.tail _ (.head _)) rfl isAgg31) ?_))
  have o := ST.drop (A := []) (ST.drop (A := []) o)
  exact ⟨_, _, _, rfl, o.ze, (g.trans i).trans D, (W.trans a1).trans P, o.fl (fun _ h => h), rfl, hX⟩
 refine AG (.inl rfl) rfl dc (uC (args := [(.pointer (some ⟨F, 0, none⟩))]) (caps := a) _ _ o hP rfl H (by exact jA rfl) (fun hH hN R a7 => fc.r (hf _ _ F _ ⟨hH, hN, R⟩ (g.trans i) J)) (fun W4 v4 Z L4 o D P hK => ?_))
 obtain ⟨y, z, L', rfl, hy, hK⟩ := hK
 replace o := o.perm hB
 refine pn (fj (nT (nT (mV (nj (.inl rfl) rfl dc (eZ rfl) (nj (.inl rfl) rfl dc (kK rfl) (nj (.inl rfl) rfl dc (fe mJ rfl) (nj (.inl rfl) rfl dc (eU rfl (fx o.has (.head _) rfl bU)) (nj (.inl rfl) rfl dc (gX az rfl hy) (nj (.inl rfl) rfl dc (gi rfl rfl rfl) (pn (fj ?_))))))))))))
 have L : ∀ (k : Int) (E : Nat → Value) (I : World), E 4 = .pointer (some ⟨O, 0, none⟩) → k = (if (rd r).length > 0 then 13 else 0) → ST true (keys j) w I Z ((F, Obj.cells #[y, z] 72 (0, 0)) :: (O, Obj.cells #[.int .i64 k] 31 (0, 0)) :: L') → ∀ tmps : Array Value, (∀ t, tmps.getD t undef = E t) → Leaves Try.prog Try.f11 tmps (yv true w Q j (fun v B u => v = .int .i64 (rM rd (.inr r)) ∧ yg K X (.inr r) B u)) [⟨.fn (.func 28) #[], #[.pointer (some ⟨F, 0, none⟩), .pointer (some ⟨O, 0, none⟩)]⟩] .returning I := fun k E I h4 hk o => by
  refine ud (by simp) call28 (pQ _ _ _ _ k k _ o (.inl ⟨rfl, rfl⟩)) (fun W6 o => lK (v := .int .i64 k) rfl h4 (fx o.has (.tail _ (.head _)) rfl isAgg31) ?_)
  have o := ST.drop (A := []) (ST.drop (A := []) o)
  exact ⟨_, _, _, rfl, o.ze, (g.trans i).trans D, (W.trans a1).trans P, o.fl (fun _ h => h), by rw [hk, rM], hK⟩
 refine xq (b := decide (((rd r).length : Int) > 0)) rfl (fun hq => ?_) (fun hq => ?_)
 ·exact nT (mV (xh (.inl rfl) rfl (nW [_] (.int .i64 13) #[.int .i64 13] o rfl rfl sizeOf31 oc (aM 1) rfl (fun I o => pn (fj (vu (ga (L 13 _ _ rfl (by rw [aD (by simpa using hq)]) o))))))))
 exact xy (fj (nT (mV (xh (.inl rfl) rfl (nW [_] (.int .i64 0) #[.int .i64 0] o rfl rfl sizeOf31 oc (aM 1) rfl (fun I o => pn (fj (vu (L 0 _ _ rfl (by rw [aF (by simpa using hq)]) o)))))))))
theorem nL (i : Nat) (c : Value) (g : List Int) (a r : Bool) (w : World) (k : Sl (Pl (eQ .u8)) 1 (hp w) c g) (j : At (hp w) (.pointer (some ⟨i, 0, none⟩)) [c, (.bool a)]) (hm : jv g a = some r) :
  fQ true Try.prog 53 [(.pointer (some ⟨i, 0, none⟩))] w (.bool r) := by
 refine cG 11 func53 rfl (fun d => sg (Wa (lr (Wm (V (jB ew rfl rfl) (Wm (Vg rfl rfl (eZ rfl) (Vg rfl rfl (kK rfl) (Ba rfl rfl (oO [(.bool a)] uB rfl j rfl) (fun u t => Vg rfl rfl (eU rfl (kP d.has (y := (.bool a)) t isAgg4)) ?_))))))))))
 exact V (fq rfl rfl) (Wa (lt (rQ hm d)))
theorem fi (a : Nat) (t : eP) (g : Value) (B : Int) (s : (Int ⊕ Unit)) (w : World) {D : eV} (T : jL D ((a, Ob #[g, (.bool t.fH)] 72) :: []) w) (I : Sl (Pl (eQ .u8)) 1 D g t.b) (hm : fA t B = some s) :
  fc true Try.prog 31 [(.pointer (some ⟨a, 0, none⟩)), (.int .i64 B)] w D ((a, Ob #[g, (.bool t.fH)] 72) :: []) s (fun r v G U => v = (.tuple #[]) ∧ G = ((a, Ob #[g, (.bool t.fH)] 72) :: [])) (fun x c G U => ∃ y z, c = [{ v := kO 96 a x, recovered := false }] ∧ G = ((a, Ob #[y, z] 72) :: [])) := by
 have d := ST.kG (dd := true) T
 refine ig (n := 21) func31 rfl rfl nb (sg (Wm (V (pJ ew rfl rfl) (Wm (Vg rfl rfl (eZ rfl) (Vg rfl rfl (kK rfl) (Vg rfl rfl (fe uB rfl) (Vg rfl rfl (eU rfl (fx d.has Mh rfl isAgg4)) (Vg rfl rfl (ly rfl) (V (ft rfl rfl) (Wm (LJ hm (fun K E W => ∃ H, ST true (keys ((a, Ob #[g, (.bool t.fH)] 72) :: [])) w W D ((a, Ob #[g, (.bool t.fH)] 72) :: H) ∧ E 0 = (.pointer (some ⟨a, 0, none⟩)) ∧ E 1 = (.int .i64 B) ∧ E 16 = (.bool K)) 3 ?_ (fun K j u => ?_)))))))))))))
 ·rintro Y E W ⟨H, d, M, N, Q⟩ k
  refine ln (CI k Q (fun J k => ?_) (fun J k => ?_))
  ·refine eW (Wh M (Wh N (V (gI (v := (.agg #[(.pointer (some ⟨a, 0, none⟩)), (.int .i64 B)])) (kB rfl rfl) (fT zeroValue96 dh (AP _ dh) kr)) (V (zb dh (by intro q h; cases h) rfl) (iL (.inl rfl) (yG rfl (gP ?_)))))))
   obtain rfl := sj k
   exact fI.li ⟨_, _, _, rfl, (d.fR (Kb Sn)), (eT.refl _), Lo.refl, (ST.fl d (fM.mem (Kb Sn))), ⟨_, _, rfl, rfl⟩⟩
  refine gH (sK (uF ?_))
  obtain rfl := sj k
  exact uy rfl (fI.ri ⟨_, _, _, rfl, (d.fR (Kb Sn)), (eT.refl _), Lo.refl, (ST.fl d (fM.mem (Kb Sn))), rfl, rfl⟩)
 refine bC j (fun i j => ?_) (fun i j => ?_)
 ·refine ug i (eZ rfl) (ug i (gi rfl rfl rfl) (V (ft (cB i) rfl) ?_))
  obtain rfl := sj j
  exact u _ _ ⟨_, (d.eS St), rfl, rfl, rfl⟩
 refine un i (un i (V (fq (cB i) rfl) ?_))
 obtain rfl := sj j
 exact u _ _ ⟨_, (d.eS St), rfl, rfl, rfl⟩
theorem mG (a : Nat) (j : eP) (g : Value) (a1 : Int) (s : (Int ⊕ (Int × eP))) (w : World) {μ0 : eV} (h0 : jL μ0 ((a, Ob #[g, (.bool j.fH)] 72) :: []) w) (k : Sl (Pl (eQ .u8)) 1 μ0 g j.b) (hm : jz j a1 = some s) :
  fc true Try.prog 65 [(.pointer (some ⟨a, 0, none⟩)), (.int .i64 a1)] w μ0 ((a, Ob #[g, (.bool j.fH)] 72) :: []) s (fun r v L1 μ1 => ∃ y1, v = (.int .u8 (r.1)) ∧ L1 = ((a, Ob #[y1, (.bool ((r.2).fH))] 72) :: []) ∧ Sl (Pl (eQ .u8)) 1 μ1 y1 ((r.2).b)) (fun x c L1 μ1 => ∃ y z, c = [{ v := kO 96 a x, recovered := false }] ∧ L1 = ((a, Ob #[y, z] 72) :: [])) := by
 let c8 := (⟨(j.b.drop (Int.toNat 1)), j.fH⟩ : eP)
 let c7 := (#[g, (.bool j.fH)] : Array Value)
 let b8 : Value := (.pointer (some ⟨a, 0, none⟩))
 let a0 := ((a, Obj.cells c7 72 (0, 0)) :: [])
 have d := ST.kG (dd := true) h0
 refine ig (n := 41) func65 rfl rfl nb (sg (Wa (ln (fm (sV hm (fun g0 E W => ∃ Y d7, eT μ0 Y ∧ Lo (keys a0) w μ0 Y ∧ ST true (keys a0) w W Y ((a, Obj.cells c7 72 (0, 0)) :: d7) ∧ E 0 = b8 ∧ E 1 = (.int .i64 a1)) (fun g0 B a2 => ?_) ?_)))))
 ·refine sg (Wm (Wi rfl (ln (CI B rfl (fun d3 B => ?_) (fun d3 B => ?_)))))
  ·refine eW (Wm (bS B fun g1 b5 B => ?_))
   rcases g1 with f6 | h4
   ·have F := d.size
    refine iL (.inl rfl) (gl (args := [b8, (.int .i64 11)]) (caps := #[]) _ _ d (Cb Pz Cn) rfl cO (by exact jC rfl rfl) (fun hH hN A ad => (fc.l (fi a j g 11 _ _ ⟨hH, hN, A⟩ (k.mono (Pl.mono _) (eT.refl _)) b5))) (fun e7 g9 c6 e4 d T p aa => ?_))
    obtain ⟨i1, i4, d6, rfl⟩ := aa
    replace d := d.perm (Tb Tn)
    refine gk (gP ?_)
    obtain rfl := sj B
    replace a2 : some (Sum.inl f6) = some s := a2
    obtain rfl := sj a2
    exact fI.li ⟨_, _, _, rfl, (d.fR (Kb Sn)), T, p, (ST.fl d (fM.mem (Kb Sn))), ⟨_, _, d6, rfl⟩⟩
   have F := d.size
   refine VE (eD d (Cb Pz Cn) cO (fun hh => (fc.r (fi a j g 11 _ _ hh (k.mono (Pl.mono _) (eT.refl _)) b5))) ?_)
   rintro e7 h7 c6 e4 d T p ⟨a6, rfl⟩
   obtain rfl := a6.symm
   replace d := d.perm (Tb Tn)
   refine ln ?_
   obtain rfl := sj B
   exact ⟨_, rfl, c6, _, T, p, (d.eS St), rfl, rfl⟩
  refine kn ?_
  obtain rfl := sj B
  exact ⟨_, rfl, μ0, _, (eT.refl _), Lo.refl, (d.eS St), rfl, rfl⟩
 rintro ⟨⟩ E W ⟨Y, d7, G, q, d, b1, e0⟩ f0
 refine fm (sV f0 (fun f8 E W => ∃ I d8, eT Y I ∧ Lo (keys a0) w Y I ∧ ST true (keys a0) w W I ((a, Obj.cells c7 72 (0, 0)) :: d8) ∧ E 0 = b8 ∧ E 1 = (.int .i64 a1)) (fun f8 u Z => ?_) ?_)
 ·refine sg (Wh b1 (Wn (Wf mJ (VB d Mh rfl rfl bU (V (gX az rfl k) (Wi rfl (ln (CI u rfl (fun d2 u => ?_) (fun d2 u => ?_)))))))))
  ·refine eW (Wh b1 (bS u fun f9 b4 u => ?_))
   rcases f9 with f5 | h3
   ·have F := d.size
    refine iL (.inl rfl) (gl (args := [b8, (.int .i64 10)]) (caps := #[]) _ _ d (Cb Pz Cn) rfl cO (by exact jC rfl rfl) (fun hH hN A ad => (fc.l (fi a j g 10 _ _ ⟨hH, hN, A⟩ (k.mono (Pl.mono _) G) b4))) (fun e6 g8 c5 e3 d Q o R => ?_))
    obtain ⟨i0, i3, d5, rfl⟩ := R
    replace d := d.perm (Tb Tn)
    refine gk (gP ?_)
    obtain rfl := sj u
    replace Z : some (Sum.inl f5) = some s := Z
    obtain rfl := sj Z
    exact fI.li ⟨_, _, _, rfl, (d.fR (Kb Sn)), (G.trans Q), (q.trans o), (ST.fl d (fM.mem (Kb Sn))), ⟨_, _, d5, rfl⟩⟩
   have F := d.size
   refine VE (eD d (Cb Pz Cn) cO (fun hh => (fc.r (fi a j g 10 _ _ hh (k.mono (Pl.mono _) G) b4))) ?_)
   rintro e6 h6 c5 e3 d Q o ⟨a5, rfl⟩
   obtain rfl := a5.symm
   replace d := d.perm (Tb Tn)
   refine ln ?_
   obtain rfl := sj u
   exact ⟨_, rfl, c5, _, Q, o, (d.eS St), b1, e0⟩
  refine kn ?_
  obtain rfl := sj u
  exact ⟨_, rfl, Y, _, (eT.refl _), Lo.refl, (d.eS St), b1, e0⟩
 rintro ⟨⟩ E W ⟨I, d8, J, L, d, a7, g2⟩ U
 refine sg (Wh a7 (Wn (Wf mJ (VB d Mh rfl rfl bU (bS U fun a9 c2 U => VQ (mZ (enc := (eQ .u8)) (i := 0) (x0 := a9) az cX rfl rfl (k.mono (Pl.mono _) (G.trans J)) (iV c2) (gQ c2)) (fun i6 f3 => V (eU rfl (kP d.has (y := (.int .u8 a9)) f3 isAgg5)) (Wa (lr (Wh a7 ?_)))))))))
 refine Wh a7 (Wn (Wf mJ (VB d Mh rfl rfl bU (bS U fun _ c1 U => VQ (qV (i := 1) az cX rfl rfl (k.mono (Pl.mono _) (G.trans J)) (oN c1) (oE c1)) (fun i7 a3 => Wn (Wf mJ ?_))))))
 obtain ⟨K, M, rfl⟩ := a3.1.form
 let O : Value := (.slice K (j.b.drop (Int.toNat 1)).length M)
 refine VO (fD O (#[O, (.bool j.fH)]) d rfl rfl df oc nb rfl (fun i5 d => ln (fm (sV U (fun g4 E W => ∃ b6 d9, eT I b6 ∧ Lo (keys a0) w I b6 ∧ ST true (keys a0) w W b6 ((a, Ob #[O, (.bool j.fH)] 72) :: d9) ∧ E 5 = (.int .u8 a9)) (fun g4 f2 b0 => ?_) ?_))))
 ·refine sg (Wm (Wi rfl (Wm (LJ f2 (fun c3 E W => ∃ b9, ST true (keys a0) w W I ((a, Ob #[O, (.bool j.fH)] 72) :: b9) ∧ E 0 = b8 ∧ E 5 = (.int .u8 a9) ∧ E 37 = (.bool c3)) 3 ?_ (fun c3 H a8 => ?_)))))
  ·rintro h8 E W ⟨b9, d, e8, c0, e9⟩ t
   refine ln (CI t e9 (fun d1 t => ?_) (fun d1 t => ?_))
   ·refine eW (Wh e8 (bS t fun f7 b3 t => ?_))
    rcases f7 with f4 | h2
    ·have F := d.size
     refine iL (.inl rfl) (gl (args := [b8, (.int .i64 11)]) (caps := #[]) _ _ d (Cb Pz Cn) rfl cO (by exact jC rfl rfl) (fun hH hN A ad => (fc.l (fi a c8 O 11 _ _ ⟨hH, hN, A⟩ (a3.1.mono (Pl.mono _) (eT.refl _)) b3))) (fun e5 g7 c4 e2 d N h P => ?_))
     obtain ⟨h9, i2, d4, rfl⟩ := P
     replace d := d.perm (Tb Tn)
     refine gk (gP ?_)
     obtain rfl := sj t
     replace b0 : some (Sum.inl f4) = some s := b0
     obtain rfl := sj b0
     exact fI.li ⟨_, _, _, rfl, (d.fR (Kb Sn)), ((G.trans J).trans N), ((q.trans L).trans h), (ST.fl d (fM.mem (Kb Sn))), ⟨_, _, d4, rfl⟩⟩
    have F := d.size
    refine VE (eD d (Cb Pz Cn) cO (fun hh => (fc.r (fi a c8 O 11 _ _ hh (a3.1.mono (Pl.mono _) (eT.refl _)) b3))) ?_)
    rintro e5 h5 c4 e2 d N h ⟨a4, rfl⟩
    obtain rfl := a4.symm
    replace d := d.perm (Tb Tn)
    refine ln ?_
    obtain rfl := sj t
    exact ⟨_, rfl, c4, _, N, h, (d.eS St), c0⟩
   refine kn ?_
   obtain rfl := sj t
   exact ⟨_, rfl, I, _, (eT.refl _), Lo.refl, (d.eS St), c0⟩
  refine bC H (fun D H => ?_) (fun D H => ?_)
  ·refine ug D (eZ g2) (ug D (gi rfl rfl rfl) (V (ft (cB D) rfl) ?_))
   obtain rfl := sj H
   exact a8 _ _ ⟨_, (d.eS St), a7, rfl, rfl⟩
  refine un D (un D (V (fq (cB D) rfl) ?_))
  obtain rfl := sj H
  exact a8 _ _ ⟨_, (d.eS St), a7, rfl, rfl⟩
 rintro ⟨⟩ E W ⟨b6, d9, b2, ab, d, g3⟩ f1
 refine sg (Wh g3 (Wa (lt (jX ?_))))
 obtain rfl := sj f1
 exact fL (v := (.int .u8 a9)) rfl rfl (fI.ri ⟨_, _, _, rfl, (d.fR (Kb Sn)), ((G.trans J).trans b2), ((q.trans L).trans ab), (ST.fl d (fM.mem (Kb Sn))), O, rfl, rfl, (a3.1.mono (Pl.mono _) b2)⟩)
theorem iW (g : Nat) (I : eP) (j : Value) (P : Int) (s : (Int ⊕ (Int × eP))) (w : World) {μ0 : eV} (h0 : jL μ0 ((g, Ob #[j, (.bool I.fH)] 72) :: []) w) (K : Sl (Pl (eQ .u8)) 1 μ0 j I.b) (hm : ie I P = some s) :
  fc true Try.prog 50 [(.pointer (some ⟨g, 0, none⟩)), (.int .i64 P)] w μ0 ((g, Ob #[j, (.bool I.fH)] 72) :: []) s (fun r v L1 μ1 => ∃ y1, v = (.int .i64 (r.1)) ∧ L1 = ((g, Ob #[y1, (.bool ((r.2).fH))] 72) :: []) ∧ Sl (Pl (eQ .u8)) 1 μ1 y1 ((r.2).b)) (fun x c L1 μ1 => ∃ y z, c = [{ v := kO 96 g x, recovered := false }] ∧ L1 = ((g, Ob #[y, z] 72) :: [])) := by
 let b7 : Value := (.pointer (some ⟨g, 0, none⟩))
 let R := ((g, Ob #[j, (.bool I.fH)] 72) :: [])
 have d := ST.kG (dd := true) h0
 refine ig (n := 31) func50 rfl rfl nb (sg (Wa (lS (Wm (bS hm fun r1 e0 hm => VE (Eg d call53 (nL g j I.b I.fH _ _ (K.mono (Pl.mono _) d.fw) (At.of (d.at_ Mh) _ rfl) e0) (fun W3 d => ln (CI hm rfl (fun d9 hm => ?_) (fun d9 hm => ?_)))))))))
 ·refine sg (Wa (lt (ga (jX ?_))))
  obtain rfl := sj hm
  exact fL (v := (.int .i64 0)) rfl rfl (fI.ri ⟨_, _, _, rfl, (d.fR (Kb Sn)), (eT.refl _), Lo.refl, (ST.fl d (fM.mem (Kb Sn))), j, rfl, rfl, K⟩)
 refine kg (Wa (lS (Wa (ln (kq (nV (fun m E W => ∃ G u Q N T Y b3, eT μ0 Y ∧ Lo (keys R) w μ0 Y ∧ ST true (keys R) w W Y ((g, Ob #[Q, (.bool T)] 72) :: b3) ∧ E 0 = b7 ∧ E 1 = (.int .i64 P) ∧ E 5 = (.int .i64 G) ∧ E 6 = (.int .i64 u) ∧ Sl (Pl (eQ .u8)) 1 Y Q N ∧ fS P m G u N T = some s) iu ⟨0, 0, j, I.b, I.fH, μ0, _, (eT.refl _), Lo.refl, (d.eS St), rfl, rfl, rfl, rfl, K, hm⟩ ?_))))))
 rintro m E W ⟨G, u, Q, N, T, Y, b3, H, o, d, a7, b5, d2, a8, b1, i⟩
 cases m with
 | zero => rw [fS] at i; cases i
 | succ d4 =>
  refine fm (bg (Wh a7 (Wh a8 (bS i fun d8 a9 i => ?_))))
  rcases d8 with e6 | t
  ·have O := d.size
   refine iL (.inl rfl) (gl (args := [b7, (.int .i64 u)]) (caps := #[]) _ _ d (Cb Pz Cn) rfl call65 (by exact jC rfl rfl) (fun hH hN L aa => (fc.l (mG g (⟨N, T⟩ : eP) Q u _ _ ⟨hH, hN, L⟩ (b1.mono (Pl.mono _) (eT.refl _)) a9))) (fun d0 e3 Z c8 d D h q => ?_))
   obtain ⟨f0, f2, c3, rfl⟩ := q
   replace d := d.perm (Tb Tn)
   refine gk (np (gk (gk (np (gk (gP ?_))))))
   obtain rfl := sj i
   exact fI.li ⟨_, _, _, rfl, (d.fR (Kb Sn)), (H.trans D), (o.trans h), (ST.fl d (fM.mem (Kb Sn))), ⟨_, _, c3, rfl⟩⟩
  have O := d.size
  refine VE (eD d (Cb Pz Cn) call65 (fun hh => (fc.r (mG g (⟨N, T⟩ : eP) Q u _ _ hh (b1.mono (Pl.mono _) (eT.refl _)) a9))) ?_)
  rintro d0 e8 Z c8 d D h ⟨U, a3, rfl, J⟩
  obtain rfl := a3.symm
  replace d := d.perm (Tb Tn)
  refine Wa (lr (Wh d2 (Wm (V (yz (k := .u8) (a := t.1) (b := 127) (v := (.int .u8 (IntKind.u8.wrap (BitVec.ofInt (IntKind.bits .u8) t.1 &&& BitVec.ofInt (IntKind.bits .u8) 127).toNat))) rfl rfl dc rfl) (V (mF (k' := .u8) (a := (IntKind.u8.wrap (BitVec.ofInt (IntKind.bits .u8) t.1 &&& BitVec.ofInt (IntKind.bits .u8) 127).toNat)) bI ef rfl) (Wh a8 (Wi rfl (bS i fun _ c5 i => V (Ab (a := (wi0 .i64 (IntKind.u8.wrap (BitVec.ofInt (IntKind.bits .u8) t.1 &&& BitVec.ofInt (IntKind.bits .u8) 127).toNat))) (b := (wi0 .i64 (7 * u))) rfl rfl (zp c5)) (V (xt (k := .i64) (a := G) (b := (wi0 .i64 ((wi0 .i64 (IntKind.u8.wrap (BitVec.ofInt (IntKind.bits .u8) t.1 &&& BitVec.ofInt (IntKind.bits .u8) 127).toNat)) * 2 ^ min (Int.toNat (wi0 .i64 (7 * u))) (IntKind.bits .i64)))) (v := (.int .i64 (wi0 .i64 (BitVec.ofInt (IntKind.bits .i64) G ||| BitVec.ofInt (IntKind.bits .i64) (wi0 .i64 ((wi0 .i64 (IntKind.u8.wrap (BitVec.ofInt (IntKind.bits .u8) t.1 &&& BitVec.ofInt (IntKind.bits .u8) 127).toNat)) * 2 ^ min (Int.toNat (wi0 .i64 (7 * u))) (IntKind.bits .i64)))).toNat))) rfl rfl rfl) (Wa ?_))))))))))
  let a0 := (wi0 .i64 (BitVec.ofInt (IntKind.bits .i64) G ||| BitVec.ofInt (IntKind.bits .i64) (wi0 .i64 ((wi0 .i64 (IntKind.u8.wrap (BitVec.ofInt (IntKind.bits .u8) t.1 &&& BitVec.ofInt (IntKind.bits .u8) 127).toNat)) * 2 ^ min (Int.toNat (wi0 .i64 (7 * u))) (IntKind.bits .i64)))).toNat)
  refine lr (Wm (Wi rfl (ln (CI i rfl (fun c1 i => ?_) (fun c1 i => ?_)))))
  ·refine nU (AW (by simp) (nG (nG (st (fj (fm (sV i (fun d6 E W => ∃ a5 b4, eT Z a5 ∧ Lo (keys R) w Z a5 ∧ ST true (keys R) w W a5 ((g, Ob #[U, (.bool ((t.2).fH))] 72) :: b4) ∧ E 5 = (.int .i64 a0)) (fun d6 B a2 => ?_) ?_)))))))
   ·refine sg (Wm (Wh b5 (Wi rfl (ln (CI B rfl (fun c2 B => ?_) (fun c2 B => ?_))))))
    ·refine eW (Wh a7 (bS B fun d7 b0 B => ?_))
     rcases d7 with d5 | e7
     ·have O := d.size
      refine iL (.inl rfl) (gl (args := [b7, (.int .i64 12)]) (caps := #[]) _ _ d (Cb Pz Cn) rfl cO (by exact jC rfl rfl) (fun hH hN L aa => (fc.l (fi g t.2 U 12 _ _ ⟨hH, hN, L⟩ (J.mono (Pl.mono _) (eT.refl _)) b0))) (fun d1 e4 b6 c9 d M p A => ?_))
      obtain ⟨f1, f3, c4, rfl⟩ := A
      replace d := d.perm (Tb Tn)
      refine gk (gP ?_)
      obtain rfl := sj B
      replace a2 : some (Sum.inl d5) = some s := a2
      obtain rfl := sj a2
      exact fI.li ⟨_, _, _, rfl, (d.fR (Kb Sn)), ((H.trans D).trans M), ((o.trans h).trans p), (ST.fl d (fM.mem (Kb Sn))), ⟨_, _, c4, rfl⟩⟩
     have O := d.size
     refine VE (eD d (Cb Pz Cn) cO (fun hh => (fc.r (fi g t.2 U 12 _ _ hh (J.mono (Pl.mono _) (eT.refl _)) b0))) ?_)
     rintro d1 e9 b6 c9 d M p ⟨a4, rfl⟩
     obtain rfl := a4.symm
     replace d := d.perm (Tb Tn)
     refine ln ?_
     obtain rfl := sj B
     exact ⟨_, rfl, b6, _, M, p, (d.eS St), rfl⟩
    refine kn ?_
    obtain rfl := sj B
    exact ⟨_, rfl, Z, _, (eT.refl _), Lo.refl, (d.eS St), rfl⟩
   rintro ⟨⟩ E W ⟨a5, b4, a6, F, d, d3⟩ c6
   refine sg (Wh d3 (Wa (lt (jX ?_))))
   obtain rfl := sj c6
   exact fL (v := (.int .i64 a0)) rfl rfl (fI.ri ⟨_, _, _, rfl, (d.fR (Kb Sn)), ((H.trans D).trans a6), ((o.trans h).trans F), (ST.fl d (fM.mem (Kb Sn))), U, rfl, rfl, (J.mono (Pl.mono _) a6)⟩)
  exact gH (gF (fj (eW (Wh a8 (Wi rfl (Wa (ln ⟨d4, cK _, a0, (wi0 .i64 (u + 1)), U, ((t.2).b), ((t.2).fH), Z, _, (H.trans D), (o.trans h), (d.eS St), a7, b5, rfl, rfl, J, i⟩)))))))
theorem jx (a : Nat) (J : eP) (k : Value) (a1 : Int) (s : (Int ⊕ ((List Int) × eP))) (w : World) {μ0 : eV} (h0 : jL μ0 ((a, Ob #[k, (.bool J.fH)] 72) :: []) w) (D : Sl (Pl (eQ .u8)) 1 μ0 k J.b) (hm : iE J a1 = some s) :
  fc true Try.prog 30 [(.pointer (some ⟨a, 0, none⟩)), (.int .i64 a1)] w μ0 ((a, Ob #[k, (.bool J.fH)] 72) :: []) s (fun r v L1 μ1 => ∃ y1 y3, v = y1 ∧ L1 = ((a, Ob #[y3, (.bool ((r.2).fH))] 72) :: []) ∧ Sl (Pl (eQ .u8)) 1 μ1 y1 (r.1) ∧ Sl (Pl (eQ .u8)) 1 μ1 y3 ((r.2).b)) (fun x c L1 μ1 => ∃ y z, c = [{ v := kO 96 a x, recovered := false }] ∧ L1 = ((a, Ob #[y, z] 72) :: [])) := by
 let b6 := ((a, Ob #[k, (.bool J.fH)] 72) :: [])
 let b2 : Value := (.pointer (some ⟨a, 0, none⟩))
 have d := ST.kG (dd := true) h0
 refine ig (n := 44) func30 rfl rfl nb (sg (Wa (lS (Wm (bS hm fun r1 e6 hm => VE (Eg d call53 (nL a k J.b J.fH _ _ (D.mono (Pl.mono _) d.fw) (At.of (d.at_ Mh) _ rfl) e6) (fun W3 d => ln (CI hm rfl (fun e5 hm => ?_) (fun e5 hm => ?_)))))))))
 ·refine sg (Wa (lt (ga (jX ?_))))
  obtain rfl := sj hm
  exact fL (v := (.slice none 0 0)) rfl rfl (fI.ri ⟨_, _, _, rfl, (d.fR (Kb Sn)), (eT.refl _), Lo.refl, (ST.fl d (fM.mem (Kb Sn))), (.slice none 0 0), k, rfl, rfl, (Sl.nil _ _ _), D⟩)
 refine kg (Wm (bS hm fun d9 c0 hm => ?_))
 rcases d9 with g5 | t
 ·have A := d.size
  refine iL (.inl rfl) (gl (args := [b2, (.int .i64 9223372036854775807)]) (caps := #[]) _ _ d (Cb Pz Cn) rfl call50 (by exact jC rfl rfl) (fun hH P q ae => (fc.l (iW a J k 9223372036854775807 _ _ ⟨hH, P, q⟩ (D.mono (Pl.mono _) (eT.refl _)) c0))) (fun W7 g4 F e2 d I h R => ?_))
  obtain ⟨h2, h3, d1, rfl⟩ := R
  replace d := d.perm (Tb Tn)
  refine gk (gP ?_)
  obtain rfl := sj hm
  exact fI.li ⟨_, _, _, rfl, (d.fR (Kb Sn)), I, h, (ST.fl d (fM.mem (Kb Sn))), ⟨_, _, d1, rfl⟩⟩
 have A := d.size
 refine VE (eD d (Cb Pz Cn) call50 (fun hh => (fc.r (iW a J k 9223372036854775807 _ _ hh (D.mono (Pl.mono _) (eT.refl _)) c0))) ?_)
 rintro W7 g8 F e2 d I h ⟨T, U, rfl, B⟩
 obtain rfl := U.symm
 replace d := d.perm (Tb Tn)
 refine Wa (ln (fm (sV hm (fun e7 E W => ∃ a3 b7, eT F a3 ∧ Lo (keys b6) w F a3 ∧ ST true (keys b6) w W a3 ((a, Ob #[T, (.bool ((t.2).fH))] 72) :: b7) ∧ E 0 = b2 ∧ E 5 = (.int .i64 t.1)) (fun e7 g G => ?_) ?_)))
 ·refine bg (Wm (Wm (Wi rfl (Wa (ln (CI g rfl (fun d0 g => ?_) (fun d0 g => ?_)))))))
  ·refine eW (Wm (bS g fun d7 a9 g => ?_))
   rcases d7 with d5 | g7
   ·have A := d.size
    refine iL (.inl rfl) (gl (args := [b2, (.int .i64 12)]) (caps := #[]) _ _ d (Cb Pz Cn) rfl cO (by exact jC rfl rfl) (fun hH P q ae => (fc.l (fi a t.2 T 12 _ _ ⟨hH, P, q⟩ (B.mono (Pl.mono _) (eT.refl _)) a9))) (fun e3 f2 c2 c4 d M p L => ?_))
    obtain ⟨f7, f9, b4, rfl⟩ := L
    replace d := d.perm (Tb Tn)
    refine np (gk (gP ?_))
    obtain rfl := sj g
    replace G : some (Sum.inl d5) = some s := G
    obtain rfl := sj G
    exact fI.li ⟨_, _, _, rfl, (d.fR (Kb Sn)), (I.trans M), (h.trans p), (ST.fl d (fM.mem (Kb Sn))), ⟨_, _, b4, rfl⟩⟩
   have A := d.size
   refine VE (eD d (Cb Pz Cn) cO (fun hh => (fc.r (fi a t.2 T 12 _ _ hh (B.mono (Pl.mono _) (eT.refl _)) a9))) ?_)
   rintro e3 h1 c2 c4 d M p ⟨N, rfl⟩
   obtain rfl := N.symm
   replace d := d.perm (Tb Tn)
   refine fB (gF (fj ?_))
   obtain rfl := sj g
   exact ⟨_, rfl, c2, _, M, p, (d.eS St), rfl, rfl⟩
  refine sg (Wm (Wm (Wn (Wf mJ (VB d Mh rfl rfl bU (V (gX az rfl B) (Wi rfl (Wa (ln (CI g rfl (fun b3 g => ?_) (fun b3 g => ?_)))))))))))
  ·refine eW (Wm (bS g fun d8 a2 g => ?_))
   rcases d8 with d6 | f5
   ·have A := d.size
    refine iL (.inl rfl) (gl (args := [b2, (.int .i64 10)]) (caps := #[]) _ _ d (Cb Pz Cn) rfl cO (by exact jC rfl rfl) (fun hH P q ae => (fc.l (fi a t.2 T 10 _ _ ⟨hH, P, q⟩ (B.mono (Pl.mono _) (eT.refl _)) a2))) (fun c6 f3 b1 c5 d H o O => ?_))
    obtain ⟨f8, g0, b5, rfl⟩ := O
    replace d := d.perm (Tb Tn)
    refine np (gk (gP ?_))
    obtain rfl := sj g
    replace G : some (Sum.inl d6) = some s := G
    obtain rfl := sj G
    exact fI.li ⟨_, _, _, rfl, (d.fR (Kb Sn)), (I.trans H), (h.trans o), (ST.fl d (fM.mem (Kb Sn))), ⟨_, _, b5, rfl⟩⟩
   have A := d.size
   refine VE (eD d (Cb Pz Cn) cO (fun hh => (fc.r (fi a t.2 T 10 _ _ hh (B.mono (Pl.mono _) (eT.refl _)) a2))) ?_)
   rintro c6 f6 b1 c5 d H o ⟨Q, rfl⟩
   obtain rfl := Q.symm
   replace d := d.perm (Tb Tn)
   refine fB (gF (fj ?_))
   obtain rfl := sj g
   exact ⟨_, rfl, b1, _, H, o, (d.eS St), rfl, rfl⟩
  refine gH (gF (fj ?_))
  obtain rfl := sj g
  exact ⟨_, rfl, F, _, (eT.refl _), Lo.refl, (d.eS St), rfl, rfl⟩
 rintro ⟨⟩ E W ⟨a3, b7, K, aa, d, a6, b9⟩ u
 refine sg (Wh a6 (Wn (Wf mJ (VB d Mh rfl rfl bU (Wh b9 (bS u fun _ a7 u => VQ (vS (j := t.1) az cX rfl rfl (B.mono (Pl.mono _) K) (oN a7) (oE a7)) (fun e8 d3 => bS u fun g6 d2 u => VE (mh d call20 (mm e8 (((t.2).b).take (Int.toNat t.1)) _ _ (d3.1.mono (Pl.mono _) d.fw) d2) (fun g2 c1 h4 g1 d Y ab c9 => Wa (ln (fm ?_)))))))))))
 refine eW (Wh a6 (Wh a6 (Wn (Wf mJ (VB d (Ma Mh) rfl rfl bU (Wh b9 (bS u fun _ a8 u => VQ (qV (i := t.1) az cX rfl rfl (B.mono (Pl.mono _) (K.trans Y)) (oN a8) (oE a8)) (fun g9 b0 => Wn (Wf mJ ?_)))))))))
 obtain ⟨a4, a5, rfl⟩ := b0.1.form
 let a0 : Value := (.slice a4 (((t.2).b).drop (Int.toNat t.1)).length a5)
 replace d := d.perm (Nb (Pr Pz) Nz)
 refine VO (fD a0 (#[a0, (.bool ((t.2).fH))]) d rfl rfl df oc nb rfl (fun g3 d => lr (Wm (Wa (lt (jX ?_))))))
 obtain rfl := sj u
 refine fL (v := c1) rfl rfl ?_
 replace d := d.perm (Nr (Qb Qz) Nz)
 obtain ⟨h5, d, Z, ad, d4⟩ := ST.sG d c9 (fun _ => rfl)
 exact fI.ri ⟨_, _, _, rfl, (d.fR (Kb Sn)), (((I.trans K).trans Y).trans Z), (((h.trans aa).trans ab).trans ad), (ST.fl d (fM.mem (Kb Sn))), c1, a0, rfl, rfl, d4, (b0.1.mono (Pl.mono _) Z)⟩
theorem jh (a : Nat) (G : eP) (g : Value) (s : (Int ⊕ (ByteArray × eP))) (w : World) {Z : eV} (h0 : jL Z ((a, Ob #[g, (.bool G.fH)] 72) :: []) w) (t : Sl (Pl (eQ .u8)) 1 Z g G.b) (hm : jR G = some s) :
  fc true Try.prog 52 [(.pointer (some ⟨a, 0, none⟩))] w Z ((a, Ob #[g, (.bool G.fH)] 72) :: []) s (fun r v K μ1 => ∃ P, v = (.string (r.1)) ∧ K = ((a, Ob #[P, (.bool ((r.2).fH))] 72) :: []) ∧ Sl (Pl (eQ .u8)) 1 μ1 P ((r.2).b)) (fun x c K μ1 => ∃ y z, c = [{ v := kO 96 a x, recovered := false }] ∧ K = ((a, Ob #[y, z] 72) :: [])) := by
 have d := ST.kG (dd := true) h0
 refine ig (n := 15) func52 rfl rfl nb (sg (Wa (lS (Wm (V (jB ew rfl rfl) (ln (jD rfl (gH ?_))))))))
 refine fj (sg (Wm (bS hm fun a5 J hm => ?_)))
 rcases a5 with b6 | I
 ·have q := d.size
  refine iL (.inl rfl) (gl (args := [(.pointer (some ⟨a, 0, none⟩)), (.int .i64 16)]) (caps := #[]) _ _ d (Cb Pz Cn) rfl call30 (by exact jC rfl rfl) (fun hH F p M => (fc.l (jx a G g 16 _ _ ⟨hH, F, p⟩ (t.mono (Pl.mono _) (eT.refl _)) J))) (fun W3 b4 O L9 d j o A => ?_))
  obtain ⟨c3, c5, Q, rfl⟩ := A
  replace d := d.perm (Tb Tn)
  refine gk (gP ?_)
  obtain rfl := sj hm
  exact fI.li ⟨_, _, _, rfl, (d.fR (Kb Sn)), j, o, (ST.fl d (fM.mem (Kb Sn))), ⟨_, _, Q, rfl⟩⟩
 have q := d.size
 refine VE (eD d (Cb Pz Cn) call30 (fun L => (fc.r (jx a G g 16 _ _ L (t.mono (Pl.mono _) (eT.refl _)) J))) ?_)
 rintro W3 v7 O L9 d j o ⟨c2, D, u, rfl, Y, k⟩
 obtain rfl := u.symm
 replace d := d.perm (Tb Tn)
 refine V (ph az bI aZ rfl (Y.mono (Pl.mono _) d.fw)) (Wa (lS (Wm (bS hm fun b9 U hm => VE (Eg d call19 (jI (jU I.1) _ _  U) (fun b3 d => V (ly rfl) (ln (CI hm rfl (fun N hm => ?_) (fun N hm => ?_)))))))))
 ·refine sg (Wm (bS hm fun a4 H hm => ?_))
  rcases a4 with b7 | c0
  ·have q := d.size
   refine iL (.inl rfl) (gl (args := [(.pointer (some ⟨a, 0, none⟩)), (.int .i64 30)]) (caps := #[]) _ _ d (Cb Pz Cn) rfl cO (by exact jC rfl rfl) (fun hH F p M => (fc.l (fi a I.2 D 30 _ _ ⟨hH, F, p⟩ (k.mono (Pl.mono _) (eT.refl _)) H))) (fun a2 b5 W R d i h E => ?_))
   obtain ⟨c4, c6, T, rfl⟩ := E
   replace d := d.perm (Tb Tn)
   refine gk (gk (gP ?_))
   obtain rfl := sj hm
   exact fI.li ⟨_, _, _, rfl, (d.fR (Kb Sn)), (j.trans i), (o.trans h), (ST.fl d (fM.mem (Kb Sn))), ⟨_, _, T, rfl⟩⟩
  have q := d.size
  refine VE (eD d (Cb Pz Cn) cO (fun L => (fc.r (fi a I.2 D 30 _ _ L (k.mono (Pl.mono _) (eT.refl _)) H))) ?_)
  rintro a2 c1 W R d i h ⟨B, rfl⟩
  obtain rfl := B.symm
  replace d := d.perm (Tb Tn)
  refine lr (Wa (lt (ga (jX ?_))))
  obtain rfl := sj hm
  exact fL (v := (.string zS)) rfl rfl (fI.ri ⟨_, _, _, rfl, (d.fR (Kb Sn)), (j.trans i), (o.trans h), (ST.fl d (fM.mem (Kb Sn))), D, rfl, rfl, (k.mono (Pl.mono _) i)⟩)
 refine kg (Wm (Wa (lt (jX ?_))))
 obtain rfl := sj hm
 exact fL (v := (.string (jU I.1))) rfl rfl (fI.ri ⟨_, _, _, rfl, (d.fR (Kb Sn)), j, o, (ST.fl d (fM.mem (Kb Sn))), D, rfl, rfl, k⟩)
theorem hU (a : Nat) (G : eP) (g : Value) (s : (Int ⊕ (fg × eP))) (w : World) {Z : eV} (h0 : jL Z ((a, Ob #[g, (.bool G.fH)] 72) :: []) w) (u : Sl (Pl (eQ .u8)) 1 Z g G.b) (hm : jj G = some s) :
  fc true Try.prog 51 [(.pointer (some ⟨a, 0, none⟩))] w Z ((a, Ob #[g, (.bool G.fH)] 72) :: []) s (fun r v M μ1 => ∃ R, v = (.agg (fz (r.1)).toArray) ∧ M = ((a, Ob #[R, (.bool ((r.2).fH))] 72) :: []) ∧ Sl (Pl (eQ .u8)) 1 μ1 R ((r.2).b)) (fun x c M μ1 => ∃ y z, c = [{ v := kO 96 a x, recovered := false }] ∧ M = ((a, Ob #[y, z] 72) :: [])) := by
 have d := ST.kG (dd := true) h0
 refine ig (n := 10) func51 rfl rfl nb (sg (VE (gN d zeroValue24 (fun W2 b1 d => lr (Wm (bS hm fun a5 J hm => ?_))))))
 rcases a5 with b7 | t
 ·have q := d.size
  refine iL (.inl rfl) (gl (args := [(.pointer (some ⟨a, 0, none⟩))]) (caps := #[]) _ _ d (Cb (Pb Pz) Cn) rfl call52 (by exact jA rfl) (fun hH F p O => (fc.l (jh a G g _ _ ⟨hH, F, p⟩ (u.mono (Pl.mono _) (eT.refl _)) J))) (fun W5 b5 P W d k o A => ?_))
  obtain ⟨c1, c3, T, rfl⟩ := A
  replace d := d.perm (Tb Tn)
  refine gk (gP ?_)
  obtain rfl := sj hm
  exact fI.li ⟨_, _, _, rfl, (d.fR (Kb Sn)), k, o, (ST.fl d (fM.mem (Kb Sn))), ⟨_, _, T, rfl⟩⟩
 have q := d.size
 refine VE (eD d (Cb (Pb Pz) Cn) call52 (fun L => (fc.r (jh a G g _ _ L (u.mono (Pl.mono _) (eT.refl _)) J))) ?_)
 rintro W5 v9 P W d k o ⟨K, B, rfl, I⟩
 obtain rfl := B.symm
 replace d := d.perm (Tb Tn)
 refine Wa (lr (Wm (Wm (bS hm fun a4 H hm => ?_))))
 rcases a4 with b9 | i
 ·have q := d.size
  refine iL (.inl rfl) (gl (args := [(.pointer (some ⟨a, 0, none⟩))]) (caps := #[]) _ _ d (Cb Pz Cn) rfl call52 (by exact jA rfl) (fun hH F p O => (fc.l (jh a t.2 K _ _ ⟨hH, F, p⟩ (I.mono (Pl.mono _) (eT.refl _)) H))) (fun a3 b6 a9 a2 d j h E => ?_))
  obtain ⟨c2, c4, U, rfl⟩ := E
  replace d := d.perm (Tb Tn)
  refine gk (gP ?_)
  obtain rfl := sj hm
  exact fI.li ⟨_, _, _, rfl, (d.fR (Kb Sn)), (k.trans j), (o.trans h), (ST.fl d (fM.mem (Kb Sn))), ⟨_, _, U, rfl⟩⟩
 have q := d.size
 refine VE (eD d (Cb Pz Cn) call52 (fun L => (fc.r (jh a t.2 K _ _ L (I.mono (Pl.mono _) (eT.refl _)) H))) ?_)
 rintro a3 c0 a9 a2 d j h ⟨a7, D, rfl, Y⟩
 obtain rfl := D.symm
 replace d := d.perm (Tb Tn)
 let N := (⟨t.1, i.1⟩ : fg)
 let Q : Value := (.agg (fz N).toArray)
 refine V (gI (v := Q) (kB rfl rfl) (fT zeroValue24 cv (zA _ cv) kr)) ?_
 replace d := d.perm (Nb (Pb Pz) Nz)
 refine VO (fD Q ((fz N).toArray) d rfl rfl aY (lh N) nb rfl (fun b4 d => lt (jX ?_)))
 obtain rfl := sj hm
 exact lK (v := Q) rfl rfl (fh d.has Mh (fz N) rfl bT aY) (fI.ri ⟨_, _, _, rfl, (d.fR (Db (Kb Sn))), (k.trans j), (o.trans h), (ST.fl d (fM.mem (Db (Kb Sn)))), a7, rfl, rfl, Y⟩)
set_option maxHeartbeats 4000000 in
theorem qf (a : Nat) (a0 : eP) (j : Value) (s : (Int ⊕ (eH × eP))) (w : World) {μ0 : eV} (h0 : jL μ0 ((a, Ob #[j, (.bool a0.fH)] 72) :: []) w) (d1 : Sl (Pl (eQ .u8)) 1 μ0 j a0.b) (hm : mO a0 = some s) :
  fc true Try.prog 29 [(.pointer (some ⟨a, 0, none⟩))] w μ0 ((a, Ob #[j, (.bool a0.fH)] 72) :: []) s (fun r v L1 μ1 => ∃ y1, v = (.agg (eO (r.1)).toArray) ∧ L1 = ((a, Ob #[y1, (.bool ((r.2).fH))] 72) :: []) ∧ Sl (Pl (eQ .u8)) 1 μ1 y1 ((r.2).b)) (fun x c L1 μ1 => ∃ y z, c = [{ v := kO 96 a x, recovered := false }] ∧ L1 = ((a, Ob #[y, z] 72) :: [])) := by
 let h2 : Value := (.agg (eO K6).toArray)
 let g9 := ((eO K6).toArray : Array Value)
 let b8 := ((a, Ob #[j, (.bool a0.fH)] 72) :: [])
 let a5 : Value := (.pointer (some ⟨a, 0, none⟩))
 have d := ST.kG (dd := true) h0
 refine ig (n := 55) func29 rfl rfl nb (sg (VE (gN d bA (fun W2 b1 d => lr (Wm (bS hm fun o3 k2 hm => ?_))))))
 let h1 : Value := (.pointer (some ⟨b1, 0, none⟩))
 rcases o3 with v1 | J
 ·have o := d.size
  refine iL (.inl rfl) (gl (args := [a5, (.int .i64 9223372036854775807)]) (caps := #[]) _ _ d (Cb (Pb Pz) Cn) rfl call50 (by exact jC rfl rfl) (fun hH F h R => (fc.l (iW a a0 j 9223372036854775807 _ _ ⟨hH, F, h⟩ (d1.mono (Pl.mono _) (eT.refl _)) k2))) (fun W5 u9 ai p2 d u A au => ?_))
  obtain ⟨v4, v6, m4, rfl⟩ := au
  replace d := d.perm (Tb Tn)
  refine gk (gP ?_)
  obtain rfl := sj hm
  exact fI.li ⟨_, _, _, rfl, (d.fR (Kb Sn)), u, A, (ST.fl d (fM.mem (Kb Sn))), ⟨_, _, m4, rfl⟩⟩
 have o := d.size
 refine VE (eD d (Cb (Pb Pz) Cn) call50 (fun L => (fc.r (iW a a0 j 9223372036854775807 _ _ L (d1.mono (Pl.mono _) (eT.refl _)) k2))) ?_)
 rintro W5 v9 ai p2 d u A ⟨b5, d4, rfl, c8⟩
 let h3 := (#[b5, (.bool ((J.2).fH))] : Array Value)
 obtain rfl := d4.symm
 replace d := d.perm (Tb Tn)
 let f2 := (⟨J.1, K0, zS, K0, K0, zS⟩ : eH)
 refine V (gI (v := (.agg (eO f2).toArray)) (jc rfl) (fT bA bl (vX _ bl) kr)) (VE (gN d bA (fun u6 b4 d => VO (fD (.agg (eO f2).toArray) ((eO f2).toArray) d rfl rfl aC (iT f2) nb rfl (fun u7 d => ln (fm (sV hm (fun o1 E W => ∃ f0 k1, eT ai f0 ∧ Lo (keys b8) w ai f0 ∧ ST true (keys b8) w W f0 ((b4, Ol (eO f2) 26) :: ((a, Obj.cells h3 72 (0, 0)) :: ((b1, Obj.cells g9 26 (0, 0)) :: k1))) ∧ E 0 = a5 ∧ E 2 = h1 ∧ E 3 = (.pointer (some ⟨b4, 0, none⟩))) (fun o1 j5 b7 => ?_) ?_)))))))
 ·refine sg (Wf nZ (VB d Mh rfl rfl eu (Wi rfl (Wm (LJ j5 (fun g0 E W => ∃ f4, ST true (keys b8) w W ai ((b4, Ol (eO f2) 26) :: ((a, Obj.cells h3 72 (0, 0)) :: ((b1, Obj.cells g9 26 (0, 0)) :: f4))) ∧ E 0 = a5 ∧ E 2 = h1 ∧ E 3 = (.pointer (some ⟨b4, 0, none⟩)) ∧ E 14 = (.bool g0)) 4 ?_ (fun g0 Z d2 => ?_))))))
  ·rintro s9 E W ⟨f4, d, d3, f6, f7, m1⟩ H
   refine ln (CI H m1 (fun i4 H => ?_) (fun i4 H => ?_))
   ·refine eW (Wh d3 (bS H fun o2 e7 H => ?_))
    rcases o2 with n2 | s0
    ·have o := d.size
     refine iL (.inl rfl) (gl (args := [a5, (.int .i64 11)]) (caps := #[]) _ _ d (Cb (Pb Pz) Cn) rfl cO (by exact jC rfl rfl) (fun hH F h R => (fc.l (fi a J.2 b5 11 _ _ ⟨hH, F, h⟩ (c8.mono (Pl.mono _) (eT.refl _)) e7))) (fun l9 r5 g8 l1 d b2 ah ar => ?_))
     obtain ⟨t7, u5, j4, rfl⟩ := ar
     replace d := d.perm (Tb Tn)
     refine gk (gP ?_)
     obtain rfl := sj H
     replace b7 : some (Sum.inl n2) = some s := b7
     obtain rfl := sj b7
     exact fI.li ⟨_, _, _, rfl, (d.fR (Kb Sn)), (u.trans b2), (A.trans ah), (ST.fl d (fM.mem (Kb Sn))), ⟨_, _, j4, rfl⟩⟩
    have o := d.size
    refine VE (eD d (Cb (Pb Pz) Cn) cO (fun L => (fc.r (fi a J.2 b5 11 _ _ L (c8.mono (Pl.mono _) (eT.refl _)) e7))) ?_)
    rintro l9 s8 g8 l1 d b2 ah ⟨c7, rfl⟩
    obtain rfl := c7.symm
    replace d := d.perm (Tb Tn)
    refine ln ?_
    obtain rfl := sj H
    exact ⟨_, rfl, g8, _, b2, ah, (d.eS (Sb (Pb Pz) St)), d3, f6, f7⟩
   refine kn ?_
   obtain rfl := sj H
   exact ⟨_, rfl, ai, _, (eT.refl _), Lo.refl, (d.eS St), d3, f6, f7⟩
  refine bC Z (fun G Z => ?_) (fun G Z => ?_)
  ·refine un G (un G (un G (V (ft (cB G) rfl) ?_)))
   obtain rfl := sj Z
   exact d2 _ _ ⟨_, (d.eS St), rfl, rfl, rfl, rfl⟩
  refine ug G (fe nZ rfl) (ug G (eU rfl (fx d.has Mh rfl eu)) (ug G (gi rfl rfl rfl) (V (fq (cB G) rfl) ?_)))
  obtain rfl := sj Z
  exact d2 _ _ ⟨_, (d.eS St), rfl, rfl, rfl, rfl⟩
 rintro ⟨⟩ E W ⟨f0, k1, k, q, d, M, d0, I⟩ b9
 refine sg (Wh M (bS b9 fun o0 f8 b9 => ?_))
 rcases o0 with v2 | D
 ·have o := d.size
  refine iL (.inl rfl) (gl (args := [a5]) (caps := #[]) _ _ d (Cb (Pb Pz) Cn) rfl ey (by exact jA rfl) (fun hH F h R => (fc.l (hU a J.2 b5 _ _ ⟨hH, F, h⟩ (c8.mono (Pl.mono _) k) f8))) (fun p4 v0 f1 p3 d t p av => ?_))
  obtain ⟨v5, v7, m5, rfl⟩ := av
  replace d := d.perm (Tb Tn)
  refine gk (gP ?_)
  obtain rfl := sj b9
  exact fI.li ⟨_, _, _, rfl, (d.fR (Kb Sn)), ((u.trans k).trans t), ((A.trans q).trans p), (ST.fl d (fM.mem (Kb Sn))), ⟨_, _, m5, rfl⟩⟩
 have o := d.size
 refine VE (eD d (Cb (Pb Pz) Cn) ey (fun L => (fc.r (hU a J.2 b5 _ _ L (c8.mono (Pl.mono _) k) f8))) ?_)
 rintro p4 v3 f1 p3 d t p ⟨a1, d5, rfl, K⟩
 obtain rfl := d5.symm
 replace d := d.perm (Tb Tn)
 refine V (fe nD I) ?_
 replace d := d.perm (Nb (Pb Pz) Nz)
 refine VO (fD (.agg (fz D.1).toArray) ((eO (⟨J.1, D.1, zS, K0, K0, zS⟩ : eH)).toArray) d rfl rfl aY (lh D.1) nb rfl (fun u8 d => ln (fm (sV b9 (fun c9 E W => ∃ Q b3 f3, eT f1 b3 ∧ Lo (keys b8) w f1 b3 ∧ ST true (keys b8) w W b3 ((b4, Ol (eO c9.1) 26) :: ((a, Ob #[Q, (.bool c9.2.2)] 72) :: ((b1, Obj.cells g9 26 (0, 0)) :: f3))) ∧ E 0 = a5 ∧ E 2 = h1 ∧ E 3 = (.pointer (some ⟨b4, 0, none⟩)) ∧ Sl (Pl (eQ .u8)) 1 b3 Q c9.2.1) (fun c9 g i => ?_) ?_))))
 ·refine sg (V (fe nZ I) (VB d Mh rfl rfl eu (ln (bg (Wi rfl (Wa (ln (CI g rfl (fun i0 g => ?_) (fun i0 g => ?_)))))))))
  ·refine eW (Wh M (bS g fun n4 e1 g => ?_))
   rcases n4 with m6 | d6
   ·have o := d.size
    refine iL (.inl rfl) (gl (args := [a5]) (caps := #[]) _ _ d (Cb (Pb Pz) Cn) rfl call52 (by exact jA rfl) (fun hH F h R => (fc.l (jh a D.2 a1 _ _ ⟨hH, F, h⟩ (K.mono (Pl.mono _) (eT.refl _)) e1))) (fun l3 q8 g4 k5 d a7 ad ak => ?_))
    obtain ⟨t1, t9, i6, rfl⟩ := ak
    replace d := d.perm (Tb Tn)
    refine np (gk (gP ?_))
    obtain rfl := sj g
    replace i : some (Sum.inl m6) = some s := i
    obtain rfl := sj i
    exact fI.li ⟨_, _, _, rfl, (d.fR (Kb Sn)), (((u.trans k).trans t).trans a7), (((A.trans q).trans p).trans ad), (ST.fl d (fM.mem (Kb Sn))), ⟨_, _, i6, rfl⟩⟩
   have o := d.size
   refine VE (eD d (Cb (Pb Pz) Cn) call52 (fun L => (fc.r (jh a D.2 a1 _ _ L (K.mono (Pl.mono _) (eT.refl _)) e1))) ?_)
   rintro l3 s2 g4 k5 d a7 ad ⟨o4, c1, rfl, j7⟩
   obtain rfl := c1.symm
   replace d := d.perm (Tb Tn)
   refine V (fe pg I) ?_
   replace d := d.perm (Nb (Pb Pz) Nz)
   refine VO (fD (.string d6.1) ((eO (⟨J.1, D.1, d6.1, K0, K0, zS⟩ : eH)).toArray) d rfl rfl ee (vO d6.1) nb rfl (fun q0 d => fB (gF (fj ?_))))
   obtain rfl := sj g
   exact ⟨_, rfl, o4, g4, _, a7, ad, (d.eS St), M, d0, I, j7⟩
  refine sg (Wi rfl (Wa (ln (CI g rfl (fun i1 g => ?_) (fun i1 g => ?_)))))
  ·refine eW (Wh M (bS g fun n5 e2 g => ?_))
   rcases n5 with m7 | d7
   ·have o := d.size
    refine iL (.inl rfl) (gl (args := [a5]) (caps := #[]) _ _ d (Cb (Pb Pz) Cn) rfl ey (by exact jA rfl) (fun hH F h R => (fc.l (hU a D.2 a1 _ _ ⟨hH, F, h⟩ (K.mono (Pl.mono _) (eT.refl _)) e2))) (fun l4 q9 g5 k6 d a8 ae al => ?_))
    obtain ⟨t2, u0, i7, rfl⟩ := al
    replace d := d.perm (Tb Tn)
    refine np (gk (gP ?_))
    obtain rfl := sj g
    replace i : some (Sum.inl m7) = some s := i
    obtain rfl := sj i
    exact fI.li ⟨_, _, _, rfl, (d.fR (Kb Sn)), (((u.trans k).trans t).trans a8), (((A.trans q).trans p).trans ae), (ST.fl d (fM.mem (Kb Sn))), ⟨_, _, i7, rfl⟩⟩
   have o := d.size
   refine VE (eD d (Cb (Pb Pz) Cn) ey (fun L => (fc.r (hU a D.2 a1 _ _ L (K.mono (Pl.mono _) (eT.refl _)) e2))) ?_)
   rintro l4 s3 g5 k6 d a8 ae ⟨o5, c2, rfl, j8⟩
   obtain rfl := c2.symm
   replace d := d.perm (Tb Tn)
   refine V (fe iB I) ?_
   replace d := d.perm (Nb (Pb Pz) Nz)
   refine VO (fD (.agg (fz d7.1).toArray) ((eO (⟨J.1, D.1, zS, d7.1, K0, zS⟩ : eH)).toArray) d rfl rfl aY (lh d7.1) nb rfl (fun q1 d => fB (gF (fj ?_))))
   obtain rfl := sj g
   exact ⟨_, rfl, o5, g5, _, a8, ae, (d.eS St), M, d0, I, j8⟩
  refine sg (Wi rfl (Wa (ln (CI g rfl (fun i2 g => ?_) (fun i2 g => ?_)))))
  ·refine sg (Wh M (bS g fun n7 e3 g => ?_))
   rcases n7 with m8 | a2
   ·have o := d.size
    refine iL (.inl rfl) (gl (args := [a5]) (caps := #[]) _ _ d (Cb (Pb Pz) Cn) rfl ey (by exact jA rfl) (fun hH F h R => (fc.l (hU a D.2 a1 _ _ ⟨hH, F, h⟩ (K.mono (Pl.mono _) (eT.refl _)) e3))) (fun l5 r0 p0 k7 d U O an => ?_))
    obtain ⟨t3, u1, i8, rfl⟩ := an
    replace d := d.perm (Tb Tn)
    refine gk (np (gk (gP ?_)))
    obtain rfl := sj g
    replace i : some (Sum.inl m8) = some s := i
    obtain rfl := sj i
    exact fI.li ⟨_, _, _, rfl, (d.fR (Kb Sn)), (((u.trans k).trans t).trans U), (((A.trans q).trans p).trans O), (ST.fl d (fM.mem (Kb Sn))), ⟨_, _, i8, rfl⟩⟩
   have o := d.size
   refine VE (eD d (Cb (Pb Pz) Cn) ey (fun L => (fc.r (hU a D.2 a1 _ _ L (K.mono (Pl.mono _) (eT.refl _)) e3))) ?_)
   rintro l5 s4 p0 k7 d U O ⟨g2, c3, rfl, e8⟩
   obtain rfl := c3.symm
   replace d := d.perm (Tb Tn)
   refine V (fe iB I) ?_
   replace d := d.perm (Nb (Pb Pz) Nz)
   refine VO (fD (.agg (fz a2.1).toArray) ((eO (⟨J.1, D.1, zS, a2.1, K0, zS⟩ : eH)).toArray) d rfl rfl aY (lh a2.1) nb rfl (fun q2 d => ln (eW (Wh M (bS g fun n6 e4 g => ?_)))))
   rcases n6 with m9 | d8
   ·have o := d.size
    refine iL (.inl rfl) (gl (args := [a5]) (caps := #[]) _ _ d (Cb (Pb Pz) Cn) rfl call52 (by exact jA rfl) (fun hH F h R => (fc.l (jh a a2.2 g2 _ _ ⟨hH, F, h⟩ (e8.mono (Pl.mono _) (eT.refl _)) e4))) (fun l6 r1 g6 k8 d a9 af ao => ?_))
    obtain ⟨t4, u2, i9, rfl⟩ := ao
    replace d := d.perm (Tb Tn)
    refine np (gk (gP ?_))
    obtain rfl := sj g
    replace i : some (Sum.inl m9) = some s := i
    obtain rfl := sj i
    exact fI.li ⟨_, _, _, rfl, (d.fR (Kb Sn)), ((((u.trans k).trans t).trans U).trans a9), ((((A.trans q).trans p).trans O).trans af), (ST.fl d (fM.mem (Kb Sn))), ⟨_, _, i9, rfl⟩⟩
   have o := d.size
   refine VE (eD d (Cb (Pb Pz) Cn) call52 (fun L => (fc.r (jh a a2.2 g2 _ _ L (e8.mono (Pl.mono _) (eT.refl _)) e4))) ?_)
   rintro l6 s5 g6 k8 d a9 af ⟨o6, c4, rfl, j9⟩
   obtain rfl := c4.symm
   replace d := d.perm (Tb Tn)
   refine V (fe px I) ?_
   replace d := d.perm (Nb (Pb Pz) Nz)
   refine VO (fD (.string d8.1) ((eO (⟨J.1, D.1, zS, a2.1, K0, d8.1⟩ : eH)).toArray) d rfl rfl ee (vO d8.1) nb rfl (fun q3 d => fB (gF (fj ?_))))
   obtain rfl := sj g
   exact ⟨_, rfl, o6, g6, _, (U.trans a9), (O.trans af), (d.eS St), M, d0, I, j9⟩
  refine sg (Wi rfl (Wa (ln (CI g rfl (fun i3 g => ?_) (fun i3 g => ?_)))))
  ·refine sg (Wh M (bS g fun n9 e5 g => ?_))
   rcases n9 with n0 | a3
   ·have o := d.size
    refine iL (.inl rfl) (gl (args := [a5]) (caps := #[]) _ _ d (Cb (Pb Pz) Cn) rfl ey (by exact jA rfl) (fun hH F h R => (fc.l (hU a D.2 a1 _ _ ⟨hH, F, h⟩ (K.mono (Pl.mono _) (eT.refl _)) e5))) (fun l7 r2 p1 k9 d Y P ap => ?_))
    obtain ⟨t5, u3, j0, rfl⟩ := ap
    replace d := d.perm (Tb Tn)
    refine gk (np (gk (gP ?_)))
    obtain rfl := sj g
    replace i : some (Sum.inl n0) = some s := i
    obtain rfl := sj i
    exact fI.li ⟨_, _, _, rfl, (d.fR (Kb Sn)), (((u.trans k).trans t).trans Y), (((A.trans q).trans p).trans P), (ST.fl d (fM.mem (Kb Sn))), ⟨_, _, j0, rfl⟩⟩
   have o := d.size
   refine VE (eD d (Cb (Pb Pz) Cn) ey (fun L => (fc.r (hU a D.2 a1 _ _ L (K.mono (Pl.mono _) (eT.refl _)) e5))) ?_)
   rintro l7 s6 p1 k9 d Y P ⟨g3, c5, rfl, e9⟩
   obtain rfl := c5.symm
   replace d := d.perm (Tb Tn)
   refine V (fe iB I) ?_
   replace d := d.perm (Nb (Pb Pz) Nz)
   refine VO (fD (.agg (fz a3.1).toArray) ((eO (⟨J.1, D.1, zS, a3.1, K0, zS⟩ : eH)).toArray) d rfl rfl aY (lh a3.1) nb rfl (fun q4 d => ln (eW (Wh M (bS g fun n8 e6 g => ?_)))))
   rcases n8 with n1 | d9
   ·have o := d.size
    refine iL (.inl rfl) (gl (args := [a5]) (caps := #[]) _ _ d (Cb (Pb Pz) Cn) rfl ey (by exact jA rfl) (fun hH F h R => (fc.l (hU a a3.2 g3 _ _ ⟨hH, F, h⟩ (e9.mono (Pl.mono _) (eT.refl _)) e6))) (fun l8 r4 g7 l0 d b0 ag aq => ?_))
    obtain ⟨t6, u4, j3, rfl⟩ := aq
    replace d := d.perm (Tb Tn)
    refine np (gk (gP ?_))
    obtain rfl := sj g
    replace i : some (Sum.inl n1) = some s := i
    obtain rfl := sj i
    exact fI.li ⟨_, _, _, rfl, (d.fR (Kb Sn)), ((((u.trans k).trans t).trans Y).trans b0), ((((A.trans q).trans p).trans P).trans ag), (ST.fl d (fM.mem (Kb Sn))), ⟨_, _, j3, rfl⟩⟩
   have o := d.size
   refine VE (eD d (Cb (Pb Pz) Cn) ey (fun L => (fc.r (hU a a3.2 g3 _ _ L (e9.mono (Pl.mono _) (eT.refl _)) e6))) ?_)
   rintro l8 s7 g7 l0 d b0 ag ⟨o7, c6, rfl, k0⟩
   obtain rfl := c6.symm
   replace d := d.perm (Tb Tn)
   refine V (fe nC I) ?_
   replace d := d.perm (Nb (Pb Pz) Nz)
   refine VO (fD (.agg (fz d9.1).toArray) ((eO (⟨J.1, D.1, zS, a3.1, d9.1, zS⟩ : eH)).toArray) d rfl rfl aY (lh d9.1) nb rfl (fun q5 d => fB (gF (fj ?_))))
   obtain rfl := sj g
   exact ⟨_, rfl, o7, g7, _, (Y.trans b0), (P.trans ag), (d.eS St), M, d0, I, k0⟩
  refine gH (gF (fj ?_))
  obtain rfl := sj g
  exact ⟨_, rfl, a1, f1, _, (eT.refl _), Lo.refl, (d.eS St), M, d0, I, K⟩
 rintro ⟨N, f9, g1⟩ E W ⟨Q, b3, f3, a6, aa, d, m0, b6, f5, a4⟩ B
 refine fm (sg (V (eU f5 (fh d.has Mh (eO N) rfl bj aC)) (bS B fun r8 j6 B => VE (Eg d call25 (lI N _ _  j6) (fun p7 d => V (ly rfl) (ln (CI B rfl (fun h9 B => ?_) (fun h9 B => ?_))))))))
 ·refine sg (Wh m0 (bS B fun n3 e0 B => ?_))
  rcases n3 with r7 | r9
  ·have o := d.size
   refine iL (.inl rfl) (gl (args := [a5, (.int .i64 11)]) (caps := #[]) _ _ d (Cb (Pb Pz) Cn) rfl cO (by exact jC rfl rfl) (fun hH F h R => (fc.l (fi a (⟨f9, g1⟩ : eP) Q 11 _ _ ⟨hH, F, h⟩ (a4.mono (Pl.mono _) (eT.refl _)) e0))) (fun l2 q7 o9 k4 d T ab aj => ?_))
   obtain ⟨t0, t8, i5, rfl⟩ := aj
   replace d := d.perm (Tb Tn)
   refine gk (gk (gP ?_))
   obtain rfl := sj B
   exact fI.li ⟨_, _, _, rfl, (d.fR (Kb Sn)), ((((u.trans k).trans t).trans a6).trans T), ((((A.trans q).trans p).trans aa).trans ab), (ST.fl d (fM.mem (Kb Sn))), ⟨_, _, i5, rfl⟩⟩
  have o := d.size
  refine VE (eD d (Cb (Pb Pz) Cn) cO (fun L => (fc.r (fi a (⟨f9, g1⟩ : eP) Q 11 _ _ L (a4.mono (Pl.mono _) (eT.refl _)) e0))) ?_)
  rintro l2 s1 o9 k4 d T ab ⟨c0, rfl⟩
  obtain rfl := c0.symm
  replace d := d.perm (Tb Tn)
  refine ln ?_
  replace d := d.eS (Kb (Db St))
  refine sg (V (gI (v := h2) nz (fT bA bl (vX _ bl) kr)) ?_)
  replace d := d.perm (Nb (Pb Pz) Nz)
  refine VO (fD h2 ((eO K6).toArray) d b6 rfl aC (iT K6) nb rfl (fun p8 d => lt (ga (jX ?_))))
  obtain rfl := sj B
  exact lK (v := h2) rfl b6 (fh d.has Mh (eO K6) rfl bj aC) (fI.ri ⟨_, _, _, rfl, (d.fR (Db (Kb Sn))), ((((u.trans k).trans t).trans a6).trans T), ((((A.trans q).trans p).trans aa).trans ab), (ST.fl d (fM.mem (Db (Kb Sn)))), Q, rfl, rfl, (a4.mono (Pl.mono _) T)⟩)
 refine kg (V (eU f5 (fh d.has Mh (eO N) rfl bj aC)) ?_)
 replace d := d.perm (Nb (Pb (Pb Pz)) Nz)
 refine VO (fD (.agg (eO N).toArray) ((eO N).toArray) d b6 rfl aC (iT N) nb rfl (fun p9 d => ln ?_))
 replace d := d.eS (Kb (Db St))
 refine gq (jX ?_)
 obtain rfl := sj B
 exact lK (v := (.agg (eO N).toArray)) rfl b6 (fh d.has Mh (eO N) rfl bj aC) (fI.ri ⟨_, _, _, rfl, (d.fR (Db (Kb Sn))), (((u.trans k).trans t).trans a6), (((A.trans q).trans p).trans aa), (ST.fl d (fM.mem (Db (Kb Sn)))), Q, rfl, rfl, a4⟩)
theorem mS (g : Nat) (Q : eP) (i : Value) (s : (Int ⊕ (eY × eP))) (w : World) {μ0 : eV} (h0 : jL μ0 ((g, Ob #[i, (.bool Q.fH)] 72) :: []) w) (H : Sl (Pl (eQ .u8)) 1 μ0 i Q.b) (hm : lG Q = some s) :
  fc true Try.prog 14 [(.pointer (some ⟨g, 0, none⟩))] w μ0 ((g, Ob #[i, (.bool Q.fH)] 72) :: []) s (fun r v L1 μ1 => ∃ y1 y3, v = (.agg #[(.int .i64 (((r.1).eH).Kind)), (.string ((((r.1).eH).Head).eJ)), (.string ((((r.1).eH).Head).eK)), (.string (((r.1).eH).fa)), (.string ((((r.1).eH).B).eJ)), (.string ((((r.1).eH).B).eK)), (.string ((((r.1).eH).C).eJ)), (.string ((((r.1).eH).C).eK)), (.string (((r.1).eH).eX)), y1]) ∧ L1 = ((g, Ob #[y3, (.bool ((r.2).fH))] 72) :: []) ∧ Sl (Pl (eQ .u8)) 1 μ1 y1 ((r.1).Tag) ∧ Sl (Pl (eQ .u8)) 1 μ1 y3 ((r.2).b)) (fun x c L1 μ1 => ∃ y z, c = [{ v := kO 96 g x, recovered := false }] ∧ L1 = ((g, Ob #[y, z] 72) :: [])) := by
 let a2 : Value := (.pointer (some ⟨g, 0, none⟩))
 have d := ST.kG (dd := true) h0
 refine ig (n := 18) func14 rfl rfl nb (sg (VE (gN d bJ (fun W2 b1 d => lr (Wm (bS hm fun c1 Z hm => ?_))))))
 rcases c1 with d7 | a
 ·have A := d.size
  refine iL (.inl rfl) (gl (args := [a2]) (caps := #[]) _ _ d (Cb (Pb Pz) Cn) rfl call29 (by exact jA rfl) (fun hH E q R => (fc.l (qf g Q i _ _ ⟨hH, E, q⟩ (H.mono (Pl.mono _) (eT.refl _)) Z))) (fun W5 d4 W b3 d t o F => ?_))
  obtain ⟨e3, e7, a7, rfl⟩ := F
  replace d := d.perm (Tb Tn)
  refine gk (gP ?_)
  obtain rfl := sj hm
  exact fI.li ⟨_, _, _, rfl, (d.fR (Kb Sn)), t, o, (ST.fl d (fM.mem (Kb Sn))), ⟨_, _, a7, rfl⟩⟩
 have A := d.size
 refine VE (eD d (Cb (Pb Pz) Cn) call29 (fun P => (fc.r (qf g Q i _ _ P (H.mono (Pl.mono _) (eT.refl _)) Z))) ?_)
 rintro W5 v9 W b3 d t o ⟨a1, I, rfl, Y⟩
 obtain rfl := I.symm
 replace d := d.perm (Tb Tn)
 refine VE (gN d bA (fun c9 d3 d => VO (fD (.agg (eO a.1).toArray) ((eO a.1).toArray) d rfl rfl aC (iT a.1) nb rfl (fun d0 d => lr (Wm (bS hm fun c0 T hm => ?_))))))
 rcases c0 with d8 | k
 ·have A := d.size
  refine iL (.inl rfl) (gl (args := [a2, (.int .i64 8)]) (caps := #[]) _ _ d (Cb (Pb Pz) Cn) rfl call30 (by exact jC rfl rfl) (fun hH E q R => (fc.l (jx g a.2 a1 8 _ _ ⟨hH, E, q⟩ (Y.mono (Pl.mono _) (eT.refl _)) T))) (fun b6 d5 c4 b4 d j h L => ?_))
  obtain ⟨e5, e8, a8, rfl⟩ := L
  replace d := d.perm (Tb Tn)
  refine gk (gP ?_)
  obtain rfl := sj hm
  exact fI.li ⟨_, _, _, rfl, (d.fR (Kb Sn)), (t.trans j), (o.trans h), (ST.fl d (fM.mem (Kb Sn))), ⟨_, _, a8, rfl⟩⟩
 have A := d.size
 refine VE (eD d (Cb (Pb Pz) Cn) call30 (fun P => (fc.r (jx g a.2 a1 8 _ _ P (Y.mono (Pl.mono _) (eT.refl _)) T))) ?_)
 rintro b6 e1 c4 b4 d j h ⟨e4, N, J, rfl, M, G⟩
 obtain rfl := J.symm
 replace d := d.perm (Tb Tn)
 refine Wa (lS (Wm (V (gX az rfl M) (Wi rfl (ln (CI hm rfl (fun a6 hm => ?_) (fun a6 hm => ?_)))))))
 ·refine sg (Wm (bS hm fun b9 U hm => ?_))
  rcases b9 with d9 | e0
  ·have A := d.size
   refine iL (.inl rfl) (gl (args := [a2, (.int .i64 11)]) (caps := #[]) _ _ d (Cb Pz Cn) rfl cO (by exact jC rfl rfl) (fun hH E q R => (fc.l (fi g k.2 N 11 _ _ ⟨hH, E, q⟩ (G.mono (Pl.mono _) (eT.refl _)) U))) (fun b7 d6 c5 b5 d u p O => ?_))
   obtain ⟨e6, e9, a9, rfl⟩ := O
   replace d := d.perm (Tb Tn)
   refine gk (gk (gP ?_))
   obtain rfl := sj hm
   exact fI.li ⟨_, _, _, rfl, (d.fR (Kb Sn)), ((t.trans j).trans u), ((o.trans h).trans p), (ST.fl d (fM.mem (Kb Sn))), ⟨_, _, a9, rfl⟩⟩
  have A := d.size
  refine VE (eD d (Cb Pz Cn) cO (fun P => (fc.r (fi g k.2 N 11 _ _ P (G.mono (Pl.mono _) (eT.refl _)) U))) ?_)
  rintro b7 e2 c5 b5 d u p ⟨K, rfl⟩
  obtain rfl := K.symm
  replace d := d.perm (Tb Tn)
  refine ln ?_
  replace d := d.eS (Kb (Db St))
  refine sg (V (gI (v := (.agg C2.toArray)) nz (fT bJ bQ (tX _ bQ) kr)) ?_)
  replace d := d.perm (Nb (Pb Pz) Nz)
  refine VO (fD (.agg C2.toArray) (C2.toArray) d rfl rfl bh oc nb rfl (fun d1 d => lt (ga (jX ?_))))
  obtain rfl := sj hm
  exact lK (v := (.agg C2.toArray)) rfl rfl (fh d.has Mh C2 rfl cz bh) (fI.ri ⟨_, _, _, rfl, (d.fR (Db (Kb Sn))), ((t.trans j).trans u), ((o.trans h).trans p), (ST.fl d (fM.mem (Db (Kb Sn)))), (.slice none 0 0), N, rfl, rfl, (Sl.nil _ _ _), (G.mono (Pl.mono _) u)⟩)
 refine kg (VA d (Mt Mh) (eO a.1) bj aC (Wm ?_))
 obtain ⟨B, D, rfl⟩ := M.form
 let a0 := (C1 a.1.Kind a.1.Head.eJ a.1.Head.eK a.1.fa a.1.B.eJ a.1.B.eK a.1.C.eJ a.1.C.eK a.1.eX B k.1.length D)
 refine V (gI (v := (.agg a0.toArray)) (kB rfl rfl) (fT bJ bQ (tX _ bQ) kr)) ?_
 replace d := d.perm (Nb (Pb (Pb Pz)) Nz)
 refine VO (fD (.agg a0.toArray) (a0.toArray) d rfl rfl bh oc nb rfl (fun d2 d => ln ?_))
 replace d := d.eS (Kb (Kb (Db St)))
 refine gq (jX ?_)
 obtain rfl := sj hm
 exact lK (v := (.agg a0.toArray)) rfl rfl (fh d.has Mh a0 rfl cz bh) (fI.ri ⟨_, _, _, rfl, (d.fR (Db (Kb Sn))), (t.trans j), (o.trans h), (ST.fl d (fM.mem (Db (Kb Sn)))), (.slice B k.1.length D), N, rfl, rfl, M, G⟩)
theorem qe (i : Nat) (G : eP) (k : Value) (t : Nat) (a : eY) (j : Value) (s : (Int ⊕ (eP × eY))) (w : World) {K : eV} (R : jL K ((i, Ob #[k, (.bool G.fH)] 72) :: ((t, Ob #[(.int .i64 a.eH.Kind), (.string a.eH.Head.eJ), (.string a.eH.Head.eK), (.string a.eH.fa), (.string a.eH.B.eJ), (.string a.eH.B.eK), (.string a.eH.C.eJ), (.string a.eH.C.eK), (.string a.eH.eX), j] 36) :: [])) w) (u : Sl (Pl (eQ .u8)) 1 K k G.b) (Q : Sl (Pl (eQ .u8)) 1 K j a.Tag) (hm : nw G a = some s) :
  fc true Try.prog 16 [(.pointer (some ⟨i, 0, none⟩)), (.pointer (some ⟨t, 0, none⟩))] w K ((i, Ob #[k, (.bool G.fH)] 72) :: ((t, Ob #[(.int .i64 a.eH.Kind), (.string a.eH.Head.eJ), (.string a.eH.Head.eK), (.string a.eH.fa), (.string a.eH.B.eJ), (.string a.eH.B.eK), (.string a.eH.C.eJ), (.string a.eH.C.eK), (.string a.eH.eX), j] 36) :: [])) s (fun r v N Y => ∃ L O, v = (.tuple #[]) ∧ N = ((i, Ob #[L, (.bool ((r.1).fH))] 72) :: ((t, Ob #[(.int .i64 (((r.2).eH).Kind)), (.string ((((r.2).eH).Head).eJ)), (.string ((((r.2).eH).Head).eK)), (.string (((r.2).eH).fa)), (.string ((((r.2).eH).B).eJ)), (.string ((((r.2).eH).B).eK)), (.string ((((r.2).eH).C).eJ)), (.string ((((r.2).eH).C).eK)), (.string (((r.2).eH).eX)), O] 36) :: [])) ∧ Sl (Pl (eQ .u8)) 1 Y L ((r.1).b) ∧ Sl (Pl (eQ .u8)) 1 Y O ((r.2).Tag)) (fun x c N Y => ∃ y z, c = [{ v := kO 96 i x, recovered := false }] ∧ N = ((i, Ob #[y, z] 72) :: ((t, Ob #[(.int .i64 a.eH.Kind), (.string a.eH.Head.eJ), (.string a.eH.Head.eK), (.string a.eH.fa), (.string a.eH.B.eJ), (.string a.eH.B.eK), (.string a.eH.C.eJ), (.string a.eH.C.eK), (.string a.eH.eX), j] 36) :: []))) := by
 have d := ST.kG (dd := true) R
 refine ig (n := 5) func16 rfl rfl nb (eW (Wm (bS hm fun P M hm => ?_)))
 rcases P with b1 | g
 ·have E := d.size
  refine iL (.inl rfl) (gl (args := [(.pointer (some ⟨i, 0, none⟩))]) (caps := #[]) _ _ d (Cb Pz Cn) rfl call14 (by exact jA rfl) (fun hH q o A => (fc.l (mS i G k _ _ ⟨hH, q, o⟩ (u.mono (Pl.mono _) (eT.refl _)) M))) (fun W3 W F L9 d B h p => ?_))
  obtain ⟨b3, b4, T, rfl⟩ := p
  replace d := d.perm (Tb Tn)
  refine gP ?_
  obtain rfl := sj hm
  exact fI.li ⟨_, _, _, rfl, (d.fR (Kb (Kb Sn))), B, h, (ST.fl d (fM.mem (Kb (Kb Sn)))), ⟨_, _, T, rfl⟩⟩
 have E := d.size
 refine VE (tZ d (Cb Pz Cn) call14 (fun hH q o A => (fc.r (mS i G k _ _ ⟨hH, q, o⟩ (u.mono (Pl.mono _) (eT.refl _)) M))) (fun W3 v7 F L9 d B h Z => ?_))
 obtain ⟨b2, a3, D, rfl, J, U⟩ := Z
 replace D := D.symm; subst D
 replace d := d.perm (Tb Tn)
 obtain ⟨H, I, rfl⟩ := J.form
 let a0 : Value := (.slice H ((g.1).Tag).length I)
 replace d := d.perm (Nb (Pb Pz) Nz)
 let a2 := (((g.1).eH).Head)
 refine VO (fD (.agg #[(.int .i64 (((g.1).eH).Kind)), (.string (a2.eJ)), (.string (a2.eK)), (.string (((g.1).eH).fa)), (.string ((((g.1).eH).B).eJ)), (.string ((((g.1).eH).B).eK)), (.string ((((g.1).eH).C).eJ)), (.string ((((g.1).eH).C).eK)), (.string (((g.1).eH).eX)), a0]) (#[(.int .i64 (((g.1).eH).Kind)), (.string (a2.eJ)), (.string (a2.eK)), (.string (((g.1).eH).fa)), (.string ((((g.1).eH).B).eJ)), (.string ((((g.1).eH).B).eK)), (.string ((((g.1).eH).C).eJ)), (.string ((((g.1).eH).C).eK)), (.string (((g.1).eH).eX)), a0]) d rfl rfl bh oc nb rfl (fun a9 d => fB (sK (uF ?_))))
 obtain rfl := sj hm
 exact uy rfl (fI.ri ⟨_, _, _, rfl, (d.fR (Sb (Pb Pz) (Kb Sn))), B, h, (ST.fl d (fM.mem (Sb (Pb Pz) (Kb Sn)))), a3, a0, rfl, rfl, U, J⟩)
theorem ox (u : Value) (H : List Int) (i : Nat) (a : eY) (g : Value) (r : (Int × eY)) (w : World) {G : eV} (D : jL G ((i, Ob #[(.int .i64 a.eH.Kind), (.string a.eH.Head.eJ), (.string a.eH.Head.eK), (.string a.eH.fa), (.string a.eH.B.eJ), (.string a.eH.B.eK), (.string a.eH.C.eJ), (.string a.eH.C.eK), (.string a.eH.eX), g] 36) :: []) w) (I : Sl (Pl (eQ .u8)) 1 G u H) (j : Sl (Pl (eQ .u8)) 1 G g a.Tag) (hm : jW H a = some r) :
  gm true Try.prog 11 [u, (.func (.func 16) #[] #[(.pointer (some ⟨i, 0, none⟩))])] w G ((i, Ob #[(.int .i64 a.eH.Kind), (.string a.eH.Head.eJ), (.string a.eH.Head.eK), (.string a.eH.fa), (.string a.eH.B.eJ), (.string a.eH.B.eK), (.string a.eH.C.eJ), (.string a.eH.C.eK), (.string a.eH.eX), g] 36) :: []) (fun v t B => ∃ k, v = (.int .i64 (r.1)) ∧ t = ((i, Ob #[(.int .i64 (((r.2).eH).Kind)), (.string ((((r.2).eH).Head).eJ)), (.string ((((r.2).eH).Head).eK)), (.string (((r.2).eH).fa)), (.string ((((r.2).eH).B).eJ)), (.string ((((r.2).eH).B).eK)), (.string ((((r.2).eH).C).eJ)), (.string ((((r.2).eH).C).eK)), (.string (((r.2).eH).eX)), k] 36) :: []) ∧ Sl (Pl (eQ .u8)) 1 B k ((r.2).Tag)) := by
 refine bS hm fun l h hm => bS hm fun s n hm => ?_
 obtain rfl := sj hm
 refine gm.mono (qO 16 #[(.pointer (some ⟨i, 0, none⟩))] u H l s (fun r => (r.1).b) w D I h (fun r t B => ∃ k, t = ((i, Ob #[(.int .i64 (((r.2).eH).Kind)), (.string ((((r.2).eH).Head).eJ)), (.string ((((r.2).eH).Head).eK)), (.string (((r.2).eH).fa)), (.string ((((r.2).eH).B).eJ)), (.string ((((r.2).eH).B).eK)), (.string ((((r.2).eH).C).eJ)), (.string ((((r.2).eH).C).eK)), (.string (((r.2).eH).eX)), k] 36) :: []) ∧ Sl (Pl (eQ .u8)) 1 B k ((r.2).Tag)) (fun x t B => t = ((i, Ob #[(.int .i64 a.eH.Kind), (.string a.eH.Head.eJ), (.string a.eH.Head.eK), (.string a.eH.fa), (.string a.eH.B.eJ), (.string a.eH.B.eK), (.string a.eH.C.eJ), (.string a.eH.C.eK), (.string a.eH.eX), g] 36) :: [])) call16 (fun L μ' F o K hle q => fc.mono (qe F (⟨l, false⟩ : eP) o i a g s L K q (j.mono (Pl.mono _) hle) n) ?_ ?_)) ?_
 ·rintro r v t B ⟨O, k, M, d, J, D⟩; exact ⟨_, _, _, d, J, k, rfl, D⟩
 ·rintro x c t B ⟨y, z, A, d⟩; exact ⟨y, z, _, A, d, rfl⟩
 rintro v t B E ⟨rfl, p⟩
 cases s with
 | inl x => exact ⟨g, rfl, p, (j.mono (Pl.mono _) E)⟩
 | inr r => obtain ⟨k, d, D⟩ := p; exact ⟨k, rfl, d, D⟩
theorem tr (a : Value) (j : List Int) (c : Value) (k : List Int) (r : Bool) (w : World) (g : Sl (Pl (eQ .u8)) 1 (hp w) a j) (i : Sl (Pl (eQ .u8)) 1 (hp w) c k) (hm : mq j k = some r) :
  fQ true Try.prog 54 [a, c] w (.bool r) := by
 refine cG 10 func54 rfl (fun d => sg (Wa (lr (Wm (V (ph az bI aZ rfl (g.mono (Pl.mono _) d.fw)) (Wm (V (ph az bI aZ rfl (i.mono (Pl.mono _) d.fw)) (V (wi rfl rfl rfl) (Wa (fB ?_))))))))))
 exact fj (gq (rQ hm d))
theorem wD (g : Value) (y : List Int) (i : Value) (D : List Int) (j : Value) (G : List Int) (r : Bool) (w : World) (u : Sl (Pl (eQ .u8)) 1 (hp w) g y) (I : Sl (Pl (eQ .u8)) 1 (hp w) i D) (J : Sl (Pl (eQ .u8)) 1 (hp w) j G) (hm : lV y D G = some r) :
  fQ true Try.prog 32 [g, i, j] w (.bool r) := by
 refine cG 16 func32 rfl (fun d => sg (Wa (lr (Wm (bS hm fun v T hm => VE (Eg d call37 (qQ g y _ _ (u.mono (Pl.mono _) d.fw) T) (fun W3 d => Wm (LJ hm (fun B E W => ∃ x z, eT (hp w) x ∧ ST true fY w W x z ∧ E 6 = (.bool false) ∧ E 15 = (.bool B)) 6 ?_ (fun B c t => ?_)))))))))
 ·rintro a9 E W ⟨x, z, a3, d, q, Q⟩ K
  exact Wg Q (lt (rQ K d))
 refine bC c (fun a c => ?_) (fun a c => ?_)
 ·refine ug a (eZ rfl) (ug a (eZ rfl) (bS c fun U M c => lA a (mh d call22 (rG g y i D _ _ (u.mono (Pl.mono _) d.fw) (I.mono (Pl.mono _) d.fw) M) (fun a5 Y Z a4 d k h H => ug a (eZ rfl) (bS c fun s N c => lA a (Eg d call54 (tr Y U j G _ _ (H.sl (fun _ => rfl) (fun b o n => d.at_ (Ml n))) (J.mono (Pl.mono _) (k.trans d.fw)) N) (fun p d => V (ft (cB a) rfl) ?_)))))))
  obtain rfl := sj c
  exact t _ _ ⟨Z, _, k, (d.eS (Dr St)), rfl, rfl⟩
 refine un a (un a (un a (un a (un a (V (fq (cB a) rfl) ?_)))))
 obtain rfl := sj c
 exact t _ _ ⟨(hp w), _, (eT.refl _), (d.eS St), rfl, rfl⟩
theorem iw (y : Value) (N : Option fG) (c : eY) (t : Value) (r : Int) (w : World) (Z : kp fN (hp w) y N) (k : Sl (Pl (eQ .u8)) 1 (hp w) t c.Tag) (hm : fK N c = some r) :
  fQ true Try.prog 15 [y, (.agg #[(.int .i64 c.eH.Kind), (.string c.eH.Head.eJ), (.string c.eH.Head.eK), (.string c.eH.fa), (.string c.eH.B.eJ), (.string c.eH.B.eK), (.string c.eH.C.eJ), (.string c.eH.C.eK), (.string c.eH.eX), t])] w (.int .i64 r) := by
 refine cG 27 func15 rfl (fun h => sg ?_)
 obtain ⟨M, Q, rfl⟩ := k.form
 refine VE (iM h rfl (fun W4 L h => Wa (lr (Wm (Wf mH (VA h Mh (eO c.eH) bj aC (bS hm fun v F hm => ?_)))))))
 refine VE (eD h (bW _) call21 (fun O => (nr y N c.eH _ _ O (Z.mono gd (eT.refl _)) F)) ?_ (L0 := []))
 rintro _ c0 n b9 h a2 s ⟨a9, x, rfl, a3⟩
 obtain rfl := x.symm
 refine Wm (Wx rfl (Wx rfl (Wa (Wa (ln (fm (fm ?_)))))))
 replace h := h.drew
 have d := h.has.eS (Kb Sn)
 refine gU d gW (X 0 rfl d (eZ rfl) (X 1 rfl d (gi rfl rfl rfl) (X 2 rfl d (eZ rfl) (PJ hm (fun G E W => ∃ z B, eT n z ∧ ST true fY w W z ((L, Ol (C1 c.eH.Kind c.eH.Head.eJ c.eH.Head.eK c.eH.fa c.eH.B.eJ c.eH.B.eK c.eH.C.eJ c.eH.C.eK c.eH.eX M c.Tag.length Q) 36) :: B) ∧ E 6 = (.int .i64 v.2) ∧ E 25 = (.bool G)) (bm 12 4095) 0 ?_ (fun G g u => ?_)))))
 ·rintro b7 E W ⟨z, B, D, h, T, U⟩ j
  refine jo kr (fj ?_)
  replace h := h.eS (Db St)
  refine CI j U (fun I j => ?_) (fun I j => ?_)
  ·refine sg (Wa (lt (ga ?_)))
   obtain rfl := sj j
   exact rP h
  exact kg (Wh T (Wa (lt (rQ j h))))
 refine bC g (fun a g => ?_) (fun a g => ?_)
 ·refine Xg 3 rfl rfl (cB a) d (eZ rfl) (Xg 4 rfl rfl (cB a) d (fe mH rfl) (yn 5 rfl rfl (cB a) d (fun _ p => eU rfl (fh p Mh (eO c.eH) rfl bj aC)) (Xg 7 rfl rfl (cB a) d (fe nB rfl) (yn 8 rfl rfl (cB a) d (fun _ p => eU rfl (fx p Mh rfl bU)) (bS g fun a4 J g => ym 6 rfl rfl (cB a) (mh h call23 (lM c.eH _ _  J) (fun Y a5 A R h i q H => ?_)))))))
  have d := h.has.oT i (Dr (Kb Sn))
  refine ⟨d, (bS g fun b6 K g => ym 9 rfl rfl (cB a) (Eg h call32 (wD a9 v.1 a5 a4 (.slice M c.Tag.length Q) c.Tag _ _ (a3.mono (Pl.mono _) (i.trans h.fw)) (H.sl (fun _ => rfl) (fun b o P => h.at_ (Ml P))) (k.mono (Pl.mono _) ((a2.trans i).trans h.fw)) K) (fun b4 h => ?_)))⟩
  have d := h.has.oT i (Dr (Kb Sn))
  refine ⟨d, (Xg 10 rfl rfl (cB a) d (ly rfl) (X 11 rfl d (ft (cB a) rfl) ?_))⟩
  obtain rfl := sj g
  refine qJ kr (u _ _ ⟨A, _, i, (h.eS (Dr St)), rfl, rfl⟩)
 refine Xn 3 rfl rfl (cB a) d (Xn 4 rfl rfl (cB a) d (Xn 5 rfl rfl (cB a) d (Xn 6 rfl rfl (cB a) d (Xn 7 rfl rfl (cB a) d (Xn 8 rfl rfl (cB a) d (Xn 9 rfl rfl (cB a) d (Xn 10 rfl rfl (cB a) d (X 11 rfl d (fq (cB a) rfl) ?_))))))))
 obtain rfl := sj g
 refine qJ kr (u _ _ ⟨n, _, (eT.refl _), (h.eS St), rfl, rfl⟩)
theorem kJ (a : Value) (g : List (ByteArray × (List Int))) (r : Unit) (w : World) (c : ji Value.string (fp 5 (eQ .u8) 1) (hp w) a g) (hm : gy g = some r) :
  fX true Try.prog 34 [a] w [] (fun v k W' => ∃ i, v = (.func (.func 57) #[] #[(.pointer (some ⟨i, 0, none⟩))]) ∧ k = ((i, Ob #[a] 58) :: [])) := by
 refine sh 4 func34 rfl (fun d => sg ?_)
 obtain ⟨t, rfl⟩ := c.form
 refine VE (iM d rfl (fun u j d => Wa (lr (V (oZ (by exact jA rfl) rfl) (Wa (lt ?_))))))
 obtain rfl := sj hm
 exact fL (v := (.func (.func 57) #[] #[(.pointer (some ⟨j, 0, none⟩))])) rfl rfl ⟨_, _, rfl, (d.Bc (Kb Sn)), j, rfl, rfl⟩
theorem tg {β : Type} {vf : β → Value} {l : List (ByteArray × β)} {b : Nat} {a : Value} {W : World} {r : List ByteArray} (c : W.heap[b]? = some (.cells #[a] 58 (0, 0))) (hm : lq Value.string vf (hp W) a l) (hk : ni l = some r) : gu false Try.prog 33 [.func (.func 57) #[] #[.pointer (some ⟨b, 0, none⟩)]] W 9 oH 1 r := uM (P := Try.prog) zd zI Ax rfl aZ call57 call56 c hm hk
theorem sw {γ : Type} {Q : Value → γ → List (Nat × Obj) → Prop} {l : List (ByteArray × γ)} {b : Nat} {a : Value} {W : World} {r : List ByteArray} (g : W.heap[b]? = some (.cells #[a] 58 (0, 0))) (hm : ji Value.string Q (hp W) a l) (hk : ni l = some r) : gu false Try.prog 33 [.func (.func 57) #[] #[.pointer (some ⟨b, 0, none⟩)]] W 9 oH 1 r := by
 obtain ⟨h, c, d⟩ := hm.AU
 exact tg g d ((xc c).trans hk)
theorem pe (i : Value) (D : Option fG) (r : List ByteArray) (w : World) (g : kp fN (hp w) i D) (hm : jn D = some r) :
  gu false Try.prog 17 [i] w 9 oH 1 r := by
 refine sh 11 func17 rfl (fun d => sg (Wa (lS (Wm (V (pG underlying30 g rfl rfl) (ln (CI hm rfl (fun G hm => ?_) (fun G hm => ?_))))))))
 ·refine sg (Wa (lt (ga ?_)))
  obtain rfl := sj hm
  exact fL (v := (.slice none 0 0)) rfl rfl ⟨_, [], rfl, d.jF (fun p h => by cases h) (by simp), fp.nil _ _ _⟩
 refine kg (Wm (bS hm fun N J hm => VQ (pN fN.out g J rfl) (fun E ⟨_, ⟨z, rfl, k⟩, H⟩ => VQ (oO [z] rF rfl H rfl) (fun F I => V (eU rfl (kP d.has (y := z) I isAgg58)) (bS hm fun Z u hm => ?_)))))
 refine VE (yA d (bW _) call34 (fun _ _ _ _ => fX.gz (kJ z N.m _ _ (k.mono d.fw) u)) (fun T a2 a3 Q d j q n t => ?_) (L0 := []))
 obtain ⟨Y, a, rfl⟩ := t
 replace a := a.symm; subst a
 replace d := d.perm (Tb Tn)
 refine bS hm fun A x hm => VE (mh d call33 (sw (d.has.2 _ _ Mh) (k.mono (fun b o h => d.has.1 b o (j b o h))) x) (fun U K a4 B d M s c => Wa (ln ?_)))
 replace d := d.eS (Kr (Db St))
 refine gq ?_
 obtain rfl := sj hm
 exact fL (v := K) rfl rfl ⟨_, B, rfl, d.jF (fun p h => (Ml h)) c.nd, c⟩
theorem pU (g : Value) (i r : List eH) (w : World) (a : Sl (Pl eO) 9 (hp w) g i) (hm : iN i = some r) :
  gu true Try.prog 43 [g] w 26 eO 9 r := by
 unfold iN at hm
 refine sh 8 func43 rfl (fun d => sg (Wa (lS (Wm ?_))))
 obtain ⟨y, B, rfl⟩ := a.form
 refine V (sQ aK rfl rfl) (ln ?_)
 rcases y with _ | z
 ·have u := a.isNil
  replace hm : some [] = some r := by rw [u] at hm; simpa [kN, maxLen] using hm
  refine nO (rfl) (sg (Wa (lt (ga ?_))))
  obtain rfl := sj hm
  exact fL (v := (.slice none 0 0)) rfl rfl ⟨_, [], rfl, d.jF (fun p h => by cases h) (by simp), fp.nil _ _ _⟩
 ·refine jD (rfl) (kg (VE (fJ (cs := #[]) d nz (lj [] aK aC bA dc rfl (by simp) rfl rfl) (fun G k d => Wm (bS hm fun H t hm => VE (mx (enc := eO) (v := (.slice (some ⟨k, 0, none⟩) 0 0)) (vs := (.slice (some z) i.length B)) (R := [(k, Ob #[] 26)]) d gO dc iT aK nv.1 nv.2.1 rfl nv.2.2.1 nv.2.2.2 rfl rfl (fp.lit (l := []) (enc := eO) rfl dc rfl rfl) (a.mono (Pl.mono _) d.fw) t (fun D x j d c => Wa (lt ?_))))))))
  obtain rfl := sj hm
  exact fL (v := x) rfl rfl ⟨_, j, rfl, d.jF (fun p h => (Ml h)) c.nd, c⟩
theorem oy (g : Value) (t : List eH) (j : Value) (B : eH → Option Bool) (r : Int) (w : World) (c : Sl (Pl eO) 9 (hp w) g t) (D : pX Try.prog j (hp w) (fun (x : eH) => [(.agg (eO x).toArray)]) (fun (r : Bool) => (.bool r)) B) (hm : jV t B = some r) :
  fQ false Try.prog 59 [g, j] w (.int .i64 r) := by
 refine cG 19 func59 rfl (fun d => sg (Wa (lS (Wm (V (gX aK rfl c) (Wm (ln (jN (fun i E W => ∃ k, (E 8 = .int .i64 (i : Nat) ∧ E 7 = .int .i64 (t.length : Nat)) ∧ ST false fY w W (hp w) k ∧ E 0 = g ∧ E 1 = j ∧ gG B (t.drop i) i = some r) t.length c.len ⟨_, ⟨rfl, rfl⟩, (d.eS St), rfl, rfl, hm⟩ dc dc dc (fun _ _ _ h => by obtain ⟨_, o, _⟩ := h; exact o) ?_ ?_))))))))
 ·rintro Q E W H ⟨k, ⟨n, p⟩, d, u, y, a⟩
  obtain ⟨z, T, M, K, N⟩ := jf H
  rw [M] at a
  refine bg (Wh n (Wa (lr (Wh y (Wh u (Wm (VQ (mZ (enc := eO) (i := (Q : Int)) (x0 := z) aK aC rfl rfl c (bq _) K) (fun Y I => V (eU rfl (ng d.has I bj aC)) (bS a fun Z J a => ?_)))))))))
  refine VE (zM z d D (eT.refl _) rfl (jA rfl) J (fun U d => ln (CI a rfl (fun G a => ?_) (fun G a => ?_))))
  ·refine sg (Wm (Wa (lt (kI (ga (kI (ga ?_)))))))
   obtain rfl := sj a
   exact rP d
  exact gH (gF (fj ⟨n, _, ⟨rfl, p⟩, (d.eS St), u, y, (by rw [N]; exact a)⟩))
 rintro E W ⟨k, ⟨n, p⟩, d, u, y, a⟩
 rw [bu] at a
 exact fj (sg (Wa (lt (rQ a d))))
theorem ol (j : Value) (a0 : List eH) (t : LO) (H : Value) (f1 : eH → Option Bool) (r : List eH) (w : World) {μ0 : eV} (h0 : jL μ0 (t ++ []) w) (T : fp 26 eO 9 j a0 t) (a4 : pX Try.prog H μ0 (fun (x : eH) => [(.agg (eO x).toArray)]) (fun (r : Bool) => (.bool r)) f1) (hm : iD a0 f1 = some r) :
  fX false Try.prog 42 [j, H] w (t ++ []) (fun v L1 W' => ∃ s S2, v = s ∧ L1 = (S2 ++ []) ∧ fp 26 eO 9 s r S2) := by
 refine sR h0 42 func42 rfl (fun d => sg (Wa (lr (Wm (Wm (bS hm fun q d3 hm => VE (Eg d call59 (oy j a0 H f1 _ _ (T.sl gO (fun b o h => d.at_ (Ml h))) (a4.mono d.fw) d3) (fun W3 d => Wa (ln ?_)))))))))
 refine fm (sg (Wm (Wi rfl (ln (CI hm rfl (fun d2 hm => ?_) (fun d2 hm => ?_))))))
 ·refine sg (Wm (Wa (lt (ga ?_))))
  obtain rfl := sj hm
  exact fL (v := j) rfl rfl ⟨_, _, rfl, (d.fR (Kr Sn)), j, t, rfl, rfl, T⟩
 refine kS (Wm (Wi rfl (Wa (ln (kq (nV (fun m E W => ∃ U I B D a2, ST false (keys (t ++ [])) w W μ0 (I ++ a2) ∧ E 0 = j ∧ E 1 = H ∧ E 5 = (.int .i64 B) ∧ E 6 = (.int .i64 D) ∧ fp 26 eO 9 j U I ∧ fW f1 m U B D = some r) iu ⟨a0, t, q, (wi0 .i64 (q + 1)), _, (d.eS St), rfl, rfl, rfl, rfl, T, hm⟩ ?_))))))
 rintro m E W ⟨U, I, B, D, a2, d, y, Q, G, K, g, a⟩
 cases m with
 | zero => rw [fW] at a; cases a
 | succ c8 =>
  refine fm (sg (Wh K (Wh y (V (lB aK rfl g) (Wi rfl (ln (CI a rfl (fun F a => ?_) (fun F a => ?_))))))))
  ·refine kn (fm (CJ a (fun Y E W => ∃ J a3, ST false (keys (t ++ [])) w W μ0 (J ++ a3) ∧ E 0 = j ∧ E 1 = H ∧ E 5 = (.int .i64 Y.2) ∧ E 6 = (.int .i64 D) ∧ fp 26 eO 9 j Y.1 J) (fun Y c => ?_) ?_))
   ·refine bg (Wh y (Wh K (bS c fun k M c => VQ (lW (i := D) (x0 := k) aK aC rfl rfl g (iV M) (gQ M)) (fun e4 P => V (eU rfl (na d.has (fun p h => (Ml h)) g gO P (gQ M) bj aC)) (VE (gN d bA (fun d7 e2 d => VO (fD (.agg (eO k).toArray) ((eO k).toArray) d rfl rfl aC (iT k) nb rfl (fun d8 d => lr (Wh Q ?_))))))))))
    refine VA d Mh (eO k) bj aC (bS c fun e6 b5 c => VE (zM k d a4 (eT.refl _) rfl (jA rfl) b5 (fun d9 d => V (ly rfl) (ln (CI c rfl (fun L c => ?_) (fun L c => ?_))))))
    ·refine sg (Wh y (Wh G (VA d Mh (eO k) bj aC (bS c fun d0 N c => VQ (lW (i := B) (x0 := d0) aK aC rfl rfl g (iV N) (gQ N)) (fun e5 R => ?_)))))
     replace d := d.perm (Nr (Qb Qz) Nz)
     refine VO (pB (u := (.agg (eO k).toArray)) (x1 := k)  d g gO iT rfl rfl rfl R (gQ N) aC (fun e0 c1 d A => ln ?_))
     replace d := d.eS (Kr (Db St))
     refine eW (Wh G (Wi rfl (Wa (fB (gF (fj ?_))))))
     obtain rfl := sj c
     exact ⟨c1, _, (d.eS St), y, Q, rfl, K, A⟩
    refine gH (gF (fj ?_))
    obtain rfl := sj c
    exact ⟨I, _, (d.eS (Db St)), y, Q, G, K, g⟩
   rintro ⟨c7, c9⟩ E W ⟨J, a3, d, c3, c4, c5, c6, b6⟩ O
   exact eW (Wh c6 (Wi rfl (Wa (ln ⟨c8, cK _, c7, J, c9, (wi0 .i64 (D + 1)), _, (d.eS St), c3, c4, c5, rfl, b6, O⟩))))
  refine nU (nG (nG (st (fj (sg (Wh y (Wh G (bS a fun _ Z a => VQ (oU (i := B) aK aC rfl rfl g (oN Z) (oE Z)) (fun e7 b7 => VO (qX (z := K6)  d g gO iT aK bA b7 rfl rfl (fun e1 c2 d a9 => lr (Wh y ?_))))))))))))
  refine Wh G (bS a fun _ n a => VQ (sW (i := B) aK aC rfl rfl a9 gO (oN n) (oE n)) (fun a5 b9 => Wa (lt ?_)))
  obtain rfl := sj a
  exact fL (v := a5) rfl rfl ⟨_, _, rfl, (d.fR (Kr Sn)), a5, c2, rfl, rfl, b9⟩
theorem tl (a : eH) (r : Bool) (w : World) (hm : mr a = some r) :
  fQ true Try.prog 44 [(.agg (eO a).toArray)] w (.bool r) := by
 refine cG 6 func44 rfl (fun d => sg (VE (iM d rfl (fun g j d => Wa (lr (VA d Mh (eO a) bj aC (bS hm fun k c hm => VE (Eg d call25 (lI a _ _  c) (fun i d => V (ly rfl) (Wa (fB ?_)))))))))))
 refine fj ?_
 exact gq (rQ hm d)
theorem wG (c : Value) (k : List eH) (a : LO) (g : Value) (t : (eH × eH) → Option Int) (r : List eH) (w : World) {y : eV} (u : jL y (a ++ []) w) (i : fp 26 eO 9 c k a) (j : tQ Try.prog g y (fun (x : (eH × eH)) => [(.agg (eO x.1).toArray), (.agg (eO x.2).toArray)]) (fun (r : Int) => (.int .i64 r)) t) (hm : oB t k = some r) :
  fX true Try.prog 45 [c, g] w (a ++ []) (fun v z W' => ∃ S, v = (.tuple #[]) ∧ z = (S ++ []) ∧ fp 26 eO 9 c r S) := vd (P := Try.prog) (ρ := yk) Al 9 bj aC eO gO iT u.H u.S i j hm
theorem Ay (w : World) {c d : Value} {a b : List Int} (h1 : Sl (Pl (eQ .u8)) 1 (hp w) c a) (g : Sl (Pl (eQ .u8)) 1 (hp w) d b) : (callFunc 79 [c, d].toArray).run Try.prog w = .ok (.value (.int .i64 (nt a b))) w := xI func79 (by kernel_rfl) (by kernel_rfl) (by kernel_rfl) (by kernel_rfl) h1 g
theorem rW (a : Value) (g : List Int) (c : Value) (i : List Int) (r : Int) (w : World) (j : Sl (Pl (eQ .u8)) 1 (hp w) a g) (k : Sl (Pl (eQ .u8)) 1 (hp w) c i) (hm : oM g i = some r) :
  fQ true Try.prog 62 [a, c] w (.int .i64 r) := by
 exact cG 8 func62 rfl (fun d => sg (Wa (lr (Wm (Wm (VE (vF (args := [a, c]) (v := .int .i64 (nt g i)) rfl (by exact jC rfl rfl) (Ay _ (j.mono (Pl.mono _) d.fw) (k.mono (Pl.mono _) d.fw)) (Wa (lt (rQ hm d))))))))))
theorem sB (g i : eH) (r : Int) (w : World) (hm : jG g i = some r) :
  fQ true Try.prog 46 [(.agg (eO g).toArray), (.agg (eO i).toArray)] w (.int .i64 r) := by
 refine cG 10 func46 rfl (fun d => sg (VE (iM d rfl (fun T Y d => VE (iM d rfl (fun U Z d => Wa (ln (fm ?_))))))))
 replace d := d.drew
 have h := d.has.eS (Kb (Kb Sn))
 refine gU h gW (XH 0 rfl h (fun _ n => eU rfl (fh n (Mt Mh) (eO g) rfl bj aC)) (XH 2 rfl h (fun _ n => eU rfl (fh n Mh (eO i) rfl bj aC)) (bS hm fun y t hm => XE 1 rfl (mh d call23 (lM g _ _  t) (fun I B N G d a q j => ?_)))))
 have h := d.has.oT a (Dr (Kb (Kb Sn)))
 refine ⟨h, (bS hm fun z u hm => XE 3 rfl (mh d call23 (lM i _ _  u) (fun J D Q H d c s k => ?_)))⟩
 have h := d.has.oT (a.trans c) (Dr (Dr (Kb (Kb Sn))))
 refine ⟨h, (bS hm fun M x hm => XE 4 rfl (Eg d call62 (rW B y D z _ _ (j.sl (fun _ => rfl) (fun b o p => d.at_ (Ma (Ml p)))) (k.sl (fun _ => rfl) (fun b o p => d.at_ (Ml p))) x) (fun K d => ?_)))⟩
 have h := d.has.oT (a.trans c) (Dr (Dr (Kb (Kb Sn))))
 refine ⟨h, (X 5 rfl h (fO rfl) (jo kr (fj ?_)))⟩
 exact gq (rQ hm d)
theorem py (j : Value) (a0 : List eH) (x : LO) (r : List eH) (w : World) {μ0 : eV} (h0 : jL μ0 (x ++ []) w) (B : fp 26 eO 9 j a0 x) (hm : jq a0 = some r) :
  fX true Try.prog 47 [j] w (x ++ []) (fun v L1 W' => ∃ y1 S2, v = y1 ∧ L1 = (S2 ++ []) ∧ fp 26 eO 9 y1 r S2) := by
 refine sR h0 61 func47 rfl (fun d => sg (Wa (lS (Wm (V (lB aK rfl B) (Wi rfl (ln (CI hm rfl (fun g0 hm => ?_) (fun g0 hm => ?_)))))))))
 ·refine sg (Wm (Wa (lt (ga ?_))))
  obtain rfl := sj hm
  exact fL (v := j) rfl rfl ⟨_, _, rfl, (d.fR (Kr Sn)), j, x, rfl, rfl, B⟩
 refine kS (Wa (ln (kq (nV (fun m E W => ∃ t b4, ST true (keys (x ++ [])) w W μ0 (x ++ b4) ∧ E 0 = j ∧ E 3 = (.int .i64 t) ∧ gw a0 m t = some r) iu ⟨1, _, (d.eS St), rfl, rfl, hm⟩ ?_))))
 rintro m E W ⟨t, b4, d, D, H, a⟩
 cases m with
 | zero => rw [gw] at a; cases a
 | succ f5 =>
  refine fm (sg (Wh H (Wh D (V (lB aK rfl B) (Wi rfl (ln (CI a rfl (fun d0 a => ?_) (fun d0 a => ?_))))))))
  ·refine kn (fm (kq (fm ?_)))
   replace d := d.drew
   have h := d.has.eS (Kr Sn)
   refine gU h gW (X 0 rfl h (eZ D) (X 1 rfl h (eZ H) (bS a fun c3 Z a => XQ 2 rfl h (lW (i := t) (x0 := c3) aK aC rfl rfl B (iV Z) (gQ Z)) (fun g5 d6 => XH 3 rfl h (fun _ o => eU rfl (na o (fun p n => (Ml n)) B gO d6 (gQ Z) bj aC)) (X 4 rfl h (eZ D) (X 5 rfl h (eZ H) (X 6 rfl h (gi rfl rfl rfl) (bS a fun c4 q a => XQ 7 rfl h (lW (i := (wi0 .i64 (t - 1))) (x0 := c4) aK aC rfl rfl B (iV q) (gQ q)) (fun g6 d7 => XH 8 rfl h (fun _ o => eU rfl (na o (fun p n => (Ml n)) B gO d7 (gQ q) bj aC)) (X 9 rfl h (tC rfl rfl (nq dF) (qD (om _ c3 c4))) (jo kr (fj ?_))))))))))))
   refine CI a rfl (fun d1 a => ?_) (fun d1 a => ?_)
   ·refine sg (Wh D (Wh H (bS a fun _ L a => VQ (oU (i := t) aK aC rfl rfl B (oN L) (oE L)) (fun c1 M => Wa (lS (Wa (ln ?_)))))))
    refine CJ a (fun U E W => ∃ s b5, ST true (keys (x ++ [])) w W μ0 (s ++ b5) ∧ E 0 = j ∧ E 3 = (.int .i64 U.2) ∧ fp 26 eO 9 j U.1 s) (fun U d4 => ?_) ?_
    ·refine kq (nV (fun m E W => ∃ A K Y y b6, ST true (keys (x ++ [])) w W μ0 (K ++ b6) ∧ E 0 = j ∧ E 3 = (.int .i64 Y) ∧ E 4 = c1 ∧ E 5 = (.int .i64 y) ∧ fp 26 eO 9 j A K ∧ gv t m A Y y = some U) iu ⟨a0, x, t, 1, _, (d.eS St), D, H, rfl, rfl, B, d4⟩ ?_)
     rintro m E W ⟨A, K, Y, y, b6, d, Q, T, I, J, g, k⟩
     cases m with
     | zero => rw [gv] at k; cases k
     | succ f6 =>
      refine fm (sg (Wh J (Wh I (V (wZ aK rfl M g) (Wi rfl (ln (CI k rfl (fun d2 k => ?_) (fun d2 k => ?_))))))))
      ·refine kn (fm (CJ k (fun F E W => ∃ N b7, ST true (keys (x ++ [])) w W μ0 (N ++ b7) ∧ E 0 = j ∧ E 3 = (.int .i64 F.2) ∧ E 4 = c1 ∧ E 5 = (.int .i64 y) ∧ fp 26 eO 9 j F.1 N) (fun F c => ?_) ?_))
       ·refine kq (fm ?_)
        replace d := d.drew
        have h := d.has.eS (Kr Sn)
        refine gU h gW (X 0 rfl h (eZ I) (X 1 rfl h (eZ J) (bS c fun c6 a2 c => XQ 2 rfl h (pa (i := y) (x0 := c6) aK aC rfl rfl g M (iV a2) (gQ a2)) (fun g7 d8 => XH 3 rfl h (fun _ o => eU rfl (na o (fun p n => (Ml n)) g gO d8 (pH (gQ a2)) bj aC)) (X 4 rfl h (eZ I) (X 5 rfl h (eZ J) (X 6 rfl h (gi rfl rfl rfl) (bS c fun c7 a3 c => XQ 7 rfl h (pa (i := (wi0 .i64 (y - 1))) (x0 := c7) aK aC rfl rfl g M (iV a3) (gQ a3)) (fun g8 d9 => XH 8 rfl h (fun _ o => eU rfl (na o (fun p n => (Ml n)) g gO d9 (pH (gQ a3)) bj aC)) (X 9 rfl h (AB rfl rfl (nq dF) (yM (om _ c6 c7))) (jo kr (fj ?_))))))))))))
        refine CI c rfl (fun d3 c => ?_) (fun d3 c => ?_)
        ·refine sg (Wh Q (Wh T (Wh I (Wh J (bS c fun a9 a4 c => VQ (pa (i := y) (x0 := a9) aK aC rfl rfl g M (iV a4) (gQ a4)) (fun g9 e0 => V (eU rfl (na d.has (fun p n => (Ml n)) g gO e0 (pH (gQ a4)) bj aC)) (bS c fun f8 a5 c => VQ (lW (i := Y) (x0 := f8) aK aC rfl rfl g (iV a5) (gQ a5)) (fun h1 e1 => VO (pB (u := (.agg (eO a9).toArray)) (x1 := a9)  d g gO iT rfl rfl rfl e1 (gQ a5) aC (fun g3 e8 d c9 => ln (eW ?_)))))))))))
         refine Wh T (Wi rfl (Wa (fB (gF (fj ?_)))))
         obtain rfl := sj c
         exact ⟨e8, _, (d.eS St), Q, rfl, I, J, c9⟩
        refine gH (gF (fj ?_))
        obtain rfl := sj c
        exact ⟨K, _, (d.eS St), Q, T, I, J, g⟩
       rintro ⟨f4, f7⟩ E W ⟨N, b7, d, f0, f1, f2, f3, e4⟩ d5
       exact eW (Wh f3 (Wi rfl (Wa (ln ⟨f6, cK _, f4, N, f7, (wi0 .i64 (y + 1)), _, (d.eS St), f0, f1, f2, rfl, e4, d5⟩))))
      refine nU (nG (nG (st (fj ?_))))
      obtain rfl := sj k
      exact ⟨K, _, (d.eS St), Q, T, g⟩
    rintro ⟨g4, c5⟩ E W ⟨s, b5, d, b9, c0, R⟩ G
    refine sg (Wh b9 (Wh c0 (bS G fun _ O G => VQ (oU (i := c5) aK aC rfl rfl R (oN O) (oE O)) (fun h2 e2 => VO (qX (z := K6)  d R gO iT aK bA e2 rfl rfl (fun g2 e7 d c8 => lr (Wh b9 (Wh c0 (bS G fun _ P G => VQ (sW (i := c5) aK aC rfl rfl c8 gO (oN P) (oE P)) (fun c2 e3 => ?_))))))))))
    refine Wa (lt (kI (ga (ga (kI (ga ?_))))))
    obtain rfl := sj G
    exact fL (v := c2) rfl rfl ⟨_, _, rfl, (d.fR (Kr Sn)), c2, e7, rfl, rfl, e3⟩
   exact gH (gF (fj (eW (Wh H (Wi rfl (Wa (ln ⟨f5, cK _, (wi0 .i64 (t + 1)), _, (d.eS St), D, rfl, a⟩)))))))
  refine nU (nG (nG (st (fj (sg (Wh D (Wa (lt ?_))))))))
  obtain rfl := sj a
  exact fL (v := j) rfl rfl ⟨_, _, rfl, (d.fR (Kr Sn)), j, x, rfl, rfl, B⟩
theorem wg (i : Value) (t r : List eH) (w : World) (B : Sl (Pl eO) 9 (hp w) i t) (hm : mR t = some r) :
  gu false Try.prog 24 [i] w 26 eO 9 r := by
 refine sh 11 func24 rfl (fun d => sg (Wa (lr (Wm (bS hm fun A T hm => VE (mh d call43 (gu.gz (pU i t _ _ (B.mono (Pl.mono _) d.fw) T)) (fun W3 E F R8 d a5 u Q => bS hm fun U D hm => ?_)))))))
 refine VE (eM d (Cr Qz Cn) call42 (fun n _ => (ol E A R8 (.func (.func 44) #[] #[]) (fun (x : eH) => mr x) _ _ n Q ⟨44, #[], #[], rfl, call44, fun W x r z hm => (tl x r W  hm).gz⟩ D)) ?_)
 rintro _ b5 b9 O d L o h ⟨k, K, a, rfl, I⟩
 obtain rfl := a.symm
 replace d := d.perm (Tr Tn)
 refine Wa (lr (Wm (bS hm fun Y G hm => ?_)))
 refine VE (eM d (Cr Qz Cn) call45 (fun n _ => fX.gz (wG k U K (.func (.func 46) #[] #[]) (fun (x : (eH × eH)) => jG x.1 x.2) _ _ n I ⟨46, #[], rfl, call46, fun W x r z hm => sB x.1 x.2 r W  hm⟩ G)) ?_)
 rintro _ b6 c0 a9 d a2 q h ⟨M, c, rfl, J⟩
 obtain rfl := c.symm
 replace d := d.perm (Tr Tn)
 refine lr (Wm (bS hm fun R H hm => ?_))
 refine VE (eM d (Cr Qz Cn) call47 (fun n _ => fX.gz (py k Y M _ _ n J H)) ?_)
 rintro _ b7 c1 P d a3 s h ⟨Z, N, g, rfl, j⟩
 obtain rfl := g.symm
 replace d := d.perm (Tr Tn)
 refine Wa (lt ?_)
 obtain rfl := sj hm
 exact fL (v := Z) rfl rfl ⟨_, N, rfl, d.jF (fun p y => (Ml y)) j.nd, j⟩
theorem kV (D : Value) (Q : Option fG) (I : Value) (M : List eY) (r : List eH) (w : World) (O : kp fN (hp w) D Q) (H : Sl gV 10 (hp w) I M) (hm : iG Q M = some r) :
  gu false Try.prog 9 [D, I] w 26 eO 9 r := by
 refine sh 26 func9 rfl (fun d => sg (Wa (lr (Wa (lS (Wm ?_))))))
 refine V (gX dl rfl H) (Wm (ln (jN (fun i E W => ∃ g k j G, (E 10 = .int .i64 (i : Nat) ∧ E 9 = .int .i64 (M.length : Nat)) ∧ ST false fY w W (hp w) (j ++ G) ∧ E 0 = D ∧ E 5 = g ∧ E 8 = I ∧ fp 26 eO 9 g k j ∧ fZ Q (M.drop i) k = some r) M.length H.len ⟨(.slice none 0 0), ([]), [], _, ⟨rfl, rfl⟩, (d.eS St), rfl, rfl, rfl, (fp.nil _ _ _), hm⟩ dc dc dc (fun _ _ _ h => by obtain ⟨_, _, _, _, q, _⟩ := h; exact q) ?_ ?_)))
 ·rintro b5 E W P ⟨g, k, j, G, ⟨n, s⟩, d, y, z, B, t, c⟩
  obtain ⟨a, c8, b0, a9, N⟩ := jf P
  rw [b0] at c
  refine bg (VQ (pL (i := (b5 : Int)) (x0 := a) gV.out dl bh B n H (bq _) a9) (fun c4 ⟨_, ⟨c7, rfl, K⟩, Z⟩ => V (eU rfl (ng d.has Z cz bh)) (VE (gN d bJ (fun b6 c3 d => ?_)))))
  obtain ⟨u, x, rfl⟩ := K.form
  let a0 := (C1 a.eH.Kind a.eH.Head.eJ a.eH.Head.eK a.eH.fa a.eH.B.eJ a.eH.B.eK a.eH.C.eJ a.eH.C.eK a.eH.eX u a.Tag.length x)
  refine VO (fD (.agg a0.toArray) (a0.toArray) d rfl rfl bh oc nb rfl (fun b7 d => lr (Wh y (VA d Mh a0 cz bh (bS c fun c5 a2 c => VE (Eg d call15 (fQ.gz (iw D Q a (.slice u a.Tag.length x) _ _ (O.mono gd d.fw) (K.mono (Pl.mono _) d.fw) a2)) (fun b9 d => Wi rfl (ln (CI c rfl (fun U c => ?_) (fun U c => ?_))))))))))
  ·refine eW (Wh z (Wf mH (VA d Mh (eO a.eH) bj aC (VE (fJ (cs := (eO a.eH).toArray) d (jc rfl) (mj aK aC bA) (fun c0 L d => ?_))))))
   replace d := d.perm (Nr (Qb (Qb Qz)) Nz)
   refine bS c fun b1 Y c => VE (mx (enc := eO) (v := g) (vs := (.slice (some ⟨L, 0, none⟩) 1 1)) (R := j) d gO dc iT aK nv.1 nv.2.1 rfl nv.2.2.1 nv.2.2.2 rfl rfl t (Sl.lit (enc := eO) (l := [a.eH]) gO rfl nb rfl (d.at_ (Ma Mh))) Y (fun c1 b2 a4 d T => Wa (fB (gF (fj ?_)))))
   replace d := d.eS (Kr (Db (Db St)))
   exact ⟨n, b2, b1, a4, _, ⟨rfl, s⟩, (d.eS St), y, rfl, B, T, (by rw [N]; exact c)⟩
  refine gH (gF (fj ?_))
  replace d := d.eS (Db St)
  exact ⟨n, g, k, j, _, ⟨rfl, s⟩, (d.eS St), y, z, B, t, (by rw [N]; exact c)⟩
 rintro E W ⟨g, k, j, G, ⟨n, s⟩, d, y, z, B, t, c⟩
 rw [bu] at c
 refine fj (sg (Wh z (bS c fun c6 a3 c => VE (mh d call24 (wg g k _ _ (t.sl gO (fun b o F => d.at_ (Ml F))) a3) (fun c2 b3 c9 a5 d b4 A J => Wa (ln ?_))))))
 replace d := d.eS (Kr (Dr St))
 refine gq ?_
 obtain rfl := sj c
 exact fL (v := b3) rfl rfl ⟨_, a5, rfl, d.jF (fun p F => (Ml F)) J.nd, J⟩
theorem uz (c : eY) (t : Value) (g : eY) (u : Value) (r : Bool) (w : World) (i : Sl (Pl (eQ .u8)) 1 (hp w) t c.Tag) (j : Sl (Pl (eQ .u8)) 1 (hp w) u g.Tag) (hm : mU c g = some r) :
  fQ true Try.prog 18 [(.agg #[(.int .i64 c.eH.Kind), (.string c.eH.Head.eJ), (.string c.eH.Head.eK), (.string c.eH.fa), (.string c.eH.B.eJ), (.string c.eH.B.eK), (.string c.eH.C.eJ), (.string c.eH.C.eK), (.string c.eH.eX), t]), (.agg #[(.int .i64 g.eH.Kind), (.string g.eH.Head.eJ), (.string g.eH.Head.eK), (.string g.eH.fa), (.string g.eH.B.eJ), (.string g.eH.B.eK), (.string g.eH.C.eJ), (.string g.eH.C.eK), (.string g.eH.eX), u])] w (.bool r) := by
 refine cG 19 func18 rfl (fun d => sg ?_)
 obtain ⟨G, I, rfl⟩ := i.form
 refine VE (iM d rfl (fun N T d => ?_))
 obtain ⟨H, J, rfl⟩ := j.form
 refine VE (iM d rfl (fun Q U d => Wa (lr (Wf mH (VA d (Mt Mh) (eO c.eH) bj aC (Wf mH (VA d Mh (eO g.eH) bj aC (V (tC rfl rfl (nq dF) (qD (om _ c.eH g.eH))) (Wm (LJ hm (fun z E W => ∃ y, ST true fY w W (hp w) y ∧ E 4 = (.bool false) ∧ E 18 = (.bool z)) 8 ?_ (fun z k x => ?_)))))))))))
 ·rintro M E W ⟨y, d, K, D⟩ B
  exact Wg D (lt (rQ B d))
 refine bC k (fun a k => ?_) (fun a k => ?_)
 ·refine ug a (fe nB rfl) (ug a (eU rfl (fx d.has (Mt Mh) rfl bU)) (ug a (ph az bI aZ rfl (i.mono (Pl.mono _) d.fw)) (ug a (fe nB rfl) (ug a (eU rfl (fx d.has Mh rfl bU)) (ug a (ph az bI aZ rfl (j.mono (Pl.mono _) d.fw)) (ug a (wi rfl rfl rfl) (V (ft (cB a) rfl) ?_)))))))
  obtain rfl := sj k
  exact x _ _ ⟨_, (d.eS (Db (Db St))), rfl, rfl⟩
 refine un a (un a (un a (un a (un a (un a (un a (V (fq (cB a) rfl) ?_)))))))
 obtain rfl := sj k
 exact x _ _ ⟨_, (d.eS (Db (Db St))), rfl, rfl⟩
set_option maxHeartbeats 4000000 in
theorem tj (r : Bool) (w : World) (hm : jZ  = some r) :
  fQ false Try.prog 4 [] w (.bool r) := by
 have d := ST.start (dd := false) w
 unfold jZ at hm
 refine cF 112 func4 rfl (fm (eW (V (fO rfl) (fB (fj (fm (eW (VE (fJ (qs := #[(0, (.int .u8 107))]) (cs := [(.int .u8 107)].toArray) d (jc rfl) (lj [(.int .u8 107)] az cX dE (by decide) rfl (by intro v q; simp only [aB, bc, cy] at q; rcases q with rfl <;> rfl) rfl rfl) (fun W2 O d => ?_))))))))))
 have ad : Fr w.heap.size (.slice (some ⟨O, 0, none⟩) 1 1) := Fr.box d Mh
 refine VE (nY (l := [107]) d az bI rfl rfl rfl (by decide) (fun W3 eg d w0 eb t2 => V (gI (qs := #[(0, (.string K1)), (1, (.slice (some ⟨O, 0, none⟩) 1 1))]) (v := (.agg (C4 O).toArray)) (kB rfl rfl) (fT cM ck (vK _ ck) (by kernel_rfl))) (VE (fJ (qs := #[(0, (.int .u8 108))]) (cs := [(.int .u8 108)].toArray) d (jc rfl) (lj [(.int .u8 108)] az cX dE (by decide) rfl (by intro v q; simp only [aB, bc, cy] at q; rcases q with rfl <;> rfl) rfl rfl) (fun y8 P d => ?_)))))
 have v5 : Fr w.heap.size (.slice (some ⟨P, 0, none⟩) 1 1) := Fr.box d Mh
 refine VE (nY (l := [108]) d az bI rfl rfl rfl (by decide) (fun y9 al d n1 cb s2 => V (gI (qs := #[(0, (.string K4)), (1, (.slice (some ⟨P, 0, none⟩) 1 1))]) (v := (.agg #[(.string K4), (.slice (some ⟨P, 0, none⟩) 1 1)])) (kB rfl rfl) (fT cM ck (vK _ ck) (by kernel_rfl))) (VE (fJ (qs := #[(0, (.agg (C4 O).toArray)), (1, (.agg #[(.string K4), (.slice (some ⟨P, 0, none⟩) 1 1)]))]) (cs := #[(.string K1), (.slice (some ⟨O, 0, none⟩) 1 1), (.string K4), (.slice (some ⟨P, 0, none⟩) 1 1)]) d (kB rfl rfl) (lj [(.agg (C4 O).toArray), (.agg #[(.string K4), (.slice (some ⟨P, 0, none⟩) 1 1)])] di dH cM (by decide) rfl (by intro v q; simp only [aB, bc, cy] at q; rcases q with rfl | rfl <;> rfl) rfl rfl) (fun z0 g5 d => ?_)))))
 have v6 : Fr w.heap.size (.slice (some ⟨g5, 0, none⟩) 2 2) := Fr.box d Mh
 obtain ⟨am, d, t5, cc, s3⟩ := ST.xY (B := [(g5, Obj.cells (#[(.string K1), (.slice (some ⟨O, 0, none⟩) 1 1), (.string K4), (.slice (some ⟨P, 0, none⟩) 1 1)] : Array Value) 53 (0, 0))]) nJ d (iY.lit nJ (l := [(⟨K1, [107]⟩ : Key), (⟨K4, [108]⟩ : Key)]) (.cons (ys := C4 O) (js.mk ⟨(.slice (some ⟨O, 0, none⟩) 1 1), rfl, (t2.mono (Pl.mono _) n1)⟩) (.cons (ys := [(.string K4), (.slice (some ⟨P, 0, none⟩) 1 1)]) (js.mk ⟨(.slice (some ⟨P, 0, none⟩) 1 1), rfl, s2⟩) .nil)) rfl nb rfl)
 refine bS hm fun f3 r8 hm => ?_
 have F := d.size
 refine VE (tZ d (bW _) call7 (fun hH s n A => gm.gz (nR (.slice (some ⟨g5, 0, none⟩) 2 2) ([(⟨K1, [107]⟩ : Key), (⟨K4, [108]⟩ : Key)]) _ _ ⟨hH, s, n⟩ (s3.mono nJ.mono (eT.refl _)) r8)) (fun z1 af an y4 d t6 cf r4 => ?_) (L0 := []))
 obtain ⟨L, e9, rfl, d0⟩ := r4
 replace e9 := e9.symm; subst e9
 replace d := d.perm Tn
 refine V (eZ rfl) (V (iv rfl rfl) (V (iv rfl rfl) (V (fO rfl) (V (fO rfl) (fB (fj (fm (eW (V (gI (qs := #[(0, (.string K1))]) (v := (.agg #[(.string K1), (.slice none 0 0)])) (jc rfl) (fT cM ck (vK _ ck) (by kernel_rfl))) (VE (fJ (qs := #[(0, (.agg #[(.string K1), (.slice none 0 0)]))]) (cs := #[(.string K1), (.slice none 0 0)]) d (jc rfl) (lj [(.agg #[(.string K1), (.slice none 0 0)])] di dH cM (by decide) rfl (by intro v q; simp only [aB, bc, cy] at q; rcases q with rfl <;> rfl) rfl rfl) (fun z2 g6 d => ?_))))))))))))
 have v7 : Fr w.heap.size (.slice (some ⟨g6, 0, none⟩) 1 1) := Fr.box d Mh
 obtain ⟨ao, d, c1, ch, s4⟩ := ST.xY (B := [(g6, Obj.cells (#[(.string K1), (.slice none 0 0)] : Array Value) 53 (0, 0))]) nJ d (iY.lit nJ (l := [(⟨K1, []⟩ : Key)]) (.cons (ys := [(.string K1), (.slice none 0 0)]) (js.mk ⟨(.slice none 0 0), rfl, (Sl.nil _ _ _)⟩) .nil) rfl nb rfl)
 refine bS hm fun ae r9 hm => ?_
 have F := d.size
 refine VE (tZ d (bW _) call7 (fun hH s n A => gm.gz (nR (.slice (some ⟨g6, 0, none⟩) 1 1) ([(⟨K1, []⟩ : Key)]) _ _ ⟨hH, s, n⟩ (s4.mono nJ.mono (eT.refl _)) r9)) (fun z3 ag ap y5 d c2 cp r5 => ?_) (L0 := []))
 obtain ⟨aj, f0, rfl, w1⟩ := r5
 replace f0 := f0.symm; subst f0
 replace d := d.perm Tn
 refine V (eZ rfl) (V (iv rfl rfl) (V (iv rfl rfl) (V (fO rfl) (V (fO rfl) (fB (fj (fm (eW (V (gI (qs := #[(0, (.string K1)), (1, (.string K2))]) (v := (.agg (fz K5).toArray)) (kB rfl rfl) (fT zeroValue24 cv (zA _ cv) (by kernel_rfl))) (V (gI (qs := #[(0, (.int .i64 1)), (1, (.agg (fz K5).toArray)), (2, (.string K3))]) (v := (.agg (eO K7).toArray)) (zW rfl rfl rfl) (fT bA bl (vX _ bl) (by kernel_rfl))) (VE (gN d bA (fun z4 a4 d => VO (fD (.agg (eO K7).toArray) ((eO K7).toArray) d rfl rfl aC (iT K7) nb rfl (fun z5 d => fB (fj ?_))))))))))))))))
 refine fm (eW (V (eZ rfl) (V (eU rfl (fh d.has Mh (eO K7) rfl bj aC)) (bS hm fun a s0 hm => ?_))))
 have F := d.size
 refine VE (tZ d (bW _) call8 (fun hH s n A => gm.gz (mK L f3.1 K7 _ _ ⟨hH, s, n⟩ (d0.mono gd (c1.trans c2)) s0)) (fun z6 ah aq y6 d c6 cS r6 => ?_) (L0 := []))
 obtain ⟨ak, f1, rfl, a7⟩ := r6
 replace f1 := f1.symm; subst f1
 replace d := d.perm Tn
 refine V (eZ rfl) (V (iv rfl rfl) (V (iv rfl rfl) (VE (gN d bJ (fun z7 z d => ?_)))))
 obtain ⟨j, k, rfl⟩ := a7.form
 refine VO (fD (.agg #[(.int .i64 (((a.1).eH).Kind)), (.string ((((a.1).eH).Head).eJ)), (.string ((((a.1).eH).Head).eK)), (.string (((a.1).eH).fa)), (.string ((((a.1).eH).B).eJ)), (.string ((((a.1).eH).B).eK)), (.string ((((a.1).eH).C).eJ)), (.string ((((a.1).eH).C).eK)), (.string (((a.1).eH).eX)), (.slice j ((a.1).Tag).length k)]) (#[(.int .i64 (((a.1).eH).Kind)), (.string ((((a.1).eH).Head).eJ)), (.string ((((a.1).eH).Head).eK)), (.string (((a.1).eH).fa)), (.string ((((a.1).eH).B).eJ)), (.string ((((a.1).eH).B).eK)), (.string ((((a.1).eH).C).eJ)), (.string ((((a.1).eH).C).eK)), (.string (((a.1).eH).eX)), (.slice j ((a.1).Tag).length k)]) d rfl rfl bh (by simp [Value.cells, Value.oneCell']) nb rfl (fun z8 d => V (fO rfl) (fB (fj (fm (eW (VE (fJ (qs := #[(0, (.int .u8 109))]) (cs := [(.int .u8 109)].toArray) d (jc rfl) (lj [(.int .u8 109)] az cX dE (by decide) rfl (by intro v q; simp only [aB, bc, cy] at q; rcases q with rfl <;> rfl) rfl rfl) (fun z9 a9 d => ?_)))))))))
 have v8 : Fr w.heap.size (.slice (some ⟨a9, 0, none⟩) 1 1) := Fr.box d Mh
 refine VE (nY (l := [109]) d az bI rfl rfl rfl (by decide) (fun aa ar d M dk s5 => V (gI (qs := #[(0, (.string K1)), (1, (.slice (some ⟨a9, 0, none⟩) 1 1))]) (v := (.agg (C4 a9).toArray)) (kB rfl rfl) (fT cM ck (vK _ ck) (by kernel_rfl))) (VE (fJ (qs := #[(0, (.agg (C4 a9).toArray))]) (cs := (C4 a9).toArray) d (jc rfl) (lj [(.agg (C4 a9).toArray)] di dH cM (by decide) rfl (by intro v q; simp only [aB, bc, cy] at q; rcases q with rfl <;> rfl) rfl rfl) (fun ab g7 d => ?_)))))
 have v9 : Fr w.heap.size (.slice (some ⟨g7, 0, none⟩) 1 1) := Fr.box d Mh
 obtain ⟨au, d, N, ds, s6⟩ := ST.xY (B := [(g7, Obj.cells ((C4 a9).toArray : Array Value) 53 (0, 0))]) nJ d (iY.lit nJ (l := [(⟨K1, [109]⟩ : Key)]) (.cons (ys := C4 a9) (js.mk ⟨(.slice (some ⟨a9, 0, none⟩) 1 1), rfl, s5⟩) .nil) rfl nb rfl)
 refine bS hm fun t3 s1 hm => ?_
 have F := d.size
 refine VE (tZ d (bW _) call7 (fun hH s n A => gm.gz (nR (.slice (some ⟨g7, 0, none⟩) 1 1) ([(⟨K1, [109]⟩ : Key)]) _ _ ⟨hH, s, n⟩ (s6.mono nJ.mono (eT.refl _)) s1)) (fun ac ai av y7 d Q ea r7 => ?_) (L0 := []))
 obtain ⟨e2, c7, rfl, p1⟩ := r7
 replace c7 := c7.symm; subst c7
 replace d := d.perm Tn
 refine V (eZ rfl) (V (iv rfl rfl) (V (iv rfl rfl) (V (fO rfl) (V (fO rfl) (fB (fj (fm (eW (V (gI (qs := #[]) (v := (.agg #[(.slice none 0 0)])) nz (fT zeroValue43 cN (yd _ cN) (by kernel_rfl))) (VE (iM (v := (.agg #[(.slice none 0 0)])) d rfl (fun u3 g4 d => V (fO rfl) (fB (fj (fm ?_)))))))))))))))
 refine eW (V (eZ rfl) (V (eU rfl (fh d.has (Mt Mh) [(.int .i64 (((a.1).eH).Kind)), (.string ((((a.1).eH).Head).eJ)), (.string ((((a.1).eH).Head).eK)), (.string (((a.1).eH).fa)), (.string ((((a.1).eH).B).eJ)), (.string ((((a.1).eH).B).eK)), (.string ((((a.1).eH).C).eJ)), (.string ((((a.1).eH).C).eK)), (.string (((a.1).eH).eX)), (.slice j ((a.1).Tag).length k)] rfl cz bh)) (bS hm fun a5 o2 hm => ?_)))
 have F := d.size
 refine VE (yA d (Cb Pz (C0 Cn)) call10 (fun hH s n A => fX.gz (pZ g4 (.slice none 0 0) ([]) [] (⟨(a.1).eH, (a.1).Tag⟩ : eY) (.slice j ((a.1).Tag).length k) _ _ ⟨hH, s, eT.refl _⟩ (fp.nil _ _ _) (a7.mono (Pl.mono _) (((M.trans N).trans Q).trans n)) o2)) (fun u4 w7 y1 t7 d D aE ca m7 => ?_))
 obtain ⟨s9, u2, c8, rfl, p2⟩ := m7
 replace c8 := c8.symm; subst c8
 replace d := d.perm (Tb (Tr Tn))
 refine V (fO rfl) (fB (fj (fm (eW (VE (gN d bJ (fun u5 i d => fB (fj (fm (eW (V (eZ rfl) (bS hm fun s7 o3 hm => VE (mh d call12 (gu.gz (mD g4 s9 a5.2 _ _ (p2.sl (fun _ => rfl) (fun b o hq => d.at_ (Mt (Mt (Ml hq))))) (At.of (d.at_ (Mt Mh)) _ rfl) o3)) (fun u6 s8 y2 t9 d G ba f2 => V (oZ (by exact jA rfl) rfl) ?_))))))))))))))
 have t4 := f2.yo d (fun p hq => (Ml hq))
 obtain ⟨y3, d, H, bb, p0⟩ := ST.sG d f2 (fun _ => rfl)
 refine bS hm fun c o4 hm => ?_
 have F := d.size
 refine VE (tZ d (Cb Pz Cn) call11 (fun hH s n A => gm.gz (ox s8 s7 i (⟨K6, []⟩ : eY) (.slice none 0 0) _ _ ⟨hH, s, n⟩ (p0.mono (Pl.mono _) (eT.refl _)) (Sl.nil _ _ _) o4)) (fun u7 w8 a8 t8 d I bs m8 => ?_))
 obtain ⟨K, c9, rfl, p3⟩ := m8
 replace c9 := c9.symm; subst c9
 replace d := d.perm (Tb Tn)
 refine V (fO rfl) (fB (fj ?_))
 replace d := d.eS (Kb (Db (Dr St)))
 refine fm (eW (V (eZ rfl) (V (gi rfl rfl rfl) (V (eZ rfl) (LJ hm (fun m6 E W => ∃  (f4 : List (Nat × Obj)), ST false fY w W a8 ((i, Obj.cells (#[(.int .i64 (((c.2).eH).Kind)), (.string ((((c.2).eH).Head).eJ)), (.string ((((c.2).eH).Head).eK)), (.string (((c.2).eH).fa)), (.string ((((c.2).eH).B).eJ)), (.string ((((c.2).eH).B).eK)), (.string ((((c.2).eH).C).eJ)), (.string ((((c.2).eH).C).eK)), (.string (((c.2).eH).eX)), K] : Array Value) 36 (0, 0)) :: ((z, Obj.cells (#[(.int .i64 (((a.1).eH).Kind)), (.string ((((a.1).eH).Head).eJ)), (.string ((((a.1).eH).Head).eK)), (.string (((a.1).eH).fa)), (.string ((((a.1).eH).B).eJ)), (.string ((((a.1).eH).B).eK)), (.string ((((a.1).eH).C).eJ)), (.string ((((a.1).eH).C).eK)), (.string (((a.1).eH).eX)), (.slice j ((a.1).Tag).length k)] : Array Value) 36 (0, 0)) :: ((a4, Obj.cells ((eO K7).toArray : Array Value) 26 (0, 0)) :: f4))) ∧ E 0 = (.bool false) ∧ E 1 = L ∧ E 5 = (.pointer (some ⟨a4, 0, none⟩)) ∧ E 6 = (.pointer (some ⟨z, 0, none⟩)) ∧ E 7 = (.int .i64 a.2) ∧ E 8 = e2 ∧ E 11 = (.bool a5.1) ∧ E 12 = (.pointer (some ⟨i, 0, none⟩)) ∧ E 13 = (.int .i64 c.1) ∧ E 61 = (.bool m6)) 3 ?_ (fun m6 b7 e1 => ?_))))))
 ·rintro x1 E W ⟨f4, d, g8, g9, h0, h1, p6, h2, h3, h4, h5, p7⟩ n2
  refine V (eZ p7) (LJ n2 (fun m5 E W => ∃  (f5 : List (Nat × Obj)), ST false fY w W a8 ((i, Obj.cells (#[(.int .i64 (((c.2).eH).Kind)), (.string ((((c.2).eH).Head).eJ)), (.string ((((c.2).eH).Head).eK)), (.string (((c.2).eH).fa)), (.string ((((c.2).eH).B).eJ)), (.string ((((c.2).eH).B).eK)), (.string ((((c.2).eH).C).eJ)), (.string ((((c.2).eH).C).eK)), (.string (((c.2).eH).eX)), K] : Array Value) 36 (0, 0)) :: ((z, Obj.cells (#[(.int .i64 (((a.1).eH).Kind)), (.string ((((a.1).eH).Head).eJ)), (.string ((((a.1).eH).Head).eK)), (.string (((a.1).eH).fa)), (.string ((((a.1).eH).B).eJ)), (.string ((((a.1).eH).B).eK)), (.string ((((a.1).eH).C).eJ)), (.string ((((a.1).eH).C).eK)), (.string (((a.1).eH).eX)), (.slice j ((a.1).Tag).length k)] : Array Value) 36 (0, 0)) :: ((a4, Obj.cells ((eO K7).toArray : Array Value) 26 (0, 0)) :: f5))) ∧ E 0 = (.bool false) ∧ E 1 = L ∧ E 5 = (.pointer (some ⟨a4, 0, none⟩)) ∧ E 6 = (.pointer (some ⟨z, 0, none⟩)) ∧ E 8 = e2 ∧ E 11 = (.bool a5.1) ∧ E 12 = (.pointer (some ⟨i, 0, none⟩)) ∧ E 13 = (.int .i64 c.1) ∧ E 65 = (.bool m5)) 3 ?_ (fun m5 b6 e0 => ?_))
  ·rintro x2 E W ⟨f5, d, h6, h7, h8, e3, h9, i0, i1, i2, p8⟩ n3
   refine V (eZ p8) (LJ n3 (fun m4 E W => ∃  (f6 : List (Nat × Obj)), ST false fY w W a8 ((i, Obj.cells (#[(.int .i64 (((c.2).eH).Kind)), (.string ((((c.2).eH).Head).eJ)), (.string ((((c.2).eH).Head).eK)), (.string (((c.2).eH).fa)), (.string ((((c.2).eH).B).eJ)), (.string ((((c.2).eH).B).eK)), (.string ((((c.2).eH).C).eJ)), (.string ((((c.2).eH).C).eK)), (.string (((c.2).eH).eX)), K] : Array Value) 36 (0, 0)) :: ((z, Obj.cells (#[(.int .i64 (((a.1).eH).Kind)), (.string ((((a.1).eH).Head).eJ)), (.string ((((a.1).eH).Head).eK)), (.string (((a.1).eH).fa)), (.string ((((a.1).eH).B).eJ)), (.string ((((a.1).eH).B).eK)), (.string ((((a.1).eH).C).eJ)), (.string ((((a.1).eH).C).eK)), (.string (((a.1).eH).eX)), (.slice j ((a.1).Tag).length k)] : Array Value) 36 (0, 0)) :: ((a4, Obj.cells ((eO K7).toArray : Array Value) 26 (0, 0)) :: f6))) ∧ E 0 = (.bool false) ∧ E 1 = L ∧ E 5 = (.pointer (some ⟨a4, 0, none⟩)) ∧ E 6 = (.pointer (some ⟨z, 0, none⟩)) ∧ E 8 = e2 ∧ E 11 = (.bool a5.1) ∧ E 12 = (.pointer (some ⟨i, 0, none⟩)) ∧ E 13 = (.int .i64 c.1) ∧ E 71 = (.bool m4)) 5 ?_ (fun m4 b5 d9 => ?_))
   ·rintro x3 E W ⟨f6, d, i3, e4, i4, e5, i5, i6, i7, i8, p9⟩ n4
    refine V (eZ p9) (LJ n4 (fun m3 E W => ∃  (f7 : List (Nat × Obj)), ST false fY w W a8 ((i, Obj.cells (#[(.int .i64 (((c.2).eH).Kind)), (.string ((((c.2).eH).Head).eJ)), (.string ((((c.2).eH).Head).eK)), (.string (((c.2).eH).fa)), (.string ((((c.2).eH).B).eJ)), (.string ((((c.2).eH).B).eK)), (.string ((((c.2).eH).C).eJ)), (.string ((((c.2).eH).C).eK)), (.string (((c.2).eH).eX)), K] : Array Value) 36 (0, 0)) :: ((z, Obj.cells (#[(.int .i64 (((a.1).eH).Kind)), (.string ((((a.1).eH).Head).eJ)), (.string ((((a.1).eH).Head).eK)), (.string (((a.1).eH).fa)), (.string ((((a.1).eH).B).eJ)), (.string ((((a.1).eH).B).eK)), (.string ((((a.1).eH).C).eJ)), (.string ((((a.1).eH).C).eK)), (.string (((a.1).eH).eX)), (.slice j ((a.1).Tag).length k)] : Array Value) 36 (0, 0)) :: ((a4, Obj.cells ((eO K7).toArray : Array Value) 26 (0, 0)) :: f7))) ∧ E 0 = (.bool false) ∧ E 1 = L ∧ E 5 = (.pointer (some ⟨a4, 0, none⟩)) ∧ E 6 = (.pointer (some ⟨z, 0, none⟩)) ∧ E 8 = e2 ∧ E 11 = (.bool a5.1) ∧ E 12 = (.pointer (some ⟨i, 0, none⟩)) ∧ E 13 = (.int .i64 c.1) ∧ E 77 = (.bool m3)) 5 ?_ (fun m3 a3 d8 => ?_))
    ·rintro x4 E W ⟨f7, d, i9, j0, j3, e6, q0, j4, j5, j6, q1⟩ n5
     refine V (eZ q1) (LJ n5 (fun m2 E W => ∃  (f8 : List (Nat × Obj)), ST false fY w W a8 ((i, Obj.cells (#[(.int .i64 (((c.2).eH).Kind)), (.string ((((c.2).eH).Head).eJ)), (.string ((((c.2).eH).Head).eK)), (.string (((c.2).eH).fa)), (.string ((((c.2).eH).B).eJ)), (.string ((((c.2).eH).B).eK)), (.string ((((c.2).eH).C).eJ)), (.string ((((c.2).eH).C).eK)), (.string (((c.2).eH).eX)), K] : Array Value) 36 (0, 0)) :: ((z, Obj.cells (#[(.int .i64 (((a.1).eH).Kind)), (.string ((((a.1).eH).Head).eJ)), (.string ((((a.1).eH).Head).eK)), (.string (((a.1).eH).fa)), (.string ((((a.1).eH).B).eJ)), (.string ((((a.1).eH).B).eK)), (.string ((((a.1).eH).C).eJ)), (.string ((((a.1).eH).C).eK)), (.string (((a.1).eH).eX)), (.slice j ((a.1).Tag).length k)] : Array Value) 36 (0, 0)) :: ((a4, Obj.cells ((eO K7).toArray : Array Value) 26 (0, 0)) :: f8))) ∧ E 0 = (.bool false) ∧ E 1 = L ∧ E 5 = (.pointer (some ⟨a4, 0, none⟩)) ∧ E 6 = (.pointer (some ⟨z, 0, none⟩)) ∧ E 11 = (.bool a5.1) ∧ E 12 = (.pointer (some ⟨i, 0, none⟩)) ∧ E 13 = (.int .i64 c.1) ∧ E 83 = (.bool m2)) 5 ?_ (fun m2 a2 d7 => ?_))
     ·rintro x5 E W ⟨f8, d, j7, e7, j8, j9, k0, k1, k2, q2⟩ n6
      refine V (eZ q2) (LJ n6 (fun m1 E W => ∃  (c3 : eV) (f9 : List (Nat × Obj)), eT a8 c3 ∧ ST false fY w W c3 ((i, Obj.cells (#[(.int .i64 (((c.2).eH).Kind)), (.string ((((c.2).eH).Head).eJ)), (.string ((((c.2).eH).Head).eK)), (.string (((c.2).eH).fa)), (.string ((((c.2).eH).B).eJ)), (.string ((((c.2).eH).B).eK)), (.string ((((c.2).eH).C).eJ)), (.string ((((c.2).eH).C).eK)), (.string (((c.2).eH).eX)), K] : Array Value) 36 (0, 0)) :: ((z, Obj.cells (#[(.int .i64 (((a.1).eH).Kind)), (.string ((((a.1).eH).Head).eJ)), (.string ((((a.1).eH).Head).eK)), (.string (((a.1).eH).fa)), (.string ((((a.1).eH).B).eJ)), (.string ((((a.1).eH).B).eK)), (.string ((((a.1).eH).C).eJ)), (.string ((((a.1).eH).C).eK)), (.string (((a.1).eH).eX)), (.slice j ((a.1).Tag).length k)] : Array Value) 36 (0, 0)) :: ((a4, Obj.cells ((eO K7).toArray : Array Value) 26 (0, 0)) :: f9))) ∧ E 0 = (.bool false) ∧ E 1 = L ∧ E 5 = (.pointer (some ⟨a4, 0, none⟩)) ∧ E 6 = (.pointer (some ⟨z, 0, none⟩)) ∧ E 11 = (.bool a5.1) ∧ E 12 = (.pointer (some ⟨i, 0, none⟩)) ∧ E 13 = (.int .i64 c.1) ∧ E 89 = (.bool m1)) 5 ?_ (fun m1 R d6 => ?_))
      ·rintro x6 E W ⟨c3, f9, b2, d, k3, q3, q4, e8, k4, k5, k6, q5⟩ n7
       refine V (eZ q5) (LJ n7 (fun m0 E W => ∃  (c0 : eV) (g0 : List (Nat × Obj)), eT c3 c0 ∧ ST false fY w W c0 ((i, Obj.cells (#[(.int .i64 (((c.2).eH).Kind)), (.string ((((c.2).eH).Head).eJ)), (.string ((((c.2).eH).Head).eK)), (.string (((c.2).eH).fa)), (.string ((((c.2).eH).B).eJ)), (.string ((((c.2).eH).B).eK)), (.string ((((c.2).eH).C).eJ)), (.string ((((c.2).eH).C).eK)), (.string (((c.2).eH).eX)), K] : Array Value) 36 (0, 0)) :: ((z, Obj.cells (#[(.int .i64 (((a.1).eH).Kind)), (.string ((((a.1).eH).Head).eJ)), (.string ((((a.1).eH).Head).eK)), (.string (((a.1).eH).fa)), (.string ((((a.1).eH).B).eJ)), (.string ((((a.1).eH).B).eK)), (.string ((((a.1).eH).C).eJ)), (.string ((((a.1).eH).C).eK)), (.string (((a.1).eH).eX)), (.slice j ((a.1).Tag).length k)] : Array Value) 36 (0, 0)) :: g0)) ∧ E 0 = (.bool false) ∧ E 6 = (.pointer (some ⟨z, 0, none⟩)) ∧ E 11 = (.bool a5.1) ∧ E 12 = (.pointer (some ⟨i, 0, none⟩)) ∧ E 13 = (.int .i64 c.1) ∧ E 99 = (.bool m0)) 9 ?_ (fun m0 a0 d5 => ?_))
       ·rintro x7 E W ⟨c0, g0, d1, d, k7, k8, q6, k9, l0, q7⟩ n8
        refine V (eZ q7) (LJ n8 (fun l9 E W => ∃  (g1 : List (Nat × Obj)), ST false fY w W c0 ((i, Obj.cells (#[(.int .i64 (((c.2).eH).Kind)), (.string ((((c.2).eH).Head).eJ)), (.string ((((c.2).eH).Head).eK)), (.string (((c.2).eH).fa)), (.string ((((c.2).eH).B).eJ)), (.string ((((c.2).eH).B).eK)), (.string ((((c.2).eH).C).eJ)), (.string ((((c.2).eH).C).eK)), (.string (((c.2).eH).eX)), K] : Array Value) 36 (0, 0)) :: ((z, Obj.cells (#[(.int .i64 (((a.1).eH).Kind)), (.string ((((a.1).eH).Head).eJ)), (.string ((((a.1).eH).Head).eK)), (.string (((a.1).eH).fa)), (.string ((((a.1).eH).B).eJ)), (.string ((((a.1).eH).B).eK)), (.string ((((a.1).eH).C).eJ)), (.string ((((a.1).eH).C).eK)), (.string (((a.1).eH).eX)), (.slice j ((a.1).Tag).length k)] : Array Value) 36 (0, 0)) :: g1)) ∧ E 0 = (.bool false) ∧ E 6 = (.pointer (some ⟨z, 0, none⟩)) ∧ E 12 = (.pointer (some ⟨i, 0, none⟩)) ∧ E 13 = (.int .i64 c.1) ∧ E 102 = (.bool l9)) 2 ?_ (fun l9 b4 d4 => ?_))
        ·rintro x8 E W ⟨g1, d, l1, l2, l3, q8, q9⟩ n9
         refine V (eZ q9) (LJ n9 (fun l8 E W => ∃  (g2 : List (Nat × Obj)), ST false fY w W c0 ((i, Obj.cells (#[(.int .i64 (((c.2).eH).Kind)), (.string ((((c.2).eH).Head).eJ)), (.string ((((c.2).eH).Head).eK)), (.string (((c.2).eH).fa)), (.string ((((c.2).eH).B).eJ)), (.string ((((c.2).eH).B).eK)), (.string ((((c.2).eH).C).eJ)), (.string ((((c.2).eH).C).eK)), (.string (((c.2).eH).eX)), K] : Array Value) 36 (0, 0)) :: ((z, Obj.cells (#[(.int .i64 (((a.1).eH).Kind)), (.string ((((a.1).eH).Head).eJ)), (.string ((((a.1).eH).Head).eK)), (.string (((a.1).eH).fa)), (.string ((((a.1).eH).B).eJ)), (.string ((((a.1).eH).B).eK)), (.string ((((a.1).eH).C).eJ)), (.string ((((a.1).eH).C).eK)), (.string (((a.1).eH).eX)), (.slice j ((a.1).Tag).length k)] : Array Value) 36 (0, 0)) :: g2)) ∧ E 0 = (.bool false) ∧ E 6 = (.pointer (some ⟨z, 0, none⟩)) ∧ E 12 = (.pointer (some ⟨i, 0, none⟩)) ∧ E 106 = (.bool l8)) 3 ?_ (fun l8 b3 d3 => ?_))
         ·rintro x9 E W ⟨g2, d, l4, r0, r1, r2⟩ o0
          refine V (eZ r2) (LJ o0 (fun l7 E W => ∃  (g3 : List (Nat × Obj)), ST false fY w W c0 g3 ∧ E 0 = (.bool false) ∧ E 111 = (.bool l7)) 4 ?_ (fun l7 Z d2 => ?_))
          ·rintro y0 E W ⟨g3, d, v4, r3⟩ o1
           refine V (fO r3) (fB (fj (gq ?_)))
           have h := sj o1; subst h
           exact rP d
          refine bC Z (fun J Z => ?_) (fun J Z => ?_)
          ·refine Vg rfl (cB J) (eU r1 (fh d.has Mh [(.int .i64 (((c.2).eH).Kind)), (.string ((((c.2).eH).Head).eJ)), (.string ((((c.2).eH).Head).eK)), (.string (((c.2).eH).fa)), (.string ((((c.2).eH).B).eJ)), (.string ((((c.2).eH).B).eK)), (.string ((((c.2).eH).C).eJ)), (.string ((((c.2).eH).C).eK)), (.string (((c.2).eH).eX)), K] rfl cz bh)) (Vg rfl (cB J) (eU r0 (fh d.has (Mt Mh) [(.int .i64 (((a.1).eH).Kind)), (.string ((((a.1).eH).Head).eJ)), (.string ((((a.1).eH).Head).eK)), (.string (((a.1).eH).fa)), (.string ((((a.1).eH).B).eJ)), (.string ((((a.1).eH).B).eK)), (.string ((((a.1).eH).C).eJ)), (.string ((((a.1).eH).C).eK)), (.string (((a.1).eH).eX)), (.slice j ((a.1).Tag).length k)] rfl cz bh)) (bS Z fun w2 o5 Z => qT rfl (cB J) (Eg d call18 (fQ.gz (uz c.2 K (⟨(a.1).eH, (a.1).Tag⟩ : eY) (.slice j ((a.1).Tag).length k) _ _ (p3.mono (Pl.mono _) ((b2.trans d1).trans d.fw)) (a7.mono (Pl.mono _) (((((((((M.trans N).trans Q).trans D).trans G).trans H).trans I).trans b2).trans d1).trans d.fw)) o5)) (fun u8 d => V (ft (cB J) rfl) ?_))))
           have h := sj Z; subst h
           exact d2 _ _ ⟨_, (d.eS (Db (Db St))), l4, rfl⟩
          refine Vn rfl (cB J) (Vn rfl (cB J) (Vn rfl (cB J) (V (fq (cB J) rfl) ?_)))
          have h := sj Z; subst h
          exact d2 _ _ ⟨_, (d.eS (Db (Db St))), l4, rfl⟩
         refine bC b3 (fun Y b3 => ?_) (fun Y b3 => ?_)
         ·refine Vg rfl (cB Y) (eZ q8) (Vg rfl (cB Y) (gi rfl rfl rfl) (V (ft (cB Y) rfl) ?_))
          have h := sj b3; subst h
          exact d3 _ _ ⟨_, (d.eS St), l1, l2, l3, rfl⟩
         refine Vn rfl (cB Y) (Vn rfl (cB Y) (V (fq (cB Y) rfl) ?_))
         have h := sj b3; subst h
         exact d3 _ _ ⟨_, (d.eS St), l1, l2, l3, rfl⟩
        refine bC b4 (fun b0 b4 => ?_) (fun b0 b4 => ?_)
        ·refine Vg rfl (cB b0) (eZ q6) (V (ft (cB b0) rfl) ?_)
         have h := sj b4; subst h
         exact d4 _ _ ⟨_, (d.eS St), k7, k8, k9, l0, rfl⟩
        refine Vn rfl (cB b0) (V (fq (cB b0) rfl) ?_)
        have h := sj b4; subst h
        exact d4 _ _ ⟨_, (d.eS St), k7, k8, k9, l0, rfl⟩
       refine bC a0 (fun g a0 => ?_) (fun g a0 => ?_)
       ·refine Vg rfl (cB g) (eZ q3) (Vg rfl (cB g) (eU e8 (fh d.has (Mt Mh) [(.int .i64 (((a.1).eH).Kind)), (.string ((((a.1).eH).Head).eJ)), (.string ((((a.1).eH).Head).eK)), (.string (((a.1).eH).fa)), (.string ((((a.1).eH).B).eJ)), (.string ((((a.1).eH).B).eK)), (.string ((((a.1).eH).C).eJ)), (.string ((((a.1).eH).C).eK)), (.string (((a.1).eH).eX)), (.slice j ((a.1).Tag).length k)] rfl cz bh)) (Vg rfl (cB g) (eU q4 (fh d.has (Mt (Mt Mh)) (eO K7) rfl bj aC)) (Vg rfl (cB g) (gI (qs := #[(0, (.agg (eO K7).toArray))]) (v := (.agg C3.toArray)) (jc rfl) (fT bJ bQ (tX _ bQ) (by kernel_rfl))) (qT rfl (cB g) (fJ (qs := #[(0, (.agg #[(.int .i64 (((a.1).eH).Kind)), (.string ((((a.1).eH).Head).eJ)), (.string ((((a.1).eH).Head).eK)), (.string (((a.1).eH).fa)), (.string ((((a.1).eH).B).eJ)), (.string ((((a.1).eH).B).eK)), (.string ((((a.1).eH).C).eJ)), (.string ((((a.1).eH).C).eK)), (.string (((a.1).eH).eX)), (.slice j ((a.1).Tag).length k)])), (1, (.agg C3.toArray))]) (cs := #[(.int .i64 (((a.1).eH).Kind)), (.string ((((a.1).eH).Head).eJ)), (.string ((((a.1).eH).Head).eK)), (.string (((a.1).eH).fa)), (.string ((((a.1).eH).B).eJ)), (.string ((((a.1).eH).B).eK)), (.string ((((a.1).eH).C).eJ)), (.string ((((a.1).eH).C).eK)), (.string (((a.1).eH).eX)), (.slice j ((a.1).Tag).length k), (.int .i64 1), (.string (K5.eJ)), (.string (K5.eK)), (.string K3), (.string (K0.eJ)), (.string (K0.eK)), (.string (K0.eJ)), (.string (K0.eK)), (.string zS), (.slice none 0 0)]) d (kB rfl rfl) (lj [(.agg #[(.int .i64 (((a.1).eH).Kind)), (.string ((((a.1).eH).Head).eJ)), (.string ((((a.1).eH).Head).eK)), (.string (((a.1).eH).fa)), (.string ((((a.1).eH).B).eJ)), (.string ((((a.1).eH).B).eK)), (.string ((((a.1).eH).C).eJ)), (.string ((((a.1).eH).C).eK)), (.string (((a.1).eH).eX)), (.slice j ((a.1).Tag).length k)]), (.agg C3.toArray)] dl bh bJ (by decide) rfl (by intro v q; simp only [aB, bc, cy] at q; rcases q with rfl | rfl <;> rfl) rfl rfl) (fun u9 p5 d => bS a0 fun w3 o6 a0 => qT rfl (cB g) (mh d call9 (kV L f3.1 (.slice (some ⟨p5, 0, none⟩) 2 2) ([(⟨(a.1).eH, (a.1).Tag⟩ : eY), (⟨K7, []⟩ : eY)]) _ _ (d0.mono gd (((((((((((c1.trans c2).trans c6).trans M).trans N).trans Q).trans D).trans G).trans H).trans I).trans b2).trans d.fw)) ((iY.lit nS (l := [(⟨(a.1).eH, (a.1).Tag⟩ : eY), (⟨K7, []⟩ : eY)]) (.cons (ys := [(.int .i64 (((a.1).eH).Kind)), (.string ((((a.1).eH).Head).eJ)), (.string ((((a.1).eH).Head).eK)), (.string (((a.1).eH).fa)), (.string ((((a.1).eH).B).eJ)), (.string ((((a.1).eH).B).eK)), (.string ((((a.1).eH).C).eJ)), (.string ((((a.1).eH).C).eK)), (.string (((a.1).eH).eX)), (.slice j ((a.1).Tag).length k)]) (gV.mk ⟨(.slice j ((a.1).Tag).length k), rfl, (a7.mono (Pl.mono _) (((((((M.trans N).trans Q).trans D).trans G).trans H).trans I).trans b2))⟩) (.cons (ys := C3) (gV.mk ⟨(.slice none 0 0), rfl, (Sl.nil _ _ _)⟩) .nil)) rfl nb rfl).sl nS d.fw (fun b o hq => (by rw [aN] at hq; cases hq; exact d.at_ Mh))) o6) (fun v0 w9 t0 u0 d l5 c4 m9 => Vg rfl (cB g) (lB aK rfl m9) (Vg rfl (cB g) (gi rfl rfl rfl) (V (ft (cB g) rfl) ?_))))))))))
        have h := sj a0; subst h
        exact d5 _ _ ⟨t0, _, l5, (d.eS (Dr (Db (Kb (Kb (Db St)))))), k3, e8, k4, k5, k6, rfl⟩
       refine Vn rfl (cB g) (Vn rfl (cB g) (Vn rfl (cB g) (Vn rfl (cB g) (Vn rfl (cB g) (Vn rfl (cB g) (Vn rfl (cB g) (Vn rfl (cB g) (V (fq (cB g) rfl) ?_))))))))
       have h := sj a0; subst h
       exact d5 _ _ ⟨c3, _, (eT.refl _), (d.eS (Kb (Kb (Db St)))), k3, e8, k4, k5, k6, rfl⟩
      refine bC R (fun y R => ?_) (fun y R => ?_)
      ·refine Vg rfl (cB y) (eZ e7) (bS R fun w4 o7 R => qT rfl (cB y) (mh d call17 (pe L f3.1 _ _ (d0.mono gd ((((((((((c1.trans c2).trans c6).trans M).trans N).trans Q).trans D).trans G).trans H).trans I).trans d.fw)) o7) (fun v1 x0 t1 u1 d l6 c5 n0 => Vg rfl (cB y) (lB underlying54 rfl n0) (Vg rfl (cB y) (gi rfl rfl rfl) (V (ft (cB y) rfl) ?_)))))
       have h := sj R; subst h
       exact d6 _ _ ⟨t1, _, l6, (d.eS (Dr St)), j7, e7, j8, j9, k0, k1, k2, rfl⟩
      refine Vn rfl (cB y) (Vn rfl (cB y) (Vn rfl (cB y) (Vn rfl (cB y) (V (fq (cB y) rfl) ?_))))
      have h := sj R; subst h
      exact d6 _ _ ⟨a8, _, (eT.refl _), (d.eS St), j7, e7, j8, j9, k0, k1, k2, rfl⟩
     refine bC a2 (fun x a2 => ?_) (fun x a2 => ?_)
     ·refine Vg rfl (cB x) (eZ q0) (Vg rfl (cB x) (eU e6 (fh d.has (Mt Mh) [(.int .i64 (((a.1).eH).Kind)), (.string ((((a.1).eH).Head).eJ)), (.string ((((a.1).eH).Head).eK)), (.string (((a.1).eH).fa)), (.string ((((a.1).eH).B).eJ)), (.string ((((a.1).eH).B).eK)), (.string ((((a.1).eH).C).eJ)), (.string ((((a.1).eH).C).eK)), (.string (((a.1).eH).eX)), (.slice j ((a.1).Tag).length k)] rfl cz bh)) (bS a2 fun w5 o8 a2 => qT rfl (cB x) (Eg d call15 (fQ.gz (iw e2 t3.1 (⟨(a.1).eH, (a.1).Tag⟩ : eY) (.slice j ((a.1).Tag).length k) _ _ (p1.mono gd ((((D.trans G).trans H).trans I).trans d.fw)) (a7.mono (Pl.mono _) (((((((M.trans N).trans Q).trans D).trans G).trans H).trans I).trans d.fw)) o8)) (fun v2 d => Vg rfl (cB x) (gi rfl rfl rfl) (V (ft (cB x) rfl) ?_)))))
      have h := sj a2; subst h
      exact d7 _ _ ⟨_, (d.eS St), i9, j0, j3, e6, j4, j5, j6, rfl⟩
     refine Vn rfl (cB x) (Vn rfl (cB x) (Vn rfl (cB x) (Vn rfl (cB x) (V (fq (cB x) rfl) ?_))))
     have h := sj a2; subst h
     exact d7 _ _ ⟨_, (d.eS St), i9, j0, j3, e6, j4, j5, j6, rfl⟩
    refine bC a3 (fun u a3 => ?_) (fun u a3 => ?_)
    ·refine Vg rfl (cB u) (eZ e4) (Vg rfl (cB u) (eU e5 (fh d.has (Mt Mh) [(.int .i64 (((a.1).eH).Kind)), (.string ((((a.1).eH).Head).eJ)), (.string ((((a.1).eH).Head).eK)), (.string (((a.1).eH).fa)), (.string ((((a.1).eH).B).eJ)), (.string ((((a.1).eH).B).eK)), (.string ((((a.1).eH).C).eJ)), (.string ((((a.1).eH).C).eK)), (.string (((a.1).eH).eX)), (.slice j ((a.1).Tag).length k)] rfl cz bh)) (bS a3 fun w6 o9 a3 => qT rfl (cB u) (Eg d call15 (fQ.gz (iw L f3.1 (⟨(a.1).eH, (a.1).Tag⟩ : eY) (.slice j ((a.1).Tag).length k) _ _ (d0.mono gd ((((((((((c1.trans c2).trans c6).trans M).trans N).trans Q).trans D).trans G).trans H).trans I).trans d.fw)) (a7.mono (Pl.mono _) (((((((M.trans N).trans Q).trans D).trans G).trans H).trans I).trans d.fw)) o9)) (fun v3 d => Vg rfl (cB u) (gi rfl rfl rfl) (V (ft (cB u) rfl) ?_)))))
     have h := sj a3; subst h
     exact d8 _ _ ⟨_, (d.eS St), i3, e4, i4, e5, i5, i6, i7, i8, rfl⟩
    refine Vn rfl (cB u) (Vn rfl (cB u) (Vn rfl (cB u) (Vn rfl (cB u) (V (fq (cB u) rfl) ?_))))
    have h := sj a3; subst h
    exact d8 _ _ ⟨_, (d.eS St), i3, e4, i4, e5, i5, i6, i7, i8, rfl⟩
   refine bC b5 (fun t b5 => ?_) (fun t b5 => ?_)
   ·refine Vg rfl (cB t) (fe nB e3) (Vg rfl (cB t) (eU rfl (fx d.has (Mt Mh) rfl bU)) (Vg rfl (cB t) (gX az rfl a7) (Vg rfl (cB t) (gi rfl rfl rfl) (V (ft (cB t) rfl) ?_))))
    have h := sj b5; subst h
    exact d9 _ _ ⟨_, (d.eS St), h6, h7, h8, e3, h9, i0, i1, i2, rfl⟩
   refine Vn rfl (cB t) (Vn rfl (cB t) (Vn rfl (cB t) (Vn rfl (cB t) (V (fq (cB t) rfl) ?_))))
   have h := sj b5; subst h
   exact d9 _ _ ⟨_, (d.eS St), h6, h7, h8, e3, h9, i0, i1, i2, rfl⟩
  refine bC b6 (fun U b6 => ?_) (fun U b6 => ?_)
  ·refine Vg rfl (cB U) (eZ p6) (Vg rfl (cB U) (gi rfl rfl rfl) (V (ft (cB U) rfl) ?_))
   have h := sj b6; subst h
   exact e0 _ _ ⟨_, (d.eS St), g8, g9, h0, h1, h2, h3, h4, h5, rfl⟩
  refine Vn rfl (cB U) (Vn rfl (cB U) (V (fq (cB U) rfl) ?_))
  have h := sj b6; subst h
  exact e0 _ _ ⟨_, (d.eS St), g8, g9, h0, h1, h2, h3, h4, h5, rfl⟩
 refine bC b7 (fun T b7 => ?_) (fun T b7 => ?_)
 ·refine Vg rfl (cB T) (eZ rfl) (Vg rfl (cB T) (gi rfl rfl rfl) (V (ft (cB T) rfl) ?_))
  have h := sj b7; subst h
  exact e1 _ _ ⟨_, (d.eS St), rfl, rfl, rfl, rfl, rfl, rfl, rfl, rfl, rfl, rfl⟩
 refine Vn rfl (cB T) (Vn rfl (cB T) (V (fq (cB T) rfl) ?_))
 have h := sj b7; subst h
 exact e1 _ _ ⟨_, (d.eS St), rfl, rfl, rfl, rfl, rfl, rfl, rfl, rfl, rfl, rfl⟩
theorem pT (k : Value) (u : List eH) (r : Int) (w : World) (j : Sl (Pl eO) 9 (hp w) k u) (hm : mo u = some r) :
  fQ true Try.prog 6 [k] w (.int .i64 r) := by
 refine cG 54 func6 rfl (fun d => sg (Wa (lr (Wa (lS (Wm ?_))))))
 refine V (gX aK rfl j) (Wm (ln (jN (fun i E W => ∃ g t, (E 8 = .int .i64 (i : Nat) ∧ E 7 = .int .i64 (u.length : Nat)) ∧ ST true fY w W (hp w) t ∧ E 3 = (.int .i64 g) ∧ E 6 = k ∧ jO (u.drop i) g = some r) u.length j.len ⟨0, _, ⟨rfl, rfl⟩, (d.eS St), rfl, rfl, hm⟩ dc dc dc (fun _ _ _ h => by obtain ⟨_, _, o, _⟩ := h; exact o) ?_ ?_)))
 ·rintro I E W z ⟨g, t, ⟨n, p⟩, d, x, y, c⟩
  obtain ⟨a, J, G, D, H⟩ := jf z
  rw [G] at c
  refine bg (VQ (mZ (enc := eO) (i := (I : Int)) (x0 := a) aK aC y n j (bq _) D) (fun Q B => V (eU rfl (ng d.has B bj aC)) (VE (gN d bA (fun K N d => VO (fD (.agg (eO a).toArray) ((eO a).toArray) d rfl rfl aC (iT a) nb rfl (fun M d => ln (eW (Wh x (Wf nD (Wf mf (VB d Mh rfl rfl bF (V (jK aZ rfl) ?_)))))))))))))
  refine Wi rfl (Wf nD (Wf ob (VB d Mh rfl rfl bF (V (jK aZ rfl) (Wi rfl (Wf pg (VB d Mh rfl rfl bF (V (jK aZ rfl) (Wi rfl (Wf iB (Wf mf (VB d Mh rfl rfl bF (V (jK aZ rfl) (Wi rfl ?_))))))))))))))
  refine Wf iB (Wf ob (VB d Mh rfl rfl bF (V (jK aZ rfl) (Wi rfl (Wf nC (Wf mf (VB d Mh rfl rfl bF (V (jK aZ rfl) (Wi rfl (Wf nC (Wf ob (VB d Mh rfl rfl bF (V (jK aZ rfl) (Wi rfl ?_))))))))))))))
  refine Wf px (VB d Mh rfl rfl bF (V (jK aZ rfl) (Wi rfl (Wi rfl (Wa (fB (gF (fj ?_))))))))
  replace d := d.eS (Db St)
  exact ⟨n, (wi0 .i64 (g + (wi0 .i64 ((wi0 .i64 ((wi0 .i64 ((wi0 .i64 ((wi0 .i64 ((wi0 .i64 ((wi0 .i64 ((wi0 .i64 (20 + (a.Head.eJ.size : Int))) + (a.Head.eK.size : Int))) + (a.fa.size : Int))) + (a.B.eJ.size : Int))) + (a.B.eK.size : Int))) + (a.C.eJ.size : Int))) + (a.C.eK.size : Int))) + (a.eX.size : Int))))), _, ⟨rfl, p⟩, (d.eS St), rfl, y, (by rw [H]; exact c)⟩
 rintro E W ⟨g, t, ⟨n, p⟩, d, x, y, c⟩
 rw [bu] at c
 exact fj (sg (Wh x (Wa (lt (rQ c d)))))
theorem th (H : Value) (Q : List Key) (u : Value) (J : List eY) (r : Int) (w : World) (B : Sl js 2 (hp w) H Q) (D : Sl gV 10 (hp w) u J) (hm : nH Q J = some r) :
  fQ true Try.prog 5 [H, u] w (.int .i64 r) := by
 refine cG 45 func5 rfl (fun d => sg (Wa (lr (Wa (lS (Wm ?_))))))
 refine V (gX di rfl B) (Wm (ln (jN (fun i E W => ∃ t N, (E 12 = .int .i64 (i : Nat) ∧ E 11 = .int .i64 (Q.length : Nat)) ∧ ST true fY w W (hp w) N ∧ E 1 = u ∧ E 5 = (.int .i64 t) ∧ E 10 = H ∧ iS J (Q.drop i) t = some r) Q.length B.len ⟨0, _, ⟨rfl, rfl⟩, (d.eS St), rfl, rfl, rfl, hm⟩ dc dc dc (fun _ _ _ h => by obtain ⟨_, _, p, _⟩ := h; exact p) ?_ ?_)))
 ·rintro c3 E W b5 ⟨t, N, ⟨o, q⟩, d, U, Y, Z, g⟩
  obtain ⟨k, d4, b9, b7, c0⟩ := jf b5
  rw [b9] at g
  refine bg (VQ (pL (i := (c3 : Int)) (x0 := k) js.out di dH Z o B (bq _) b7) (fun d8 ⟨_, ⟨d9, rfl, a2⟩, b6⟩ => V (eU rfl (ng d.has b6 isAgg53 dH)) (VE (gN d cM (fun d5 d7 d => ?_)))))
  obtain ⟨v, A, rfl⟩ := a2.form
  refine VO (fD (.agg #[(.string k.fa), (.slice v k.Key.length A)]) (#[(.string k.fa), (.slice v k.Key.length A)]) d rfl rfl dH oc nb rfl (fun d6 d => ln (eW (Wh Y (Wf rI (VB d Mh rfl rfl bF (V (jK aZ rfl) (Wi rfl (Wf rX (VB d Mh rfl rfl bU (V (gX az rfl a2) (Wi rfl (Wi rfl (Wa ?_))))))))))))))
  refine fB (gF (fj ?_))
  replace d := d.eS (Db St)
  exact ⟨o, (wi0 .i64 (t + (wi0 .i64 ((wi0 .i64 (10 + (k.fa.size : Int))) + (k.Key.length : Int))))), _, ⟨rfl, q⟩, (d.eS St), U, rfl, Z, (by rw [c0]; exact g)⟩
 rintro E W ⟨t, N, ⟨o, q⟩, d, U, Y, Z, g⟩
 rw [bu] at g
 refine fj (fm (sg (Wh U (V (gX dl rfl D) (Wm (ln (CJ g (fun G E W => ∃ M, ST true fY w W (hp w) M ∧ E 5 = (.int .i64 G)) (fun G a5 => ?_) ?_)))))))
 ·refine jN (fun i E W => ∃ j x, (E 29 = .int .i64 (i : Nat) ∧ E 28 = .int .i64 (J.length : Nat)) ∧ ST true fY w W (hp w) x ∧ E 5 = (.int .i64 j) ∧ E 27 = u ∧ jP (J.drop i) j = some G) J.length D.len ⟨t, _, ⟨rfl, rfl⟩, (d.eS St), Y, rfl, a5⟩ dc dc dc (fun _ _ _ h => by obtain ⟨_, _, p, _⟩ := h; exact p) ?_ ?_
  ·rintro c1 E W a3 ⟨j, x, ⟨o, q⟩, d, y, z, c⟩
   obtain ⟨a, c4, a9, O, P⟩ := jf a3
   rw [a9] at c
   refine bg (VQ (pL (i := (c1 : Int)) (x0 := a) gV.out dl bh z o D (bq _) O) (fun d0 ⟨_, ⟨d1, rfl, I⟩, F⟩ => V (eU rfl (ng d.has F cz bh)) (VE (gN d bJ (fun c5 c9 d => ?_)))))
   obtain ⟨K, T, rfl⟩ := I.form
   let a0 := (C1 a.eH.Kind a.eH.Head.eJ a.eH.Head.eK a.eH.fa a.eH.B.eJ a.eH.B.eK a.eH.C.eJ a.eH.C.eK a.eH.eX K a.Tag.length T)
   refine VO (fD (.agg a0.toArray) (a0.toArray) d rfl rfl bh oc nb rfl (fun c6 d => ln ?_))
   replace d := d.drew
   have n := d.has.eS (Kb Sn)
   refine gU n gW (X 0 rfl n (eZ y) (X 1 rfl n (fe mH rfl) (XH 2 rfl n (fun _ s => eU rfl (fh s Mh (eO a.eH) rfl bj aC)) (X 5 rfl n (fe nB rfl) (XH 6 rfl n (fun _ s => eU rfl (fx s Mh rfl bU)) (X 7 rfl n (gX az rfl I) (XE 3 rfl (fJ (cs := (eO a.eH).toArray) d (jc rfl) (mj aK aC bA) (fun c7 R d => ?_)))))))))
   have n := d.has.eS (Db (Kb Sn))
   refine ⟨n, (bS c fun c2 L c => XE 4 rfl (Eg d call6 (pT (.slice (some ⟨R, 0, none⟩) 1 1) ([a.eH]) _ _ (Sl.lit (enc := eO) (l := [a.eH]) gO rfl nb rfl (d.at_ Mh)) L) (fun c8 d => ?_)))⟩
   have n := d.has.eS (Db (Kb Sn))
   refine ⟨n, (X 8 rfl n (gi rfl rfl rfl) (X 9 rfl n (gi rfl rfl rfl) (X 10 rfl n (fO rfl) (jo kr (gF (fj ?_))))))⟩
   replace d := d.eS (Db (Db St))
   exact ⟨o, (wi0 .i64 (j + (wi0 .i64 (c2 + (a.Tag.length : Int))))), _, ⟨rfl, q⟩, (d.eS St), rfl, z, (by rw [P]; exact c)⟩
  rintro E W ⟨j, x, ⟨o, q⟩, d, y, z, c⟩
  rw [bu] at c
  refine fj ?_
  obtain rfl := sj c
  exact ⟨_, (d.eS St), y⟩
 rintro d3 E W ⟨M, d, b4⟩ a4
 exact sg (Wh b4 (Wa (lt (rQ a4 d))))
theorem pd (i : Nat) (G : eP) (k : Value) (t : Nat) (a : eY) (j : Value) (s : (Int ⊕ (eP × eY))) (w : World) {K : eV} (O : jL K ((i, Ob #[k, (.bool G.fH)] 72) :: ((t, Ob #[(.int .i64 a.eH.Kind), (.string a.eH.Head.eJ), (.string a.eH.Head.eK), (.string a.eH.fa), (.string a.eH.B.eJ), (.string a.eH.B.eK), (.string a.eH.C.eJ), (.string a.eH.C.eK), (.string a.eH.eX), j] 36) :: [])) w) (u : Sl (Pl (eQ .u8)) 1 K k G.b) (Q : Sl (Pl (eQ .u8)) 1 K j a.Tag) (hm : ky G a = some s) :
  fc true Try.prog 13 [(.pointer (some ⟨i, 0, none⟩)), (.pointer (some ⟨t, 0, none⟩))] w K ((i, Ob #[k, (.bool G.fH)] 72) :: ((t, Ob #[(.int .i64 a.eH.Kind), (.string a.eH.Head.eJ), (.string a.eH.Head.eK), (.string a.eH.fa), (.string a.eH.B.eJ), (.string a.eH.B.eK), (.string a.eH.C.eJ), (.string a.eH.C.eK), (.string a.eH.eX), j] 36) :: [])) s (fun r v N Y => ∃ E F, v = (.tuple #[]) ∧ N = ((i, Ob #[E, (.bool ((r.1).fH))] 72) :: ((t, Ob #[(.int .i64 (((r.2).eH).Kind)), (.string ((((r.2).eH).Head).eJ)), (.string ((((r.2).eH).Head).eK)), (.string (((r.2).eH).fa)), (.string ((((r.2).eH).B).eJ)), (.string ((((r.2).eH).B).eK)), (.string ((((r.2).eH).C).eJ)), (.string ((((r.2).eH).C).eK)), (.string (((r.2).eH).eX)), F] 36) :: [])) ∧ Sl (Pl (eQ .u8)) 1 Y E ((r.1).b) ∧ Sl (Pl (eQ .u8)) 1 Y F ((r.2).Tag)) (fun x c N Y => ∃ y z, c = [{ v := kO 96 i x, recovered := false }] ∧ N = ((i, Ob #[y, z] 72) :: ((t, Ob #[(.int .i64 a.eH.Kind), (.string a.eH.Head.eJ), (.string a.eH.Head.eK), (.string a.eH.fa), (.string a.eH.B.eJ), (.string a.eH.B.eK), (.string a.eH.C.eJ), (.string a.eH.C.eK), (.string a.eH.eX), j] 36) :: []))) := by
 have d := ST.kG (dd := true) O
 refine ig (n := 5) func13 rfl rfl nb (eW (Wm (bS hm fun L M hm => ?_)))
 rcases L with b1 | g
 ·have q := d.size
  refine iL (.inl rfl) (gl (args := [(.pointer (some ⟨i, 0, none⟩))]) (caps := #[]) _ _ d (Cb Pz Cn) rfl call14 (by exact jA rfl) (fun hH P p W => (fc.l (mS i G k _ _ ⟨hH, P, p⟩ (u.mono (Pl.mono _) (eT.refl _)) M))) (fun W3 b0 A L9 d B h o => ?_))
  obtain ⟨b3, b4, T, rfl⟩ := o
  replace d := d.perm (Tb Tn)
  refine gP ?_
  obtain rfl := sj hm
  exact fI.li ⟨_, _, _, rfl, (d.fR (Kb (Kb Sn))), B, h, (ST.fl d (fM.mem (Kb (Kb Sn)))), ⟨_, _, T, rfl⟩⟩
 have q := d.size
 refine VE (eD d (Cb Pz Cn) call14 (fun R => (fc.r (mS i G k _ _ R (u.mono (Pl.mono _) (eT.refl _)) M))) ?_)
 rintro W3 v7 A L9 d B h ⟨b2, a3, D, rfl, J, U⟩
 obtain rfl := D.symm
 replace d := d.perm (Tb Tn)
 obtain ⟨H, I, rfl⟩ := J.form
 let Z : Value := (.slice H ((g.1).Tag).length I)
 replace d := d.perm (Nb (Pb Pz) Nz)
 let a0 := (((g.1).eH).Head)
 refine VO (fD (.agg #[(.int .i64 (((g.1).eH).Kind)), (.string (a0.eJ)), (.string (a0.eK)), (.string (((g.1).eH).fa)), (.string ((((g.1).eH).B).eJ)), (.string ((((g.1).eH).B).eK)), (.string ((((g.1).eH).C).eJ)), (.string ((((g.1).eH).C).eK)), (.string (((g.1).eH).eX)), Z]) (#[(.int .i64 (((g.1).eH).Kind)), (.string (a0.eJ)), (.string (a0.eK)), (.string (((g.1).eH).fa)), (.string ((((g.1).eH).B).eJ)), (.string ((((g.1).eH).B).eK)), (.string ((((g.1).eH).C).eJ)), (.string ((((g.1).eH).C).eK)), (.string (((g.1).eH).eX)), Z]) d rfl rfl bh oc nb rfl (fun a9 d => fB (sK (uF ?_))))
 obtain rfl := sj hm
 exact uy rfl (fI.ri ⟨_, _, _, rfl, (d.fR (Sb (Pb Pz) (Kb Sn))), B, h, (ST.fl d (fM.mem (Sb (Pb Pz) (Kb Sn)))), a3, Z, rfl, rfl, U, J⟩)
theorem nI (u : Value) (H : List Int) (i : Nat) (a : eY) (g : Value) (r : (Int × eY)) (w : World) {G : eV} (D : jL G ((i, Ob #[(.int .i64 a.eH.Kind), (.string a.eH.Head.eJ), (.string a.eH.Head.eK), (.string a.eH.fa), (.string a.eH.B.eJ), (.string a.eH.B.eK), (.string a.eH.C.eJ), (.string a.eH.C.eK), (.string a.eH.eX), g] 36) :: []) w) (I : Sl (Pl (eQ .u8)) 1 G u H) (j : Sl (Pl (eQ .u8)) 1 G g a.Tag) (hm : ij H a = some r) :
  gm true Try.prog 11 [u, (.func (.func 13) #[] #[(.pointer (some ⟨i, 0, none⟩))])] w G ((i, Ob #[(.int .i64 a.eH.Kind), (.string a.eH.Head.eJ), (.string a.eH.Head.eK), (.string a.eH.fa), (.string a.eH.B.eJ), (.string a.eH.B.eK), (.string a.eH.C.eJ), (.string a.eH.C.eK), (.string a.eH.eX), g] 36) :: []) (fun v t B => ∃ k, v = (.int .i64 (r.1)) ∧ t = ((i, Ob #[(.int .i64 (((r.2).eH).Kind)), (.string ((((r.2).eH).Head).eJ)), (.string ((((r.2).eH).Head).eK)), (.string (((r.2).eH).fa)), (.string ((((r.2).eH).B).eJ)), (.string ((((r.2).eH).B).eK)), (.string ((((r.2).eH).C).eJ)), (.string ((((r.2).eH).C).eK)), (.string (((r.2).eH).eX)), k] 36) :: []) ∧ Sl (Pl (eQ .u8)) 1 B k ((r.2).Tag)) := by
 refine bS hm fun l h hm => bS hm fun s n hm => ?_
 obtain rfl := sj hm
 refine gm.mono (qO 13 #[(.pointer (some ⟨i, 0, none⟩))] u H l s (fun r => (r.1).b) w D I h (fun r t B => ∃ k, t = ((i, Ob #[(.int .i64 (((r.2).eH).Kind)), (.string ((((r.2).eH).Head).eJ)), (.string ((((r.2).eH).Head).eK)), (.string (((r.2).eH).fa)), (.string ((((r.2).eH).B).eJ)), (.string ((((r.2).eH).B).eK)), (.string ((((r.2).eH).C).eJ)), (.string ((((r.2).eH).C).eK)), (.string (((r.2).eH).eX)), k] 36) :: []) ∧ Sl (Pl (eQ .u8)) 1 B k ((r.2).Tag)) (fun x t B => t = ((i, Ob #[(.int .i64 a.eH.Kind), (.string a.eH.Head.eJ), (.string a.eH.Head.eK), (.string a.eH.fa), (.string a.eH.B.eJ), (.string a.eH.B.eK), (.string a.eH.C.eJ), (.string a.eH.C.eK), (.string a.eH.eX), g] 36) :: [])) call13 (fun L μ' F o K hle q => fc.mono (pd F (⟨l, false⟩ : eP) o i a g s L K q (j.mono (Pl.mono _) hle) n) ?_ ?_)) ?_
 ·rintro r v t B ⟨O, k, M, d, J, D⟩; exact ⟨_, _, _, d, J, k, rfl, D⟩
 ·rintro x c t B ⟨y, z, A, d⟩; exact ⟨y, z, _, A, d, rfl⟩
 rintro v t B E ⟨rfl, p⟩
 cases s with
 | inl x => exact ⟨g, rfl, p, (j.mono (Pl.mono _) E)⟩
 | inr r => obtain ⟨k, d, D⟩ := p; exact ⟨k, rfl, d, D⟩
set_option maxHeartbeats 4000000 in
theorem re (b0 : Value) (a0 : List Key) (J : eH) (r : Bool) (w : World) (e9 : Sl js 2 (hp w) b0 a0) (hm : kU a0 J = some r) :
  fQ false Try.prog 3 [b0, (.agg (eO J).toArray)] w (.bool r) := by
 refine cG 93 func3 rfl (fun d => sg (VE (iM d rfl (fun W2 L d => Wa (lS (bS hm fun r3 l3 hm => VE (Eg d call4 (tj  _ _  l3) (fun W5 d => V (ly rfl) (ln ?_)))))))))
 refine CI hm rfl (fun l1 hm => ?_) (fun l1 hm => ?_)
 ·refine sg (Wa (ln ?_))
  replace d := d.eS (Db St)
  refine gq (ga ?_)
  obtain rfl := sj hm
  exact rP d
 refine kS (Wm (bS hm fun r7 l4 hm => VE (Eg d call5 (fQ.gz (th b0 a0 (.slice none 0 0) ([]) _ _ (e9.mono nJ.mono d.fw) (Sl.nil _ _ _) l4)) (fun W9 d => Wi rfl (Wm (LJ hm (fun f4 E W => ∃ h3, ST false fY w W (hp w) ((L, Ol (eO J) 26) :: h3) ∧ E 0 = b0 ∧ E 3 = (.pointer (some ⟨L, 0, none⟩)) ∧ E 22 = (.bool f4)) 5 ?_ (fun f4 I c5 => ?_)))))))
 ·let s0 : Value := (.pointer (some ⟨L, 0, none⟩))
  let r9 := ((eO J).toArray : Array Value)
  rintro q6 E W ⟨h3, d, k8, e8, k9⟩ g
  refine ln (CI g k9 (fun j5 g => ?_) (fun j5 g => ?_))
  ·refine sg (Wa (ln ?_))
   replace d := d.eS (Db St)
   refine gq (ga ?_)
   obtain rfl := sj g
   exact rP d
  refine kg (Wh k8 (bS g fun c6 j9 g => ?_))
  refine VE (eD d (bW _) call7 (fun O => gm.gz (nR b0 a0 _ _ O (e9.mono nJ.mono (eT.refl _)) j9)) ?_ (L0 := []))
  rintro _ q2 q9 o8 d l8 ah ⟨F, d2, rfl, P⟩
  obtain rfl := d2.symm
  refine Wm (Wx rfl (Wx rfl (Wa (Wa (lS (Wm (Wi rfl (ln (CI g rfl (fun j6 g => ?_) (fun j6 g => ?_))))))))))
  ·refine sg (Wm (V (pG underlying30 P rfl rfl) (Wa (ln ?_))))
   replace d := d.eS (Db St)
   refine gq (ga ?_)
   obtain rfl := sj g
   exact rP d
  refine kg (Wm (V (eU e8 (fh d.has Mh (eO J) rfl bj aC)) (bS g fun a k0 g => ?_)))
  let s5 := (⟨(a.1).eH, (a.1).Tag⟩ : eY)
  let m1 : Value := (.string (((a.1).eH).fa))
  let n : Value := (.string (((a.1).eH).eX))
  let j2 : Value := (.int .i64 (((a.1).eH).Kind))
  let j1 : Value := (.string ((((a.1).eH).C).eK))
  let h : Value := (.string ((((a.1).eH).B).eK))
  let i9 : Value := (.string ((((a.1).eH).C).eJ))
  let f7 : Value := (.string ((((a.1).eH).B).eJ))
  let f6 := (((a.1).eH).Head)
  let s : Value := (.string (f6.eK))
  let q : Value := (.string (f6.eJ))
  refine VE (eD d (bW _) call8 (fun O => gm.gz (mK F c6.1 J _ _ O (P.mono gd (eT.refl _)) k0)) ?_ (L0 := []))
  rintro _ q3 h7 o9 d a9 ai ⟨q8, d3, rfl, R⟩
  obtain rfl := d3.symm
  refine Wm (Wx rfl (Wx rfl (VE (gN d bJ (fun p4 b5 d => ?_)))))
  let s6 : Value := (.pointer (some ⟨b5, 0, none⟩))
  obtain ⟨j, k, rfl⟩ := R.form
  let b8 : Value := (.slice j ((a.1).Tag).length k)
  let a1 := (#[j2, q, s, m1, f7, h, i9, j1, n, b8] : Array Value)
  refine VO (fD (.agg #[j2, q, s, m1, f7, h, i9, j1, n, b8]) (#[j2, q, s, m1, f7, h, i9, j1, n, b8]) d rfl rfl bh oc nb rfl (fun p5 d => Wa (lS (Wm (Wi rfl (ln (CI g rfl (fun j7 g => ?_) (fun j7 g => ?_))))))))
  ·refine sg (Wf nB (VB d Mh rfl rfl bU (V (gX az rfl R) (Wi rfl (Wm (LJ g (fun h6 E W => ∃ f5 h4, eT h7 f5 ∧ ST false fY w W f5 h4 ∧ E 51 = (.bool h6)) 7 ?_ (fun h6 Q d7 => ?_)))))))
   ·rintro q7 E W ⟨f5, h4, l9, d, l0⟩ j8
    refine Wg l0 (lt (ga ?_))
    obtain rfl := sj j8
    exact rP d
   refine bC Q (fun t Q => ?_) (fun t Q => ?_)
   ·refine ug t (eZ rfl) (ug t (eU rfl (fh d.has Mh [j2, q, s, m1, f7, h, i9, j1, n, b8] rfl cz bh)) (lA t (fJ (cs := #[j2, q, s, m1, f7, h, i9, j1, n, b8]) d (jc rfl) (mj dl bh bJ) (fun p6 k7 d => bS Q fun q1 k1 Q => lA t (mh d call9 (kV F c6.1 (.slice (some ⟨k7, 0, none⟩) 1 1) ([a.1]) _ _ (P.mono gd (a9.trans d.fw)) ((iY.lit nS (l := [a.1]) (.cons (ys := [j2, q, s, m1, f7, h, i9, j1, n, b8]) (gV.mk ⟨b8, rfl, R⟩) .nil) rfl nb rfl).sl nS d.fw (fun b o A => (by rw [aN] at A; cases A; exact d.at_ Mh))) k1) (fun p7 q4 l6 p1 d f9 aj j4 => ug t (lB aK rfl j4) (ug t (gi rfl rfl rfl) (V (ft (cB t) rfl) ?_))))))))
    obtain rfl := sj Q
    exact d7 _ _ ⟨l6, _, f9, (d.eS (Dr (Db (Db (Db St))))), rfl⟩
   refine un t (un t (un t (un t (un t (un t (V (fq (cB t) rfl) ?_))))))
   obtain rfl := sj Q
   exact d7 _ _ ⟨h7, _, (eT.refl _), (d.eS (Db (Db St))), rfl⟩
  refine kg (V (gI (v := (.agg #[(.slice none 0 0)])) nz (fT zeroValue43 cN (yd _ cN) kr)) (VE (iM d rfl (fun p8 h5 d => Wa (lr (VE (gN d bJ (fun p9 U d => ln (fm ?_)))))))))
  let s1 : Value := (.pointer (some ⟨U, 0, none⟩))
  refine eW (Wm (VA d (Mt (Mt Mh)) [j2, q, s, m1, f7, h, i9, j1, n, b8] cz bh (bS g fun l5 k2 g => ?_)))
  refine VE (eM d (Cb (Pb Pz) (C0 Cn)) call10 (fun O ag => fX.gz (pZ h5 (.slice none 0 0) ([]) [] a.1 b8 _ _ O (fp.nil _ _ _) (R.mono (Pl.mono _) ag) k2)) ?_)
  rintro _ q5 r0 p0 d Y ak af ⟨k5, m5, b6, rfl, h2⟩
  obtain rfl := b6.symm
  replace d := d.perm (Tb (Tr Tn))
  refine Wa (lr (Wm (bS g fun k3 g5 g => VE (mh d call12 (gu.gz (mD h5 k5 l5.2 _ _ (h2.sl (fun _ => rfl) (fun b o A => d.at_ (Mt (Ml A)))) (At.of (d.at_ Mh) _ rfl) g5)) (fun m6 k4 o6 m3 d K aa d6 => V (oZ (by exact jA rfl) rfl) ?_)))))
  have l7 := d6.yo d (fun p A => (Ml A))
  obtain ⟨o7, d, M, ab, h1⟩ := ST.sG d d6 (fun _ => rfl)
  refine bS g fun c g6 g => ?_
  let r8 : Value := (.string (((c.2).eH).fa))
  let r6 : Value := (.string (((c.2).eH).eX))
  let r5 : Value := (.int .i64 (((c.2).eH).Kind))
  let r4 : Value := (.string ((((c.2).eH).C).eK))
  let r2 : Value := (.string ((((c.2).eH).B).eK))
  let r1 : Value := (.string ((((c.2).eH).C).eJ))
  let q0 : Value := (.string ((((c.2).eH).B).eJ))
  let m7 := (((c.2).eH).Head)
  let s3 : Value := (.string (m7.eK))
  let s2 : Value := (.string (m7.eJ))
  refine VE (eD d (Cb (Pb (Pr Pz)) Cn) call11 (fun O => gm.gz (nI k4 k3 U (⟨K6, []⟩ : eY) (.slice none 0 0) _ _ O (h1.mono (Pl.mono _) (eT.refl _)) (Sl.nil _ _ _) g6)) ?_)
  rintro _ n9 b2 m2 d N ad ⟨T, b7, rfl, a3⟩
  let b4 := (#[r5, s2, s3, r8, q0, r2, r1, r4, r6, T] : Array Value)
  obtain rfl := b7.symm
  replace d := d.perm (Tb Tn)
  refine Wa (ln ?_)
  replace d := d.eS (Kb (Db (Dr St)))
  refine sg (Wm (Wm (LJ g (fun f3 E W => ∃ d8, ST false fY w W b2 ((U, Obj.cells b4 36 (0, 0)) :: ((b5, Obj.cells a1 36 (0, 0)) :: ((L, Obj.cells r9 26 (0, 0)) :: d8))) ∧ E 3 = s0 ∧ E 5 = F ∧ E 7 = s6 ∧ E 9 = s1 ∧ E 65 = (.bool f3)) 3 ?_ (fun f3 a2 c4 => ?_))))
  ·rintro o1 E W ⟨d8, d, e3, c7, c8, e4, i0⟩ g0
   refine Wh i0 (LJ g0 (fun f2 E W => ∃ d9, ST false fY w W b2 ((U, Obj.cells b4 36 (0, 0)) :: ((b5, Obj.cells a1 36 (0, 0)) :: ((L, Obj.cells r9 26 (0, 0)) :: d9))) ∧ E 3 = s0 ∧ E 5 = F ∧ E 7 = s6 ∧ E 9 = s1 ∧ E 71 = (.bool f2)) 5 ?_ (fun f2 H c3 => ?_))
   ·rintro o2 E W ⟨d9, d, e5, c9, e6, d0, i1⟩ g1
    refine Wh i1 (LJ g1 (fun f1 E W => ∃ e0, ST false fY w W b2 ((U, Obj.cells b4 36 (0, 0)) :: ((b5, Obj.cells a1 36 (0, 0)) :: ((L, Obj.cells r9 26 (0, 0)) :: e0))) ∧ E 3 = s0 ∧ E 5 = F ∧ E 7 = s6 ∧ E 9 = s1 ∧ E 77 = (.bool f1)) 5 ?_ (fun f1 G c2 => ?_))
    ·rintro o3 E W ⟨e0, d, e7, i2, i3, d1, i4⟩ g2
     refine Wh i4 (LJ g2 (fun d4 E W => ∃ d5 b3 e1, eT b2 b3 ∧ ST false fY w W b3 ((U, Ob #[r5, s2, s3, r8, q0, r2, r1, r4, r6, d5] 36) :: ((L, Obj.cells r9 26 (0, 0)) :: e1)) ∧ E 3 = s0 ∧ E 9 = s1 ∧ E 86 = (.bool d4.1) ∧ Sl (Pl (eQ .u8)) 1 b3 d5 d4.2) 8 ?_ (fun d4 D c1 => ?_))
     ·rintro ⟨o4, n4⟩ E W ⟨d5, b3, e1, l2, d, i5, i6, i7, m0⟩ g3
      refine Wh i7 (LJ g3 (fun f0 E W => ∃ e2, ST false fY w W b3 e2 ∧ E 92 = (.bool f0)) 5 ?_ (fun f0 Z c0 => ?_))
      ·rintro o5 E W ⟨e2, d, i8⟩ g4
       exact Wg i8 (lt (rQ g4 d))
      refine bC Z (fun y Z => ?_) (fun y Z => ?_)
      ·refine ug y (fe mH i6) (ug y (eU rfl (fh d.has Mh (eO ((c.2).eH)) rfl bj aC)) (ug y (eU i5 (fh d.has (Mt Mh) (eO J) rfl bj aC)) (ug y (tC rfl rfl (nq dF) (qD (om _ ((c.2).eH) J))) (V (ft (cB y) rfl) ?_))))
       obtain rfl := sj Z
       exact c0 _ _ ⟨_, (d.eS (Db (Db St))), rfl⟩
      refine un y (un y (un y (un y (V (fq (cB y) rfl) ?_))))
      obtain rfl := sj Z
      exact c0 _ _ ⟨_, (d.eS (Db (Db St))), rfl⟩
     refine bC D (fun i D => ?_) (fun i D => ?_)
     ·refine ug i (eZ i2) (ug i (eU i3 (fh d.has (Mt Mh) [j2, q, s, m1, f7, h, i9, j1, n, b8] rfl cz bh)) (ug i (eU d1 (fh d.has Mh [r5, s2, s3, r8, q0, r2, r1, r4, r6, T] rfl cz bh)) ?_))
      obtain ⟨a4, a5, rfl⟩ := a3.form
      let s4 : Value := (.slice a4 ((c.2).Tag).length a5)
      refine lA i (fJ (cs := #[j2, q, s, m1, f7, h, i9, j1, n, b8, r5, s2, s3, r8, q0, r2, r1, r4, r6, s4]) d (kB rfl rfl) (mj dl bh bJ) (fun m8 h8 d => bS D fun n5 g7 D => lA i (mh d call9 (kV F c6.1 (.slice (some ⟨h8, 0, none⟩) 2 2) ([s5, c.2]) _ _ (P.mono gd (((((a9.trans Y).trans K).trans M).trans N).trans d.fw)) ((iY.lit nS (l := [s5, c.2]) (.cons (ys := [j2, q, s, m1, f7, h, i9, j1, n, b8]) (gV.mk ⟨b8, rfl, (R.mono (Pl.mono _) (((Y.trans K).trans M).trans N))⟩) (.cons (ys := [r5, s2, s3, r8, q0, r2, r1, r4, r6, s4]) (gV.mk ⟨s4, rfl, a3⟩) .nil)) rfl nb rfl).sl nS d.fw (fun b o A => (by rw [aN] at A; cases A; exact d.at_ Mh))) g7) (fun m9 o0 k6 m4 d b9 ae f8 => ug i (lB aK rfl f8) (ug i (gi rfl rfl rfl) (V (ft (cB i) rfl) ?_))))))
      obtain rfl := sj D
      exact c1 _ _ ⟨s4, k6, _, b9, (d.eS (Dr (Db (Kb (Db St))))), e7, d1, rfl, (a3.mono (Pl.mono _) b9)⟩
     refine un i (un i (un i (un i (un i (un i (un i (V (fq (cB i) rfl) ?_)))))))
     obtain rfl := sj D
     exact c1 _ _ ⟨T, b2, _, (eT.refl _), (d.eS (Kb (Db St))), e7, d1, rfl, a3⟩
    refine bC G (fun x G => ?_) (fun x G => ?_)
    ·refine ug x (eZ c9) (ug x (eU d0 (fh d.has Mh [r5, s2, s3, r8, q0, r2, r1, r4, r6, T] rfl cz bh)) (bS G fun n6 g8 G => lA x (Eg d call15 (fQ.gz (iw F c6.1 c.2 T _ _ (P.mono gd (((((a9.trans Y).trans K).trans M).trans N).trans d.fw)) (a3.mono (Pl.mono _) d.fw) g8)) (fun n0 d => ug x (gi rfl rfl rfl) (V (ft (cB x) rfl) ?_)))))
     obtain rfl := sj G
     exact c2 _ _ ⟨_, (d.eS St), e5, c9, e6, d0, rfl⟩
    refine un x (un x (un x (un x (V (fq (cB x) rfl) ?_))))
    obtain rfl := sj G
    exact c2 _ _ ⟨_, (d.eS St), e5, c9, e6, d0, rfl⟩
   refine bC H (fun u H => ?_) (fun u H => ?_)
   ·refine ug u (eZ c7) (ug u (eU c8 (fh d.has (Mt Mh) [j2, q, s, m1, f7, h, i9, j1, n, b8] rfl cz bh)) (bS H fun n7 g9 H => lA u (Eg d call15 (fQ.gz (iw F c6.1 (s5) b8 _ _ (P.mono gd (((((a9.trans Y).trans K).trans M).trans N).trans d.fw)) (R.mono (Pl.mono _) ((((Y.trans K).trans M).trans N).trans d.fw)) g9)) (fun n1 d => ug u (gi rfl rfl rfl) (V (ft (cB u) rfl) ?_)))))
    obtain rfl := sj H
    exact c3 _ _ ⟨_, (d.eS St), e3, c7, c8, e4, rfl⟩
   refine un u (un u (un u (un u (V (fq (cB u) rfl) ?_))))
   obtain rfl := sj H
   exact c3 _ _ ⟨_, (d.eS St), e3, c7, c8, e4, rfl⟩
  refine bC a2 (fun B a2 => ?_) (fun B a2 => ?_)
  ·refine ug B (eZ rfl) (ug B (gi rfl rfl rfl) (V (ft (cB B) rfl) ?_))
   obtain rfl := sj a2
   exact c4 _ _ ⟨_, (d.eS St), e8, rfl, rfl, rfl, rfl⟩
  refine un B (un B (V (fq (cB B) rfl) ?_))
  obtain rfl := sj a2
  exact c4 _ _ ⟨_, (d.eS St), e8, rfl, rfl, rfl, rfl⟩
 refine bC I (fun z I => ?_) (fun z I => ?_)
 ·refine un z (un z (un z (un z (V (ft (cB z) rfl) ?_))))
  obtain rfl := sj I
  exact c5 _ _ ⟨_, (d.eS St), rfl, rfl, rfl⟩
 refine ug z (eU rfl (fh d.has Mh (eO J) rfl bj aC)) (lA z (fJ (cs := (eO J).toArray) d (jc rfl) (mj aK aC bA) (fun n2 h9 d => bS I fun n8 h0 I => lA z (Eg d call6 (fQ.gz (pT (.slice (some ⟨h9, 0, none⟩) 1 1) ([J]) _ _ (Sl.lit (enc := eO) (l := [J]) gO rfl nb rfl (d.at_ Mh)) h0)) (fun n3 d => ug z (gi rfl rfl rfl) (V (fq (cB z) rfl) ?_))))))
 obtain rfl := sj I
 exact c5 _ _ ⟨_, (d.eS (Db St)), rfl, rfl, rfl⟩
end Go.Proofs.Ytcafmokjkjcomaa
